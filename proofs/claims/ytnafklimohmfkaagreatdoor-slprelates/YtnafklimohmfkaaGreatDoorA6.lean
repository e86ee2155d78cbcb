/- A part of the proof: no condition. -/
import Derived.Test.YtnafklimohmfkaaGreatDoorA5
import Derived.Test.YtnafklimohmfkaaGreatDoorA2
import Derived.Test.YtnafklimohmfkaaGreatDoorA4
set_option linter.unusedSectionVars false
set_option linter.unusedVariables false
section
namespace Go.h6
open Go.Ab Go.hd
variable(G:Nat→ai)(X:Nat→List ai→aq→ao)
theorem ZB(l:List aO){g:cd}(bD:∀a,g≠.bQ a)(n:Nat)(bX:n≤l.length)(S:aq)(k:a1):(aH au G X).jy 12 (bP l g) none (some (.int .i64 (n:Int))) none S k=k (bP (l.take n) (ln g l.length n)) S:=by show lM 12 (.aW 12 (l.map aO.enc) g) none (some (.int .i64 (n:Int))) none S k=_;unfold lM;simp only[pB,hs,fE,dN (Nat.zero_le n),show Nat.ble n (l.map aO.enc).length=true from dN (by simpa using bX),show qC g 0 n (l.map aO.enc)=true from by cases g<;> first|rfl |exact absurd rfl (bD _),eD,cb,bT,Nat.sub_zero,List.map_take,bP];cases g<;> first|rfl |exact absurd rfl (bD _)|simp [ln]
theorem du(l:List aO){g:cd}(bD:∀a,g≠.bQ a)(d:Nat):ai.ak d (bP l g)=bP l g:=by simp only[ai.ak,QR bD]
theorem E6(d i o:Nat):ai.ak d (.ref (.l i) o)=.ref (.g d i) o:=rfl
theorem QS(s:aq)(o:bd):(s.new o).get (.g (s.new o).aa s.own.length)=some o:=by simp [aq.get,aq.new]
theorem qp{s:aq}{k:a1}(b:Bool):(aH au G X).ah s k (iN .not (.bool b))=k (.bool (!b)) s:=eY b
section
variable(pre:List aO)(x:aO)(g:cd)(bD:∀a,g≠.bQ a)(s:aq)(aU:pre.length<9223372036854775806)(aT:mh x)
include bD aU
theorem QT:EG (aH au G X) (bP (pre++[x]) g) (.int .i64 (pre.length:Int)) (.ref (.l s.af.own.length) 0) (s.af.new (.cells x.cs))=.ok (.bool (!mG pre x)) s:=by
 have aW:=fun(S:aq) (k:a1)=>ZB G X (pre++[x]) bD pre.length (by simp) S k
 rw[List.take_left' rfl] at aW;have e:=y0 bD (pre++[x]).length pre.length;have c:=ah7 G X pre _ e x (s.af.new (.cells x.cs)) _ _ (aX _) (QS s.af (.cells x.cs)) (by omega);rw[Oj,aW,gI,E6,du _ e,RZ];rw[aK c,eY,eH ((Child.af s).new _)];rfl
include aT
theorem QU:EH (aH au G X) (bP (pre++[x]) g) (.int .i64 (pre.length:Int)) (.ref (.l s.af.own.length) 0) (s.af.new (.cells x.cs))=.ok (.bool (qn x&& !mG pre x)) s:=by
 have e:=QT G X pre x g bD s aU;have h:=CQ G X aT.wT aT.fj (s.af.new (.cells x.cs));have y:=CQ G X aT.B7 aT.xW (s.af.new (.cells x.cs));have bU:=Ma G X x.wT x.fj (s.af.new (.cells x.cs));have r:=Ma G X x.B7 x.xW (s.af.new (.cells x.cs));have fin:=fun b=>eH (T:=au) (G:=G) (X:=X) ((Child.af s).new (.cells x.cs)) b
 rw[Ok,aA,cf,qo,bi];unfold qn;by_cases aD:x.op=1
 ·simp only[a7 aD,ej,cR,aA,cf,↓qo,↓bi,dP,↓CO,dd,↓(aK h),qp,if_pos aD];cases bG:lT x.wT x.fj with
  |false=>simp only[eC,ej,cR,ba,fin,c1,eG]
  |true=>
   simp only[eV,de,fh,df,dP,↓CP,dd,↓(aK y),qp];cases u:lT x.B7 x.xW with
   |false=>simp only[eC,ej,cR,ba,fin,c1,cG,eG]
   |true=>simp -implicitDefEqProofs only[eV,de,fh,df,cR,qp,bc,e,cG]
 ·by_cases aG:x.op=2
  ·simp only[aM aD,de,df,aA,cf,↓qo,↓bi,a7 aG,dP,↓CO,dd,↓(aK h),qp,if_neg aD,if_pos aG];cases bG:lT x.wT x.fj with
   |false=>simp only[eC,ej,cR,ba,fin,c1,eG]
   |true=>
    simp only[eV,eC,de,fh,df,cR,dP,↓CP,dd,↓(aK r),qp];cases u:lc x.B7 x.xW with
    |false=>simp only[eC,ba,fin,c1,cG]
    |true=>simp only[eV,bc,e,cG]
  ·simp only[aM aD,de,df,aA,cf,↓qo,↓bi,aM aG,fh,dP,↓CO,dd,↓(aK bU),qp,if_neg aD,if_neg aG,eC];cases bG:lc x.wT x.fj with
   |false=>simp only[eC,ej,cR,ba,fin,c1,eG]
   |true=>
    simp only[eV,eC,de,fh,df,cR,dP,↓CP,dd,↓(aK r),qp];cases u:lc x.B7 x.xW with
    |false=>simp only[eC,ba,fin,c1,cG]
    |true=>simp only[eV,bc,e,cG]
theorem QV:EI (aH au G X) (bP (pre++[x]) g) (.int .i64 (pre.length:Int)) (.ref (.l s.af.own.length) 0) (.bool (l6 x.op)) (s.af.new (.cells x.cs))=.ok (.bool (uy x.op x.oS&&(qn x&& !mG pre x))) s:=by
 have h:=QU G X pre x g bD s aU aT;have fin:=fun b=>eH (T:=au) (G:=G) (X:=X) ((Child.af s).new (.cells x.cs)) b
 have e:∀(a b:Bool) (k:a1) (S:aq),(aH au G X).ah S k ((pA .bool (.bool a) (.bool b)).map fun b=>.bool (bif true then !b else b))=k (.bool (!(a==b))) S:=fun a b k S=>rfl
 rw[Ol,aA,cf,nt,bi];unfold uy;cases r:l6 x.op with
 |true=>
  by_cases aD:x.oS=1
  ·simp -implicitDefEqProofs only[a7 aD,ej,cR,e,show(!(true==true))=false from rfl,de,eV,fh,df,bc,h,if_true,eq_true (Or.inl aD:x.oS=1∨x.oS=2),dk,cG,qp]
  ·by_cases aG:x.oS=2
   ·simp -implicitDefEqProofs only[aM aD,de,df,aA,cf,↓nt,↓bi,a7 aG,e,show(!(true==true))=false from rfl,eV,fh,bc,h,if_true,eq_true (Or.inr aG:x.oS=1∨x.oS=2),dk,cG,qp]
   ·have bz:¬(x.oS=1∨x.oS=2):=by omega
    simp only[aM aD,de,df,aA,cf,↓nt,↓bi,aM aG,e,show(!(true==false))=true from rfl,ej,cR,ba,fin,if_true,eq_false bz,c9,c1,eG]
 |false=>
  by_cases cL:x.oS=0
  ·have aD:¬x.oS=1:=by omega
   have aG:¬x.oS=2:=by omega
   simp only[aM aD,de,df,aA,cf,↓nt,↓bi,aM aG,e,show(!(false==false))=false from rfl,eC,dP,dC,aM (not_not_intro cL),df,cR,bc,h,co,if_false,a7 cL,cG,qp]
  ·by_cases aD:x.oS=1
   ·simp only[a7 aD,ej,cR,e,show(!(false==true))=true from rfl,ba,fin,co,if_false,aM cL,c1,eG]
   ·by_cases aG:x.oS=2
    ·simp only[aM aD,de,df,aA,cf,↓nt,↓bi,a7 aG,e,show(!(false==true))=true from rfl,ej,cR,ba,fin,co,if_false,aM cL,c1,eG]
    ·simp only[aM aD,de,df,aA,cf,↓nt,↓bi,aM aG,e,show(!(false==false))=false from rfl,eC,dP,dC,eq_true cL,dk,cR,ba,fin,co,if_false,aM cL,c1,qp]
theorem QW(ws:List Int)(r:cd)(aa:ws.length=x.args.length):∀n i:Nat,i+n=x.args.length→(∀o,o∈pre→mh o)→
  xu (aH au G X) (bP (pre++[x]) g) (.int .i64 (pre.length:Int)) (.ref (.l s.af.own.length) 0) (dx ws r) (.bool (l6 x.op)) (dx x.args x.g0) (.int .i64 (x.args.length:Int)) (.int .i64 (i:Int)) (s.af.new (.cells x.cs))=.ok (.bool (gE pre (ws.drop i) (x.args.drop i)&&(uy x.op x.oS&&(qn x&& !mG pre x)))) s:=by
 have fin:=fun b=>eH (T:=au) (G:=G) (X:=X) ((Child.af s).new (.cells x.cs)) b
 intro n
 induction n with
 |zero=>
  intro i bk u;have e:¬(i:Int)<(x.args.length:Int):=by omega
  rw[Ag,be,aM e,bc,QV G X pre x g bD s aU aT,hl (by omega),hl (by omega)];simp only[gE,cG]
 |succ n J=>
  intro i bk u;have e:(i:Int)<(x.args.length:Int):=by omega
  have y:i<x.args.length:=by omega
  have B:i<ws.length:=by omega
  have jw:=aT.Dj;have K:(x.args.map I)[i]? =some (I x.args[i]):=by simp [y]
  have L:(ws.map I)[i]? =some (I ws[i]):=by simp [B]
  have M:∀k:a1,(aH au G X).aZ (s.af.new (.cells x.cs)) k 1 (dx x.args x.g0) (.int .i64 (i:Int))=k (.bM [I x.args[i]]) (s.af.new (.cells x.cs)):=fun k=>iw (T:=au) (G:=G) (X:=X) (s:=s.af.new (.cells x.cs)) (k:=k) 1 _ x.g0 .i64 i _ K
  have N:∀k:a1,(aH au G X).aZ (s.af.new (.cells x.cs)) k 1 (dx ws r) (.int .i64 (i:Int))=k (.bM [I ws[i]]) (s.af.new (.cells x.cs)):=fun k=>iw (T:=au) (G:=G) (X:=X) (s:=s.af.new (.cells x.cs)) (k:=k) 1 _ r .i64 i _ L
  have O:=fun S k=>fJ G X S k i (by omega)
  rw[Ag,be,a7 e,ba,Oi,M,bu,be,gl y,gl B,gE];unfold n9;by_cases aD:x.args[i]<0
  ·have aG:¬(0≤x.args[i]∧x.args[i]<(pre.length:Int)):=by omega
   simp only[a7 aD,ej,cR,ba,fin,aM aG,c1]
  ·by_cases aG:(pre.length:Int)≤x.args[i]
   ·have bz:¬(0≤x.args[i]∧x.args[i]<(pre.length:Int)):=by omega
    simp only[aM aD,de,df,fG,a7 aG,ej,cR,ba,fin,aM bz,c1]
   ·have bz:0≤x.args[i]∧x.args[i]<(pre.length:Int):=by omega
    have h:x.args[i].toNat<pre.length:=by omega
    have Q:((pre++[x]).map aO.enc)[x.args[i].toNat]? =some pre[x.args[i].toNat].enc:=by rw[fw,ev h,dM h];rfl
    have R:pre[x.args[i].toNat]? =some pre[x.args[i].toNat]:=dM h;have ip:=fun(k:a1)=>xi (T:=au) (G:=G) (X:=X) (s:=s.af.new (.cells x.cs)) (k:=k) 12 _ g .i64 x.args[i] _ bz.1 Q
    generalize U:pre[x.args[i].toNat]=o at *;have hV:o∈pre:=U ▸ h4 h;have NL:=E5 G X o {own:=[],up:=[],ro:=[]};have V:ai.bj [o.enc]=true:=by simp only[ai.bj,(u o hV).bp,eD]
    have y3:=L9 G X ws[i] (dg o.op) (s.af.new (.cells x.cs));have H:=fun(k:a1)=>ed (T:=au) (G:=G) (X:=X) (s:=s.af.new (.cells x.cs)) (k:=k) 12 o.cs (aX 12)
    rw[xY] at H;have Y:∀k:a1,(aH au G X).aj (s.af.new (.cells x.cs)) k (some 12) (.bM o.enc.cells)=k o.enc (s.af.new (.cells x.cs)):=H;have Z:∀d,ai.ak d o.enc=o.enc:=fun d=>rfl
    simp only[aM aD,de,df,fG,aM aG,N,bu];rw[ip,Y,Z,k7 V NL rfl,cy,cy,aK y3,qp];simp only[R,a7 bz,cG];cases ab:acc ws[i] (dg o.op) with
    |false=>simp only[eC,ba,fin,c1]
    |true=>simp only[eV,bc,cG,Oh,O];exact J (i+1) (by omega) u
theorem apM(y:∀o,o∈pre→mh o):az au G X 70 [bP (pre++[x]) g] s=.ok (.bool (wf pre x)) s:=by
 have fin:=fun b=>eH (T:=au) (G:=G) (X:=X) ((Child.af s).new (.cells x.cs)) b
 have B:((pre++[x]).map aO.enc)[pre.length]? =some x.enc:=by rw[fw,i9 (aX _),Nat.sub_self];rfl
 have ip:=fun S k=>ic G X S k 12 _ g .i64 pre.length _ B
 have r:=fun(S:aq) (k:a1)=>iS (T:=au) (G:=G) (X:=X) (s:=S) (k:=k) (pre.length+1) (by omega) (by omega)
 simp only[Nat.add_sub_cancel] at r;have H:∀(S:aq) (k:a1),(aH au G X).aj S k (some 12) (.bM x.enc.cells)=k x.enc S:=fun S k=>ed (T:=au) (G:=G) (X:=X) (s:=S) (k:=k) 12 x.cs (aX 12)
 have J:∀d,ai.ak d x.enc=x.enc:=fun d=>rfl
 have ez:=fun(k:a1) (cs:List ai) (h:cs.length=12)=>kx (T:=au) (G:=G) (X:=X) (s:=s.af) (k:=k) 12 x.cs cs rfl h x.cells
 have y4:=AR G X x.op (s.af.new (.cells x.cs));have jw:=aT.Dj;have K:=fun h=>QW G X pre x g bD s aU aT (h9 x.op) (AQ x.op) h x.args.length 0 (by omega) y
 have L:((h9 x.op).map I).length=(h9 x.op).length:=b2 ..;have u:(x.args.map I).length=x.args.length:=b2 ..;rw[aaq,apk,bg,b2,dm,List.length_singleton,r,ip,H,gI,J];refine(ez _ _ rfl).trans ?_;rw[aA,cf,qo,cy,aK y4,hv,hx,pY,bi];unfold wf;by_cases cL:dg x.op=0
 ·simp only[a7 cL,ej,cR,ba,fin,aM (not_not_intro cL:¬dg x.op≠0),c1]
 ·simp only[aM cL,de,df,bg,aA,cf,↓ZA,dC,L,u,a7 (show dg x.op≠0 from cL),cG];by_cases aD:(h9 x.op).length=x.args.length
  ·have e:¬¬((h9 x.op).length:Int)=(x.args.length:Int):=by omega
   simp only[aM e,de,df,↓ah8,qV,a7 aD,cG];by_cases aG:x.name=[]
   ·simp only[a7 aG,ba,fin,aM (not_not_intro aG:¬x.name≠[]),c1]
   ·simp only[aM aG,bc,Om,aA,cf,↓ZA,bg,u,a7 (show x.name≠[] from aG),cG]
    have:=K aD;simp only[bT] at this;exact this
  ·have e:¬((h9 x.op).length:Int)=(x.args.length:Int):=by omega
   simp only[a7 e,ej,cR,ba,fin,aM aD,c1]
end
abbrev pg(p:Nat×Nat):ai:=.agg [I p.1,I p.2]
def jF(i:Nat)(x:aO):List (Nat×Nat):=if x.op=1 then[(i,0),(i,1)] else if x.op=2 then[(i,0)] else[]
def hH:List aO→Nat→List (Nat×Nat)
 |[],_=>[]
 |x::r,i=>jF i x++hH r (i+1)
theorem AS(i:Nat)(x:aO):(jF i x).length≤2:=by unfold jF;split<;> (try split)<;> simp
theorem mH:∀l:List (Nat×Nat),ai.bj (l.map pg)=true
 |[]=>rfl
 |x::l=>by simp only[fU,ai.bj,mH l,Bool.and_true];rfl
theorem vg:∀l:List (Nat×Nat),((l.map pg).flatMap ai.cells).all ai.dZ=true
 |[]=>rfl
 |x::l=>by simp only[fU,List.flatMap_cons,List.all_append,vg l,Bool.and_true];rfl
theorem E7{S:aq}{k:a1}(l:List (Nat×Nat)):(aH au G X).av S k 2 (l.map pg)=k (.aW 2 (l.map pg) .exact) S:=by
 refine iY 2 _ (mH l) ?_
 induction l with
 |nil=>rfl
 |cons x l e=>simp only[fU,List.all_cons,e,Bool.and_true];rfl
theorem mW{α β:Type}(f:α→β)(l:List α):eR (l.map f)=eR l:=by cases l<;> rfl
theorem qW{S:aq}(a b:Nat)(k:a1):(aH au G X).cH [.int .i64 0,.int .i64 0] [(0,1,.int .i64 (a:Int)),(1,1,.int .i64 (b:Int))] S k=k (pg (a,b)) S:=rfl
theorem apN(l:List aO)(g:cd)(s:aq)(br:l.length≤1000):az au G X 72 [bP l g] s=.ok (.aW 2 ((hH l 0).map pg) (eR (hH l 0))) s:=by
 have loop:∀n i:Nat,i+n=l.length→∀(es:List (Nat×Nat)) (ge:cd) (S:aq),Child s S→gW S ge es.length→es.length≤2*i→
   xv (aH au G X) (.aW 2 (es.map pg) ge) (bP l g) (.int .i64 (l.length:Int)) (.int .i64 (i:Int)) S=.ok (.aW 2 ((es++hH (l.drop i) i).map pg) (eR (es++hH (l.drop i) i))) s:=by
  intro n
  induction n with
  |zero=>
   intro i bk es ge S r bD he;have e:¬(i:Int)<(l.length:Int):=by omega
   rw[Ai,be,aM e,bc,Oo,hl (by omega)];simp only[hH,gf]
   have:=k8 (S:=S) (sz:=2) (es:=es.map pg) (g:=ge) (by simpa using bD) (mH es);rw[mW] at this;exact gV r _ _ this
  |succ n u=>
   intro i bk es ge S r bD he;have e:(i:Int)<(l.length:Int):=by omega
   have y:i<l.length:=by omega
   have J:(l.map aO.enc)[i]? =some l[i].enc:=by simp [y]
   have ip:=fun(k:a1)=>ic G X S k 12 _ g .i64 i _ J
   have K:∀x,l[i]=x→l.drop i=x::l.drop (i+1):=fun x aT=>by rw[←aT];exact gl y
   generalize aT:l[i]=x at *;have L:∀(S:aq) (k:a1),(aH au G X).aj S k (some 12) (.bM x.enc.cells)=k x.enc S:=fun S k=>ed (T:=au) (G:=G) (X:=X) (s:=S) (k:=k) 12 x.cs (aX 12)
   have M:∀d,ai.ak d x.enc=x.enc:=fun d=>rfl
   have ez:=fun(k:a1) (cs:List ai) (h:cs.length=12)=>kx (T:=au) (G:=G) (X:=X) (s:=S) (k:=k) 12 x.cs cs rfl h x.cells
   have B:=fun S k=>fJ G X S k i (by omega)
   have bI:=K x rfl;have H:gW (S.new (.cells x.cs)) ge es.length:=bD.new _;have app:∀new:List (Nat×Nat),new=jF i x→new≠[]→(aH au G X).cn (S.new (.cells x.cs)) (fun v S=>tr (aH au G X) v (bP l g) (.int .i64 (l.length:Int)) (.int .i64 (i:Int)) S) 2 16 (some (.l 0)) (.aW 2 (es.map pg) ge) (.aW 2 (new.map pg) .exact)=.ok (.aW 2 ((es++hH (l.drop i) i).map pg) (eR (es++hH (l.drop i) i))) s:=fun new I cQ=>by
    have hlen:new.length≤2:=by rw[I];exact AS i x
    refine u6 (by simpa using H) (by simpa using cQ) (by simp;omega) (vg new) (fun g' b4 N aD aG bz O=>?_);rw[Ah,B,←List.map_append]
    have:=u (i+1) (by omega) (es++new) g' b4 (O.child (r.new _)) (by simpa using N) (by simp;omega);rw[this,bI];simp only[hH,I,jY]
   rw[Ai,be,a7 e,ba,On,ip,L,gI,M];refine(ez _ _ rfl).trans ?_;rw[aA,cf,qo,bi];by_cases aD:x.op=1
   ·have bk:jF i x=[(i,0),(i,1)]:=by unfold jF;rw[if_pos aD]
    have a:=app _ bk.symm (by simp);rw[a7 aD,ba];refine(qW G X i 0 _).trans ?_;refine(qW G X i 1 _).trans ?_;refine(E7 G X [(i,0),(i,1)]).trans ?_;exact a
   ·rw[aM aD,bc,bi];by_cases aG:x.op=2
    ·have bk:jF i x=[(i,0)]:=by unfold jF;rw[if_neg aD,if_pos aG]
     have a:=app _ bk.symm (by simp);rw[a7 aG,ba];refine(qW G X i 0 _).trans ?_;refine(E7 G X [(i,0)]).trans ?_;exact a
    ·have bk:jF i x=[]:=by unfold jF;rw[if_neg aD,if_neg aG]
     have:=u (i+1) (by omega) es ge (S.new (.cells x.cs)) (r.new _) H (by omega);rw[aM aG,bc,Ah,B,this,bI];simp only[hH,bk,List.nil_append]
 rw[aas,apm,bg,b2]
 have:=loop l.length 0 (by omega) [] .nil s.af (.af s) .nil (by simp);simp only[List.map_nil,List.nil_append,bT] at this;exact this
def jG:List aO→List aO→Bool
 |_,[]=>true
 |pre,x::r=>wf pre x&&jG (pre++[x]) r
def xZ(l:List aO):Nat:=(l.filter fun x=>l6 x.op).length
def dy(l:List aO):Int:=bif jG [] l then(if 40<l.length∨5<xZ l∨20<(hH l 0).length then 111 else 0) else 120
theorem ah9(l:List aO)(x:aO):xZ (l++[x])=xZ l+(if l6 x.op=true then 1 else 0):=by unfold xZ;rw[List.filter_append,dm];congr 1;simp only[List.filter_cons,List.filter_nil];split<;> rfl
theorem aia(l:List aO):xZ l≤l.length:=List.length_filter_le _ _
theorem x0(l:List aO)(g:cd)(bD:∀a,g≠.bQ a)(s:aq)(br:l.length<9223372036854775806)(b6:∀o,o∈l→mh o):az au G X 42 [bP l g] s=.ok (I (dy l)) s:=by
 have fin:∀S,Child s S→ED (aH au G X) (bP l g) (I (xZ l:Int)) S=.ok (I (if 40<l.length∨5<xZ l∨20<(hH l 0).length then 111 else 0)) s:=fun S r=>by
  have Z:=aia l;have u:=fun n=>jB (T:=au) (G:=G) (X:=X) r .i64 n
  rw[N3,bg,b2,ee];by_cases aD:40<l.length
  ·have e:(40:Int)<(l.length:Int):=by omega
   rw[if_pos (.inl aD)];simp only[a7 e,ej,cR,ba];exact u _
  ·have e:¬(40:Int)<(l.length:Int):=by omega
   simp only[aM e,de,df,ee];by_cases aG:5<xZ l
   ·have H:(5:Int)<(xZ l:Int):=by omega
    rw[if_pos (.inr (.inl aG))];simp only[a7 H,ej,cR,ba];exact u _
   ·have H:¬(5:Int)<(xZ l:Int):=by omega
    have c:=apN G X l g S (by omega);simp only[aM H,de,df,du _ bD];rw[aK c];simp only[bg,b2,ee];by_cases bz:20<(hH l 0).length
    ·have J:(20:Int)<((hH l 0).length:Int):=by omega
     rw[if_pos (.inr (.inr bz)),a7 J,ba];exact u _
    ·have J:¬(20:Int)<((hH l 0).length:Int):=by omega
     rw[if_neg (by omega),aM J,bc,N2];exact u _
 have loop:∀n i:Nat,i+n=l.length→∀S,Child s S→
   xo (aH au G X) (bP l g) (I (xZ (l.take i):Int)) (bP l g) (.int .i64 (l.length:Int)) (.int .i64 (i:Int)) S=.ok (I (bif jG (l.take i) (l.drop i) then(if 40<l.length∨5<xZ l∨20<(hH l 0).length then 111 else 0) else 120)) s:=by
  intro n
  induction n with
  |zero=>
   intro i bk S r;have e:¬(i:Int)<(l.length:Int):=by omega
   rw[z8,be,aM e,bc,hl (by omega),gG (by omega),fin S r];rfl
  |succ n O=>
   intro i bk S r;have e:(i:Int)<(l.length:Int):=by omega
   have B:i<l.length:=by omega
   have Q:(l.map aO.enc)[i]? =some l[i].enc:=by simp [B]
   have ip:=fun(k:a1)=>ic G X S k 12 _ g .i64 i _ Q
   have hV:l[i]∈l:=h4 B;have bI:l.drop i=l[i]::l.drop (i+1):=gl B;have cB:l.take (i+1)=l.take i++[l[i]]:=List.take_succ_eq_append_getElem B;generalize aT:l[i]=x at *;have R:∀(S:aq) (k:a1),(aH au G X).aj S k (some 12) (.bM x.enc.cells)=k x.enc S:=fun S k=>ed (T:=au) (G:=G) (X:=X) (s:=S) (k:=k) 12 x.cs (aX 12)
   have U:∀d,ai.ak d x.enc=x.enc:=fun d=>rfl
   have ez:=fun(k:a1) (cs:List ai) (h:cs.length=12)=>kx (T:=au) (G:=G) (X:=X) (s:=S) (k:=k) 12 x.cs cs rfl h x.cells
   have K:=fun S k=>fJ G X S k i (by omega)
   have aW:=fun(S:aq) (k:a1)=>ZB G X l bD (i+1) (by omega) S k
   rw[cB] at aW;have L:=y0 bD l.length (i+1);have aa:(l.take i).length=i:=by simp;omega
   have B6:=apM G X (l.take i) x _ L (S.new (.cells x.cs)) (by omega) (b6 x hV) (fun o V=>b6 o (List.mem_of_mem_take V));have M:=fun(k:a1)=>DJ (T:=au) (G:=G) (X:=X) (s:=S) (k:=k) 12 x.cs (aX 12)
   rw[xY] at M;have adA:=apK G X x (S.new (.cells x.cs));have u:=fun n=>jB (T:=au) (G:=G) (X:=X) (r.new (.cells x.cs)) .i64 n
   have y:=O (i+1) (by omega) (S.new (.cells x.cs)) (r.new _);rw[cB,ah9] at y;have ab:=aia (l.take i);rw[z8,be,a7 e,ba,N1,ip,R,gI,U];refine(ez _ _ rfl).trans ?_;rw[K,aW,du _ L,aK B6,eY,bI];simp only[jG];cases hw:wf (l.take i) x with
   |false=>rw[eC,ba,c1,cond_false];exact u _
   |true=>
    rw[eV,bc,cG,N0];refine(M _).trans ?_;show(aH au G X).ar (S.new (.cells x.cs)) _ 71 [x.enc]=_;rw[aK adA];cases N:l6 x.op with
    |false=>rw[N] at y;rw[bc,z7,K];exact y
    |true=>
     rw[N] at y;have Y:=fun S k=>fJ G X S k (xZ (l.take i)) (by omega)
     rw[ba,Y,z7,K];exact y
 rw[aak,ape,bg,b2];exact loop l.length 0 (by omega) s.af (.af s)
theorem auK{s:aq}{k:a1}(a b:Bool):(aH au G X).ah s k ((pA .bool (.bool a) (.bool b)).map fun b=>.bool (bif true then !b else b))=k (.bool (!(a==b))) s:=rfl
theorem Mc(s:aq)(h5 hW:Bool)(v1 v2:ai)(r u:List Nat)(aD:gT v1 r)(aG:gT v2 u)(L:r.length<9223372036854775807):az au G X 162 [hf h5 v1,hf hW v2] s=.ok (.bool (decide (h5=hW∧r=u))) s:=by
 have y:=fun(S:aq) (k:a1)=>(aD.rd S).len (T:=au) (G:=G) (X:=X) k S
 have H:=fun(S:aq) (k:a1)=>(aG.rd S).len (T:=au) (G:=G) (X:=X) k S
 have loop:r.length=u.length→∀n i:Nat,i+n=r.length→tx (aH au G X) (.bM [.bool h5,v1]) (.bM [.bool hW,v2]) (.int .i64 (i:Int)) s.af=.ok (.bool (decide (r.drop i=u.drop i))) s:=by
  intro br n
  induction n with
  |zero=>
   intro i bk;have e:¬(i:Int)<(r.length:Int):=by omega
   rw[wB,c3,dt,bT,bu,y,be,aM e,bc,KN,bE,hl (by omega),hl (by omega)];rfl
  |succ n I=>
   intro i bk;have e:(i:Int)<(r.length:Int):=by omega
   have g1:=fun(k:a1)=>(aD.rd s.af).get (T:=au) (G:=G) (X:=X) .i64 i (by omega) k
   have g2:=fun(k:a1)=>(aG.rd s.af).get (T:=au) (G:=G) (X:=X) .i64 i (by omega) k
   have J:=fun S k=>fJ G X S k i (by omega)
   have bU:r.drop i=r.getD i 0::r.drop (i+1):=by rw[gl (by omega)];simp [List.getD,show i<r.length by omega]
   have K:u.drop i=u.getD i 0::u.drop (i+1):=by rw[gl (by omega)];simp [List.getD,show i<u.length by omega]
   rw[wB,c3,dt,bT,bu,y,be,a7 e,ba,KM,c3,dt,bT,bu,g1,c3,dt,bT,bu,g2,dC];rw[bU,K];by_cases aT:r.getD i 0=u.getD i 0
   ·have B:¬¬((r.getD i 0:Nat):Int)=((u.getD i 0:Nat):Int):=by omega
    rw[aM B,bc,KL,J,I (i+1) (by omega),aT];simp only[List.cons.injEq,true_and]
   ·have B:¬((r.getD i 0:Nat):Int)=((u.getD i 0:Nat):Int):=by omega
    rw[a7 B,ba,bE];simp only[List.cons.injEq,aT,false_and,c9]
 rw[Qf,ag6,bx,bx,c3,bT,bu,c3,bT,bu,auK];by_cases bX:h5=hW
 ·subst bX;rw[show(!(h5==h5))=false from by simp];simp only[de,df,c3,dt,bT,bu,y,H,dC,true_and];by_cases br:r.length=u.length
  ·have e:¬¬(r.length:Int)=(u.length:Int):=by omega
   rw[aM e,bc,KO]
   have:=loop br r.length 0 (by omega);simp only[bT] at this;exact this
  ·have e:¬(r.length:Int)=(u.length:Int):=by omega
   have h:¬r=u:=fun e=>br (by rw[e])
   rw[a7 e,ba,bE,aM h]
 ·rw[show(!(h5==hW))=true from by simp [bX]];simp only[ej,cR,ba,bE,bX,false_and,c9]
theorem aib(s:aq)(a b c d:iT)(e:oI a)(h:oI b)(a9:oI c)(bI:oI d):az au G X 137 [ux a b,ux c d] s=.ok (.bool (decide ((a.neg=c.neg∧a.l5=c.l5)∧(b.neg=d.neg∧b.l5=d.l5)))) s:=by
 have r:=Mc G X s.af a.neg c.neg a.v c.v a.l5 c.l5 e.lv a9.lv e.len;have u:=Mc G X s.af b.neg d.neg b.v d.v b.l5 d.l5 h.lv bI.lv h.len;rw[Qd,ag4];simp only[bx,c3,bT,dt,↓ed,c0,ek,Nat.reduceAdd,Nat.reduceLeDiff,aX,hI,hn,dd];rw[aK r,aK u];rw[Bool.decide_and (p:=a.neg=c.neg∧a.l5=c.l5)];cases decide (a.neg=c.neg∧a.l5=c.l5) with
 |true=>simp only[dP,cR,bE,cG]
 |false=>simp only[fh,df,bE,c1]
def vh:iT:=⟨false,[],.nil⟩
theorem jL:oI vh where
 g:=fun a e=>by cases e
 ok:=fun x aT=>absurd aT mc
 len:=by decide
theorem ZC(s:aq)(a b:iT)(e:oI a)(h:oI b):az au G X 87 [ux a b] s=.ok (.bool (lc a b)) s:=by
 have c:=aib G X s.af a b vh vh e h jL jL;have kT:∀(S:aq) (k:a1),(aH au G X).cH [.bool false,.aW 1 [] .nil,.bool false,.aW 1 [] .nil] [] S k=k (ux vh vh) S:=fun S k=>rfl
 rw[aay,apt,bx];simp only[↓ed,c0,ek,Nat.reduceAdd,aX,hI,hn,dd];rw[kT,dd];refine(aK c).trans ?_;rw[bE];congr 2;unfold lc vh;cases a.neg<;> cases b.neg<;> simp
theorem Md(op:Int):dg op≠0↔1≤op∧op≤16:=by
 rcases rJ op with h|h|h|h|h|h|h|h|h|h|h|h|h|h|h|h|h
 all_goals try (subst h;decide)
 obtain⟨aD,aG,bz,cz,e,r,u,y,B,H,I,J,K,L,M,N⟩:=h;simp only[dg,aD,aG,bz,cz,e,r,u,y,B,H,I,J,K,L,M,N,or_self,if_false,ne_eq,not_true_eq_false,false_iff];omega
theorem uz(op:Int):0≤dg op:=by
 unfold dg;split
 ·decide
 ·split
  ·decide
  ·split<;> decide
section
variable(l:List aO)(g:cd)(bD:∀a,g≠.bQ a)(i:Nat)(bk:i<l.length)(hlen:l.length<9223372036854775806)(x:aO)(om:l[i]? =some x)(aT:mh x)(s:aq)
include aT
theorem Me:zp (aH au G X) (.ref (.l s.af.own.length) 0) (s.af.new (.cells x.cs))=.ok (.bool (qn x)) s:=by
 have e:=Mb G X aT.wT aT.fj (s.af.new (.cells x.cs));have r:=Mb G X aT.B7 aT.xW (s.af.new (.cells x.cs));have bU:=ZC G X (s.af.new (.cells x.cs)) x.wT x.fj aT.wT aT.fj;have h:=ZC G X (s.af.new (.cells x.cs)) x.B7 x.xW aT.B7 aT.xW;have fin:=fun b=>eH (T:=au) (G:=G) (X:=X) ((Child.af s).new (.cells x.cs)) b
 rw[KE,aA,cf,qo,bi];unfold qn;by_cases aD:x.op=1
 ·rw[a7 aD,ba,aA,cf,CO,dd,aK e,if_pos aD];cases bG:lT x.wT x.fj with
  |false=>simp only[fh,df,fin,c1]
  |true=>simp only[dP,cR,aA,cf,↓CP,dd,↓(aK r),fin,cG]
 ·rw[aM aD,bc,bi,if_neg aD];by_cases aG:x.op=2
  ·rw[a7 aG,ba,aA,cf,CO,dd,aK e,if_pos aG];cases bG:lT x.wT x.fj with
   |false=>simp only[fh,df,fin,c1]
   |true=>simp only[dP,cR,aA,cf,↓CP,dd,↓(aK h),fin,cG]
  ·rw[aM aG,bc,KD,aA,cf,CO,dd,aK bU,if_neg aG];cases bG:lc x.wT x.fj with
   |false=>simp only[fh,df,fin,c1]
   |true=>simp only[dP,cR,aA,cf,↓CP,dd,↓(aK h),fin,cG]
theorem QX:EE (aH au G X) (.ref (.l s.af.own.length) 0) (.bool (l6 x.op)) (s.af.new (.cells x.cs))=.ok (.bool (uy x.op x.oS&&qn x)) s:=by
 have e:=Me G X x aT s;have fin:=fun b=>eH (T:=au) (G:=G) (X:=X) ((Child.af s).new (.cells x.cs)) b
 rw[N9];unfold uy;cases h:l6 x.op with
 |true=>
  by_cases aD:x.oS=1
  ·simp -implicitDefEqProofs only[dP,cR,aA,cf,↓nt,dC,aM (not_not_intro aD),fh,de,df,bc,qp,eV,e,if_true,a7 (Or.inl aD:x.oS=1∨x.oS=2),cG]
  ·by_cases aG:x.oS=2
   ·simp -implicitDefEqProofs only[dP,cR,aA,cf,↓nt,dC,a7 aD,aM (not_not_intro aG),fh,de,df,bc,qp,eV,e,if_true,a7 (Or.inr aG:x.oS=1∨x.oS=2),cG]
   ·have bz:¬(x.oS=1∨x.oS=2):=by omega
    simp only[dP,cR,aA,cf,↓nt,dC,a7 aD,a7 aG,ej,ba,fin,if_true,aM bz,c1,eG]
 |false=>
  by_cases cL:x.oS=0
  ·simp only[fh,df,de,dP,qp,eC,aA,cf,↓nt,dC,aM (not_not_intro cL),cR,bc,e,co,if_false,a7 cL,cG]
  ·simp only[fh,df,de,dP,qp,eC,aA,cf,↓nt,dC,a7 (show¬x.oS=0 from cL),cR,ba,fin,co,if_false,aM cL,c1]
include bk hlen
theorem QY:∀n k:Nat,k+n=i→xp (aH au G X) (bP l g) (.int .i64 (i:Int)) (.ref (.l s.af.own.length) 0) (.bool (l6 x.op)) (.int .i64 (k:Int)) (s.af.new (.cells x.cs))=.ok (.bool (!mG ((l.take i).drop k) x&&(uy x.op x.oS&&qn x))) s:=by
 have fin:=fun b=>eH (T:=au) (G:=G) (X:=X) ((Child.af s).new (.cells x.cs)) b
 intro n
 induction n with
 |zero=>
  intro k cg;have e:¬(k:Int)<(i:Int):=by omega
  rw[z9,be,aM e,bc,QX G X x aT s,hl (by simp;omega)];rfl
 |succ n h=>
  intro k cg;have e:(k:Int)<(i:Int):=by omega
  have r:k<l.length:=by omega
  have u:(l.map aO.enc)[k]? =some l[k].enc:=by simp [r]
  have ip:=fun(K:a1)=>iw (T:=au) (G:=G) (X:=X) (s:=s.af.new (.cells x.cs)) (k:=K) 12 _ g .i64 k _ u
  have bI:(l.take i).drop k=l[k]::(l.take i).drop (k+1):=by rw[gl (by simp;omega)];simp
  have y:=fun(S:aq) (K:a1)=>nm (T:=au) (G:=G) (X:=X) (s:=S) (k:=K) k (by omega)
  rw[z9,be,a7 e,ba,N8,ip,bI];generalize l[k]=o;have B:∀K:a1,(aH au G X).aj (s.af.new (.cells x.cs)) K none (.bM (o.enc.cells.drop 0))=K (.str o.name) (s.af.new (.cells x.cs)):=fun K=>rfl
  rw[c3,B,aA,cf,ah8,qV];simp only[mG,List.any_cons];by_cases bX:o.name=x.name
  ·rw[a7 bX,ba,fin,Bool.true_or];rfl
  ·rw[aM bX,bc,N7,y,Bool.false_or];exact h (k+1) (by omega)
include om in
theorem QZ(ws:List Int)(h:cd)(aa:ws.length=x.args.length)(L:∀o,o∈l.take i→dg o.op≠0):∀n k:Nat,k+n=ws.length→
  xq (aH au G X) (bP l g) (.int .i64 (i:Int)) (.ref (.l s.af.own.length) 0) (dx ws h) (.bool (l6 x.op)) (.int .i64 (k:Int)) (s.af.new (.cells x.cs))=.ok (.bool (gE (l.take i) (ws.drop k) (x.args.drop k)&&(!mG (l.take i) x&&(uy x.op x.oS&&qn x)))) s:=by
 have fin:=fun b=>eH (T:=au) (G:=G) (X:=X) ((Child.af s).new (.cells x.cs)) b
 have jw:=aT.Dj;have r:(ws.map I).length=ws.length:=b2 ..;intro n
 induction n with
 |zero=>
  intro k cg;have e:¬(k:Int)<(ws.length:Int):=by omega
  have u:=QY G X l g i bk hlen x aT s i 0 (by omega);rw[bT] at u;rw[Aa,bg,r,be,aM e,bc,Oa,hl (by omega),hl (by omega)];refine u.trans ?_;simp only[gE,cG]
 |succ n M=>
  intro k cg;have e:(k:Int)<(ws.length:Int):=by omega
  have y:k<x.args.length:=by omega
  have B:k<ws.length:=by omega
  have N:(x.args.map I)[k]? =some (I x.args[k]):=by simp [y]
  have O:(ws.map I)[k]? =some (I ws[k]):=by simp [B]
  have Q:∀K:a1,(aH au G X).aZ (s.af.new (.cells x.cs)) K 1 (dx x.args x.g0) (.int .i64 (k:Int))=K (.bM [I x.args[k]]) (s.af.new (.cells x.cs)):=fun K=>iw (T:=au) (G:=G) (X:=X) (s:=s.af.new (.cells x.cs)) (k:=K) 1 _ x.g0 .i64 k _ N
  have R:∀K:a1,(aH au G X).aZ (s.af.new (.cells x.cs)) K 1 (dx ws h) (.int .i64 (k:Int))=K (.bM [I ws[k]]) (s.af.new (.cells x.cs)):=fun K=>iw (T:=au) (G:=G) (X:=X) (s:=s.af.new (.cells x.cs)) (k:=K) 1 _ h .i64 k _ O
  have U:=fun(S:aq) (K:a1)=>nm (T:=au) (G:=G) (X:=X) (s:=S) (k:=K) k (by omega)
  have V:(l.take i).length=i:=by simp;omega
  rw[Aa,bg,r,be,a7 e,ba,N6,aA,cf,ZA,Q,bu,be,gl y,gl B,gE];unfold n9;rw[V];by_cases aD:x.args[k]<0
  ·have aG:¬(0≤x.args[k]∧x.args[k]<(i:Int)):=by omega
   simp only[a7 aD,ej,cR,ba,fin,aM aG,c1]
  ·by_cases aG:(i:Int)≤x.args[k]
   ·have bz:¬(0≤x.args[k]∧x.args[k]<(i:Int)):=by omega
    simp only[aM aD,de,df,fG,a7 aG,ej,cR,ba,fin,aM bz,c1]
   ·have bz:0≤x.args[k]∧x.args[k]<(i:Int):=by omega
    have H:x.args[k].toNat<l.length:=by omega
    have ab:x.args[k].toNat<(l.take i).length:=by omega
    have Y:(l.map aO.enc)[x.args[k].toNat]? =some l[x.args[k].toNat].enc:=by simp [H]
    have J:(l.take i)[x.args[k].toNat]? =some l[x.args[k].toNat]:=by rw[List.getElem?_take,if_pos (by omega),dM H]
    have ip:=fun(K:a1)=>xi (T:=au) (G:=G) (X:=X) (s:=s.af.new (.cells x.cs)) (k:=K) 12 _ g .i64 x.args[k] _ bz.1 Y
    have hV:l[x.args[k].toNat]∈l.take i:=List.mem_of_getElem? J;generalize ac:l[x.args[k].toNat]=o at *;have NM:=E4 G X o.op {own:=[],up:=[],ro:=[]};have Gl:=Zz G X (dg o.op) ws[k] (s.af.new (.cells x.cs)) (uz _) (fun _=>L o hV);have Z:∀K:a1,(aH au G X).aj (s.af.new (.cells x.cs)) K none (.bM (o.enc.cells.drop 1))=K (I o.op) (s.af.new (.cells x.cs)):=fun K=>rfl
    simp only[aM aD,de,df,fG,aM aG];rw[ip,c3,Z,cy,k7 rfl NM rfl];rw[R,bu,cy,cy,aK Gl,qp];simp only[J,a7 bz,cG];cases ad:acc ws[k] (dg o.op) with
    |false=>simp only[eC,ba,fin,c1]
    |true=>simp only[eV,bc,cG,N5,U];exact M (k+1) (by omega)
include om in
theorem apO(y:∀o,o∈l.take i→dg o.op≠0):az au G X 48 [bP l g,.int .i64 (i:Int)] s=.ok (.bool (wf (l.take i) x)) s:=by
 have fin:=fun b=>eH (T:=au) (G:=G) (X:=X) ((Child.af s).new (.cells x.cs)) b
 have B:(l.map aO.enc)[i]? =some x.enc:=by rw[fw,om];rfl
 have ip:=fun S k=>ic G X S k 12 _ g .i64 i _ B
 have H:∀(S:aq) (k:a1),(aH au G X).aj S k (some 12) (.bM x.enc.cells)=k x.enc S:=fun S k=>ed (T:=au) (G:=G) (X:=X) (s:=S) (k:=k) 12 x.cs (aX 12)
 have J:∀d,ai.ak d x.enc=x.enc:=fun d=>rfl
 have ez:=fun(k:a1) (cs:List ai) (h:cs.length=12)=>kx (T:=au) (G:=G) (X:=X) (s:=s.af) (k:=k) 12 x.cs cs rfl h x.cells
 have DV:=E3 G X x.op (s.af.new (.cells x.cs));have jw:=aT.Dj;have K:=fun h=>QZ G X l g i bk hlen x om aT s (h9 x.op) (AQ x.op) h y (h9 x.op).length 0 (by omega)
 have L:((h9 x.op).map I).length=(h9 x.op).length:=b2 ..;have M:(x.args.map I).length=x.args.length:=b2 ..;have aQ:=Md x.op;rw[aam,apg,ip,H,gI,J];refine(ez _ _ rfl).trans ?_;rw[aA,cf,qo,cy,aK DV,hv,hx,pY,aA,cf,qo,be];unfold wf;by_cases cL:x.op<1
 ·have e:¬dg x.op≠0:=fun h=>by have:=aQ.1 h;omega
  simp only[a7 cL,ej,cR,ba,fin,aM e,c1]
 ·by_cases u:16<x.op
  ·have e:¬dg x.op≠0:=fun h=>by have:=aQ.1 h;omega
   simp only[aM cL,de,df,aA,cf,↓qo,ee,a7 u,ej,cR,ba,fin,aM e,c1]
  ·have e:dg x.op≠0:=aQ.2 (by omega);simp only[aM cL,de,df,aA,cf,↓qo,ee,aM u,↓ZA,bg,dC,L,M,a7 e,cG];by_cases aD:(h9 x.op).length=x.args.length
   ·have r:¬¬(x.args.length:Int)=((h9 x.op).length:Int):=by omega
    simp only[aM r,de,df,↓ah8,qV,a7 aD,cG];by_cases aG:x.name=[]
    ·simp only[a7 aG,ba,fin,aM (not_not_intro aG:¬x.name≠[]),c1]
    ·simp only[aM aG,bc,Ob,a7 (show x.name≠[] from aG),cG]
     have:=K aD;simp only[bT] at this;refine this.trans ?_;congr 2;cases gE (l.take i) (h9 x.op) x.args<;> cases mG (l.take i) x<;> cases uy x.op x.oS<;> cases qn x<;> rfl
   ·have r:¬(x.args.length:Int)=((h9 x.op).length:Int):=by omega
    simp only[a7 r,ej,cR,ba,fin,aM aD,c1]
end
theorem apP(l:List aO)(g:cd)(s:aq)(br:l.length≤1000):az au G X 49 [bP l g] s=.ok (.aW 2 ((hH l 0).map pg) (eR (hH l 0))) s:=by
 have loop:∀n i:Nat,i+n=l.length→∀(es:List (Nat×Nat)) (ge:cd) (S:aq),Child s S→gW S ge es.length→es.length≤2*i→
   xr (aH au G X) (bP l g) (.aW 2 (es.map pg) ge) (.int .i64 (i:Int)) S=.ok (.aW 2 ((es++hH (l.drop i) i).map pg) (eR (es++hH (l.drop i) i))) s:=by
  intro n
  induction n with
  |zero=>
   intro i bk es ge S h bD he;have e:¬(i:Int)<(l.length:Int):=by omega
   rw[Ad,bg,b2,be,aM e,bc,Od,hl (by omega)];simp only[hH,gf]
   have:=k8 (S:=S) (sz:=2) (es:=es.map pg) (g:=ge) (by simpa using bD) (mH es);rw[mW] at this;exact gV h _ _ this
  |succ n r=>
   intro i bk es ge S h bD he;have e:(i:Int)<(l.length:Int):=by omega
   have u:i<l.length:=by omega
   have H:(l.map aO.enc)[i]? =some l[i].enc:=by simp [u]
   have ip:=fun(k:a1)=>ic G X S k 12 _ g .i64 i _ H
   have J:∀x,l[i]=x→l.drop i=x::l.drop (i+1):=fun x aT=>by rw[←aT];exact gl u
   generalize aT:l[i]=x at *;have L:∀K:a1,(aH au G X).aj S K none (.bM (x.enc.cells.drop 1))=K (I x.op) S:=fun K=>rfl
   have y:=fun S k=>fJ G X S k i (by omega)
   have bI:=J x rfl;have app:∀new:List (Nat×Nat),new=jF i x→new≠[]→(aH au G X).cn S (fun v S=>tq (aH au G X) (bP l g) v (.int .i64 (i:Int)) S) 2 16 (some (.l 0)) (.aW 2 (es.map pg) ge) (.aW 2 (new.map pg) .exact)=.ok (.aW 2 ((es++hH (l.drop i) i).map pg) (eR (es++hH (l.drop i) i))) s:=fun new B cQ=>by
    have hlen:new.length≤2:=by rw[B];exact AS i x
    refine u6 (by simpa using bD) (by simpa using cQ) (by simp;omega) (vg new) (fun g' b4 M aD aG bz N=>?_);rw[Ac,y,←List.map_append]
    have:=r (i+1) (by omega) (es++new) g' b4 (N.child h) (by simpa using M) (by simp;omega);rw[this,bI];simp only[hH,B,jY]
   rw[Ad,bg,b2,be,a7 e,ba,Oc,ip,c3,L,bi];by_cases aD:x.op=1
   ·have bk:jF i x=[(i,0),(i,1)]:=by unfold jF;rw[if_pos aD]
    have a:=app _ bk.symm (by simp);rw[a7 aD,ba];refine(qW G X i 0 _).trans ?_;refine(qW G X i 1 _).trans ?_;refine(E7 G X [(i,0),(i,1)]).trans ?_;exact a
   ·rw[aM aD,bc,bi];by_cases aG:x.op=2
    ·have bk:jF i x=[(i,0)]:=by unfold jF;rw[if_neg aD,if_pos aG]
     have a:=app _ bk.symm (by simp);rw[a7 aG,ba];refine(qW G X i 0 _).trans ?_;refine(E7 G X [(i,0)]).trans ?_;exact a
    ·have bk:jF i x=[]:=by unfold jF;rw[if_neg aD,if_neg aG]
     have:=r (i+1) (by omega) es ge S h bD (by omega);rw[aM aG,bc,Ac,y,this,bI];simp only[hH,bk,List.nil_append]
 rw[aan,aph]
 have:=loop l.length 0 (by omega) [] .nil s.af (.af s) .nil (by simp);simp only[List.map_nil,List.nil_append,bT] at this;exact this
abbrev avx(n:Nat):ai:=I (n:Int)
def oa:List aO→Nat→List Nat
 |[],_=>[]
 |x::r,i=>(if l6 x.op=true then[i] else[])++oa r (i+1)
theorem AT:∀(l:List aO) (i:Nat),(oa l i).length=xZ l
 |[],_=>rfl
 |x::r,i=>by simp only[oa,dm,AT r (i+1),xZ,List.filter_cons];split<;> simp <;> omega
theorem uA:∀l:List Nat,ai.bj (l.map avx)=true
 |[]=>rfl
 |x::l=>by simp only[fU,ai.bj,uA l,Bool.and_true];rfl
theorem apQ(l:List aO)(g:cd)(s:aq)(br:l.length≤1000):az au G X 50 [bP l g] s=.ok (.aW 1 ((oa l 0).map avx) (eR (oa l 0))) s:=by
 have loop:∀n i:Nat,i+n=l.length→∀(es:List Nat) (ge:cd) (S:aq),Child s S→gW S ge es.length→es.length≤i→
   xt (aH au G X) (bP l g) (.aW 1 (es.map avx) ge) (.int .i64 (i:Int)) S=.ok (.aW 1 ((es++oa (l.drop i) i).map avx) (eR (es++oa (l.drop i) i))) s:=by
  intro n
  induction n with
  |zero=>
   intro i bk es ge S h bD he;have e:¬(i:Int)<(l.length:Int):=by omega
   rw[Af,bg,b2,be,aM e,bc,Of,hl (by omega)];simp only[oa,gf]
   have:=k8 (S:=S) (sz:=1) (es:=es.map avx) (g:=ge) (by simpa using bD) (uA es);rw[mW] at this;exact gV h _ _ this
  |succ n r=>
   intro i bk es ge S h bD he;have e:(i:Int)<(l.length:Int):=by omega
   have u:i<l.length:=by omega
   have H:(l.map aO.enc)[i]? =some l[i].enc:=by simp [u]
   have ip:=fun(k:a1)=>ic G X S k 12 _ g .i64 i _ H
   have J:∀x,l[i]=x→l.drop i=x::l.drop (i+1):=fun x aT=>by rw[←aT];exact gl u
   generalize aT:l[i]=x at *;have L:∀K:a1,(aH au G X).aj S K none (.bM (x.enc.cells.drop 1))=K (I x.op) S:=fun K=>rfl
   have DV:=E3 G X x.op S;have y:=fun S k=>fJ G X S k i (by omega)
   have bI:=J x rfl;rw[Af,bg,b2,be,a7 e,ba,Oe,ip,c3,L,cy,aK DV,hv,hx,pY];cases B:l6 x.op with
   |true=>
    have eB:=fun k:a1=>ah4 G X (S:=S) (k:=k) [(i:Int)]
    rw[ba];refine(eB _).trans ?_;refine u6 (new:=[avx i]) (by simpa using bD) (by simp) (by simp;omega) rfl (fun g' b4 M aD aG bz N=>?_)
    have:=r (i+1) (by omega) (es++[i]) g' b4 (N.child h) (by simpa using M) (by simp;omega);rw[List.map_append] at this;rw[Ae,y];refine this.trans ?_;rw[bI];simp only[oa,B,if_true,jY]
   |false=>have:=r (i+1) (by omega) es ge S h bD (by omega);rw[bc,Ae,y,this,bI];simp only[oa,B,co,if_false,List.nil_append]
 rw[aao,api]
 have:=loop l.length 0 (by omega) [] .nil s.af (.af s) .nil (by simp);simp only[List.map_nil,List.nil_append,bT] at this;exact this
theorem apR{pre:List aO}{x:aO}(h:wf pre x=true):dg x.op≠0:=by unfold wf at h;simp only[bL,ij] at h;exact h.1.1.1
theorem x1(l:List aO)(g:cd)(bD:∀a,g≠.bQ a)(s:aq)(br:l.length<9223372036854775806)(b6:∀o,o∈l→mh o):az au G X 14 [bP l g] s=.ok (I (dy l)) s:=by
 have fin:EB (aH au G X) (bP l g) s.af=.ok (I (if 40<l.length∨5<xZ l∨20<(hH l 0).length then 111 else 0)) s:=by
  rw[NZ,bg,b2,ee];by_cases aD:40<l.length
  ·have e:(40:Int)<(l.length:Int):=by omega
   rw[if_pos (.inl aD)];simp only[a7 e,ej,cR,ba];exact b1 _ _
  ·have e:¬(40:Int)<(l.length:Int):=by omega
   have c:=apP G X l g s.af (by omega);have J:=apQ G X l g s.af (by omega);simp only[aM e,de,df,du _ bD];rw[aK c];simp only[bg,b2,ee];by_cases bz:20<(hH l 0).length
   ·have y:(20:Int)<((hH l 0).length:Int):=by omega
    rw[if_pos (.inr (.inr bz))];simp only[a7 y,ej,cR,ba];exact b1 _ _
   ·have y:¬(20:Int)<((hH l 0).length:Int):=by omega
    simp only[aM y,de,df,du _ bD];rw[aK J];simp only[bg,b2,ee,AT];by_cases aG:5<xZ l
    ·have B:(5:Int)<(xZ l:Int):=by omega
     rw[if_pos (.inr (.inl aG)),a7 B,ba];exact b1 _ _
    ·have B:¬(5:Int)<(xZ l:Int):=by omega
     rw[if_neg (by omega),aM B,bc,NY];exact b1 _ _
 have loop:∀n i:Nat,i+n=l.length→(∀o,o∈l.take i→dg o.op≠0)→
   xn (aH au G X) (bP l g) (.int .i64 (i:Int)) s.af=.ok (I (bif jG (l.take i) (l.drop i) then(if 40<l.length∨5<xZ l∨20<(hH l 0).length then 111 else 0) else 120)) s:=by
  intro n
  induction n with
  |zero=>
   intro i bk _;have e:¬(i:Int)<(l.length:Int):=by omega
   rw[z6,bg,b2,be,aM e,bc,hl (by omega),fin];rfl
  |succ n K=>
   intro i bk H;have e:(i:Int)<(l.length:Int):=by omega
   have r:i<l.length:=by omega
   have om:l[i]? =some l[i]:=dM r;have hV:l[i]∈l:=h4 r;have bI:l.drop i=l[i]::l.drop (i+1):=gl r;have cB:l.take (i+1)=l.take i++[l[i]]:=List.take_succ_eq_append_getElem r;generalize aT:l[i]=x at *;have L:=fun S k=>fJ G X S k i (by omega)
   have w9:=apO G X l g i r br x om (b6 x hV) s.af H;rw[z6,bg,b2,be,a7 e,ba,NX,du _ bD,cy,aK w9,eY,bI];simp only[jG];cases hw:wf (l.take i) x with
   |false=>rw[eC,ba,c1,cond_false];exact b1 _ _
   |true=>
    rw[eV,bc,cG,NW,L,←cB];refine K (i+1) (by omega) (fun o u=>?_);rw[cB] at u;rcases List.mem_append.1 u with h|h
    ·exact H o h
    ·rw[List.mem_singleton.1 h];exact apR hw
 rw[aaj,apd];exact loop l.length 0 (by omega) (fun o u=>by simp at u)
end Go.h6
end
section
namespace Go.Ab
def aq.cA(s:aq)(d:Nat):List bd:=if d=s.aa then s.own else(s.up[s.aa-1-d]?).getD []
def aq.bH(s:aq)(d:Nat)(F:List bd):aq:=if d=s.aa then {s with own:=F} else {s with up:=s.up.set (s.aa-1-d) F}
structure fi (s:aq) (d:Nat):Prop where
 eQ:s.ro.length≤d
 bk:d≤s.aa
theorem aq.lG(s:aq):s.aa=s.up.length+s.ro.length:=rfl
theorem fi.idx{s:aq}{d:Nat}(h:fi s d)(bI:d≠s.aa):s.aa-1-d<s.up.length:=by have:=h.eQ;have:=h.bk;have:=s.lG;omega
theorem eS(s:aq)(d:Nat)(F:List bd):(s.bH d F).aa=s.aa:=by unfold aq.bH;split<;> simp [aq.aa]
theorem Mf(s:aq)(d:Nat)(F:List bd):(s.bH d F).ro=s.ro:=by unfold aq.bH;split<;> rfl
theorem aaZ{s:aq}{d:Nat}(h:d≠s.aa)(F:List bd):(s.bH d F).own=s.own:=by unfold aq.bH;rw[if_neg h]
theorem fi.put{s:aq}{d:Nat}(h:fi s d)(e:Nat)(F:List bd):fi (s.bH e F) d:=⟨by rw[Mf];exact h.eQ,by rw[eS];exact h.bk⟩
theorem fi.af{s:aq}{d:Nat}(h:fi s d):fi s.af d:=⟨h.eQ,by have:=h.bk;simp only[aq.af,aq.aa,c0] at *;omega⟩
theorem f6(s:aq):s.af.aa=s.aa+1:=(Child.af s).aa
theorem fi.new{s:aq}{d:Nat}(h:fi s d)(o:bd):fi (s.new o) d:=⟨h.eQ,h.bk⟩
theorem cv{s:aq}{d:Nat}(h:fi s d)(F:List bd):(s.bH d F).cA d=F:=by
 unfold aq.cA;rw[eS];unfold aq.bH;by_cases e:d=s.aa
 ·rw[if_pos e,if_pos e]
 ·rw[if_neg e,if_neg e]
  have:=h.idx e;simp [this]
theorem E8{s:aq}{d e:Nat}(bI:fi s d)(he:fi s e)(cQ:d≠e)(F:List bd):(s.bH d F).cA e=s.cA e:=by
 unfold aq.cA;rw[eS];unfold aq.bH;by_cases bU:d=s.aa
 ·rw[if_pos bU]
  have:e≠s.aa:=fun h=>cQ (by rw[bU,h])
  rw[if_neg this,if_neg this]
 ·rw[if_neg bU];by_cases r:e=s.aa
  ·rw[if_pos r,if_pos r]
  ·rw[if_neg r,if_neg r];have aD:=bI.bk;have aG:=he.bk;rw[ew (by omega)]
theorem gr(s:aq)(d:Nat)(F dD:List bd):(s.bH d F).bH d dD=s.bH d dD:=by
 unfold aq.bH;by_cases e:d=s.aa
 ·rw[if_pos e,if_pos e]
  have:d=({s with own:=F}:aq).aa:=e;rw[if_pos this]
 ·rw[if_neg e,if_neg e]
  have:({s with up:=s.up.set (s.aa-1-d) F}:aq).aa=s.aa:=by simp [aq.aa]
  rw[if_neg (by rw[this];exact e),this];simp
theorem ky{s:aq}{d:Nat}(h:fi s d):s.bH d (s.cA d)=s:=by
 unfold aq.bH aq.cA;by_cases e:d=s.aa
 ·rw[if_pos e,if_pos e]
 ·rw[if_neg e,if_neg e];have bk:=h.idx e;obtain⟨own,up,ro⟩:=s;simp only[dM bk,Option.getD_some];congr 1;exact List.set_getElem_self bk
theorem AU{s:aq}{d e:Nat}(bI:fi s d)(he:fi s e)(cQ:d≠e)(F dD:List bd):(s.bH d F).bH e dD=(s.bH e dD).bH d F:=by
 have u:=eS s d F;have y:=eS s e dD;have aD:=bI.bk;have aG:=he.bk;by_cases bU:d=s.aa
 ·have r:e≠s.aa:=fun h=>cQ (by rw[bU,h])
  unfold aq.bH at *;rw[if_pos bU] at u ⊢;rw[if_neg r] at y ⊢;rw[u,y,if_neg r,if_pos bU]
 ·by_cases r:e=s.aa
  ·unfold aq.bH at *;rw[if_neg bU] at u ⊢;rw[if_pos r] at y ⊢;rw[u,y,if_pos r,if_neg bU]
  ·unfold aq.bH at *;rw[if_neg bU] at u ⊢;rw[if_neg r] at y ⊢;rw[u,y,if_neg r,if_neg bU];simp only;rw[List.set_comm _ _ (by omega)]
theorem ld{s:aq}{d:Nat}(h:fi s d)(i:Nat):s.get (.g d i)=(s.cA d)[i]?:=by
 unfold aq.cA;simp only[aq.get];by_cases e:d=s.aa
 ·rw[if_pos e,if_pos e]
 ·have bk:=h.bk;rw[if_neg e,if_neg e,if_pos (by omega)];have aT:=h.idx e;rw[ev aT,dM aT];rfl
theorem qq{s:aq}{d:Nat}(h:fi s d)(i:Nat)(o:bd):s.set (.g d i) o=some (s.bH d ((s.cA d).set i o)):=by
 unfold aq.bH aq.cA;simp only[aq.set];by_cases e:d=s.aa
 ·rw[if_pos e,if_pos e,if_pos e]
 ·have bk:=h.bk;rw[if_neg e,if_neg e,if_neg e,if_pos ⟨by omega,h.eQ⟩];have aT:=h.idx e;congr 2;rw[dM aT];apply List.ext_getElem?;intro j;rw[List.getElem?_modify];by_cases cp:s.aa-1-d=j
  ·subst cp;simp [aT]
  ·rw[ew cp];simp [cp]
theorem rK{s:aq}{d:Nat}(h:fi s d)(e:d≠s.aa)(i:Nat)(o:bd):s.gg (.g d i) o=some (.g d (s.cA d).length,s.bH d (s.cA d++[o])):=by
 have bk:=h.bk;have aT:=h.idx e;unfold aq.bH aq.cA;simp only[aq.gg];rw[if_neg e,if_neg e,if_neg e,if_pos ⟨by omega,h.eQ⟩,dM aT];simp only[Option.getD_some];congr 3;apply List.ext_getElem?;intro j;rw[List.getElem?_modify];by_cases cp:s.aa-1-d=j
 ·subst cp;simp [aT]
 ·rw[ew cp];simp [cp]
theorem fp{s:aq}{d:Nat}(h:fi s d):s.af.cA d=s.cA d:=by
 have bk:=h.bk;have he:=f6 s;unfold aq.cA;rw[he,if_neg (by omega)];show((s.own::s.up)[s.aa+1-1-d]?).getD []=_;by_cases e:d=s.aa
 ·subst e;rw[if_pos rfl];simp
 ·rw[if_neg e,show s.aa+1-1-d=(s.aa-1-d)+1 by omega];rfl
theorem h2{s:aq}{d:Nat}(h:fi s d)(F:List bd):(s.bH d F).af=s.af.bH d F:=by
 have bk:=h.bk;have he:=f6 s;unfold aq.bH;rw[if_neg (show¬d=s.af.aa by omega),he];by_cases e:d=s.aa
 ·subst e;rw[if_pos rfl];simp [aq.af]
 ·rw[if_neg e,show s.aa+1-1-d=(s.aa-1-d)+1 by omega];rfl
theorem gY(s:aq):s.cA s.aa=s.own:=by unfold aq.cA;rw[if_pos rfl]
section
variable{T:Nat→Option bY}{G:Nat→ai}{X:Nat→List ai→aq→ao}{s:aq}{k:a1}
theorem a3(a:Loc)(o:Nat):(aH T G X).aE s k (.ref a o)=k (.ref a o) s:=rfl
theorem gF{d j o:Nat}{cs:List ai}{c:ai}(h:fi s d)(bq:(s.cA d)[j]? =some (.cells cs))(a9:cs[o]? =some c):(aH T G X).aj s k none (.ref (.g d j) o)=k c s:=by
 rw[k5];simp only[fq,ld h,bq,fc]
 have:cs.drop o=c::cs.drop (o+1):=by have e:=(bZ.1 a9);rw[gl e.1,e.2]
 rw[this];rfl
theorem jR{d j o:Nat}{cs:List ai}{v:ai}(h:fi s d)(bq:(s.cA d)[j]? =some (.cells cs))(e:o<cs.length)(bG:v.dZ=true)(hw:v.cells=[v])(r:v.fo=true)(br:v.bp=true∨v.low d=true):(aH T G X).a6 s k 1 (.ref (.g d j) o) v=k .dead (s.bH d ((s.cA d).set j (.cells (cs.set o v)))):=by
 rw[mU];simp only[hp,r,hw,c0,ek,cf,fE,eD,cb];unfold jJ;have cB:s.ho (.g d j) [v]=true:=by
  rcases br with br|br
  ·simp [aq.ho,ai.bj,br]
  ·simp [aq.ho,ai.ll,br]
 simp only[ld h,bq,c0,ek,cf,show Nat.ble (o+1) cs.length=true from dN e,cB,List.all_cons,bG,List.all_nil,eD,cb];show(match s.set (.g d j) (.cells (dq cs o [v])) with |some s=>k .dead s|none=>.fail)=_;rw[qq h];rfl
def ct(F:List bd)(d:Nat)(g:cd)(n:Nat):Prop:=(g=.nil∧n=0)∨∃t,g=.bQ (.g d t)∧0<n∧F[t]? =some (.tok n)
structure nS (F dD:List bd) (d:Nat) (g:cd):Prop where
 len:F.length≤dD.length
 mv:∀j o,F[j]? =some o→g≠.bQ (.g d j)→dD[j]? =some o
theorem Q0{d i:Nat}(h:fi s d)(e:d≠s.aa):(aH T G X).o9 s k (some (.g d i))=k (.map (.g d (s.cA d).length)) (s.bH d (s.cA d++[.map []])):=by show kG (gk G (az T G X) bO) s k (some (.g d i))=_;unfold kG;simp only;rw[rK h e];rfl
abbrev qs(es:List (List Nat×Int)):List (ai×ai):=es.map fun p=>(.str p.1,.int .i64 p.2)
def jV:List (List Nat×Int)→List Nat→Option Int
 |[],_=>none
 |(x,v)::es,w=>if w=x then some v else jV es w
def uB(w:List Nat)(v:Int):List (List Nat×Int)→List (List Nat×Int)
 |[]=>[(w,v)]
 |(x,u)::es=>if w=x then(x,v)::es else(x,u)::uB w v es
theorem uC(w:List Nat):∀es,findKey (.str w) (qs es)=some ((jV es w).map fun v=>.int .i64 v)
 |[]=>rfl
 |(x,v)::es=>by
  simp only[fU,findKey,pG,jV];by_cases h:w=x
  ·subst h;simp
  ·have:(w==x)=false:=by simp [h]
   simp only[this,if_neg h];exact uC w es
theorem wU(w:List Nat)(v:Int):∀es,putKey (.str w) (.int .i64 v) (qs es)=some (qs (uB w v es))
 |[]=>rfl
 |(x,u)::es=>by
  simp only[fU,putKey,pG,uB];by_cases h:w=x
  ·subst h;simp
  ·have:(w==x)=false:=by simp [h]
   simp only[this,if_neg h];have e:=wU w v es;simp only[qs] at e;rw[e];rfl
theorem vi(w:List Nat)(v:Int)(x:List Nat):∀es,jV (uB w v es) x=if x=w then some v else jV es x
 |[]=>rfl
 |(y,u)::es=>by
  simp only[uB];by_cases h:w=y
  ·subst h;rw[if_pos rfl];simp only[jV];by_cases aT:x=w
   ·rw[if_pos aT,if_pos aT]
   ·rw[if_neg aT,if_neg aT,if_neg aT]
  ·rw[if_neg h];simp only[jV];by_cases aT:x=y
   ·subst aT;rw[if_pos rfl,if_pos rfl,if_neg (fun e=>h e.symm)]
   ·rw[if_neg aT,if_neg aT,vi w v x es]
theorem CR{d m:Nat}{es:List (List Nat×Int)}(h:fi s d)(bq:(s.cA d)[m]? =some (.map (qs es)))(w:List Nat):(aH T G X).lD s k .str (.int .i64 0) false (.map (.g d m)) (.str w)=k (.int .i64 ((jV es w).getD 0)) s:=by show ke (gk G (az T G X) bO) s k .str (.int .i64 0) false (.map (.g d m)) (.str w)=_;unfold ke;simp only[isKey,entriesOf,ld h,bq,uC,cb];cases jV es w<;> rfl
theorem Mg{d m:Nat}{es:List (List Nat×Int)}(h:fi s d)(bq:(s.cA d)[m]? =some (.map (qs es)))(w:List Nat)(v:Int):(aH T G X).kK s k .str (.map (.g d m)) (.str w) (.int .i64 v)=k .dead (s.bH d ((s.cA d).set m (.map (qs (uB w v es))))):=by
 show kd (gk G (az T G X) bO) s k .str (.map (.g d m)) (.str w) (.int .i64 v)=_;unfold kd;have cB:s.ho (.g d m) [.str w,.int .i64 v]=true:=by simp [aq.ho,ai.bj,ai.bp]
 simp only[ld h,bq,isKey,ai.fo,cB,eD,cb,wU];rw[qq h];rfl
end
end Go.Ab
end
section
namespace Go.h6
open Go.Ab Go.hd
variable(G:Nat→ai)(X:Nat→List ai→aq→ao)
theorem AV(k:a1){s:aq}{d j o:Nat}{cs:List ai}{c:ai}(h:fi s d)(bq:(s.cA d)[j]? =some (.cells cs))(a9:cs[o]? =some c):(aH au G X).aj s k none (.ref (.g d j) o)=k c s:=gF h bq a9
structure fR where
 op:Int
 a:Int
 b:Int
def fR.enc(x:fR):ai:=.agg [I x.op,I x.a,I x.b]
structure cj where
 ins:List fR
 aF:List (List Int×cd)
 roots:List Int
 env:List (List Nat×Int)
 dj:Int
 e5:Int:=0
abbrev bA(v:List Int×cd):ai:=dx v.1 v.2
def cj.cells(A:cj)(cO:ai)(ck cm b5:cd):List ai:=[I A.e5,.aW 3 (A.ins.map fR.enc) ck,.aW 1 (A.aF.map bA) cm,dx A.roots b5,cO,I A.dj]
def apart(d:Nat)(g g':cd):Prop:=∀t,g=.bQ (.g d t)→g'≠.bQ (.g d t)
structure iy (F:List bd) (d j:Nat) (A:cj) (cO:ai) (ck cm b5:cd):Prop where
 c:F[j]? =some (.cells (A.cells cO ck cm b5))
 Bj:ct F d ck A.ins.length
 Q1:ct F d cm A.aF.length
 wr:ct F d b5 A.roots.length
 ai0:apart d ck cm
 ai1:apart d ck b5
 qJ:apart d cm b5
theorem apart.symm{d:Nat}{g g':cd}(h:apart d g g'):apart d g' g:=fun t e hN=>h t hN e
theorem ct.le{F:List bd}{d n t:Nat}(h:ct F d (.bQ (.g d t)) n):F[t]? =some (.tok n)∧0<n:=by
 rcases h with⟨e,_⟩|⟨u,e,aD,aG⟩
 ·cases e
 ·cases e;exact⟨aG,aD⟩
theorem ct.bf{F dD:List bd}{d n:Nat}{g:cd}(h:ct F d g n)(cg:∀t,g=.bQ (.g d t)→dD[t]? =F[t]?):ct dD d g n:=by
 rcases h with h|⟨t,e,aD,aG⟩
 ·exact .inl h
 ·exact .inr ⟨t,e,aD,by rw[cg t e,aG]⟩
def iI(F:List bd)(d:Nat)(cO:ai)(env:List (List Nat×Int)):Prop:=∃mp es,cO=.map (.g d mp)∧F[mp]? =some (.map (qs es))∧∀w,jV es w=jV env w
def aic(F dD:List bd)(d j:Nat)(ck:cd):Prop:=∀i o,F[i]? =some o→i≠j→ck≠.bQ (.g d i)→dD[i]? =some o
theorem iI.bf{F dD:List bd}{d j:Nat}{ck:cd}{cO:ai}{env:List (List Nat×Int)}{n:Nat}(h:iI F d cO env)(cg:aic F dD d j ck)(cp:∃cs,F[j]? =some (.cells cs))(bD:ct F d ck n):iI dD d cO env:=by
 obtain⟨mp,es,aD,aG,bz⟩:=h;refine⟨mp,es,aD,cg mp _ aG (fun e=>?_) (fun e=>?_),bz⟩
 ·subst e;obtain⟨cs,a9⟩:=cp;rw[aG] at a9;cases a9
 ·subst e
  have:=(ct.le bD).1;rw[aG] at this;cases this
theorem aid{s:aq}{d:Nat}(h:fi s d)(F:List bd)(kk:IntKind)(n:Int):(aH au G X).aB false [some (.int kk n)] (s.af.bH d F)=.ok (.int kk n) (s.bH d F):=by rw[←h2 h];exact b1 kk n
theorem AW(d t sz:Nat)(es:List ai):ai.low d (.aW sz es (.bQ (.g d t)))=true:=dN (aX d)
theorem ZD{s:aq}{d j:Nat}{A:cj}{cO:ai}{ck cm b5:cd}(h:fi s d)(r:iy (s.cA d) d j A cO ck cm b5)(ao:A.ins.length<1000000000)(op a b:Int):
  ∃dD dh,az au G X 76 [.ref (.g d j) 0,I op,I a,I b] s=.ok (I A.ins.length) (s.bH d dD)∧iy dD d j {A with ins:=A.ins++[fR.mk op a b]} cO dh cm b5∧aic (s.cA d) dD d j ck∧(∀i,i<(s.cA d).length→dh=.bQ (.g d i)→ck=.bQ (.g d i))∧(s.cA d).length≤dD.length:=by
 have he:=h.af;have cQ:d≠s.af.aa:=by have:=h.bk;have:=f6 s;omega
 have bq:=fp h;have a9:(s.af.cA d)[j]? =some (.cells (A.cells cO ck cm b5)):=by rw[bq];exact r.c
 have Z:=fun k:a1=>AV G X k he a9 (o:=0+0+1) (c:=.aW 3 (A.ins.map fR.enc) ck) rfl
 have ab:∀(S:aq) (k:a1),(aH au G X).cH [.int .i64 0,.int .i64 0,.int .i64 0] [(0,1,I op),(1,1,I a),(2,1,I b)] S k=k (fR.enc (fR.mk op a b)) S:=fun S k=>rfl
 have eB:∀(S:aq) (k:a1),(aH au G X).av S k 3 [fR.enc (fR.mk op a b)]=k (.aW 3 [fR.enc (fR.mk op a b)] .exact) S:=fun S k=>rfl
 have ap:j<(s.cA d).length:=(bZ.1 r.c).1;have key:∃t B,B[t]? =some (.tok (A.ins.length+1))∧(ck=.nil→(s.cA d).length≤t)∧(∀u,ck=.bQ (.g d u)→t=u)∧nS (s.cA d) B d ck∧
   ∀k:a1,(aH au G X).cn s.af k 3 24 (some (.g d j)) (.aW 3 (A.ins.map fR.enc) ck) (.aW 3 [fR.enc (fR.mk op a b)] .exact)=k (.aW 3 ((A.ins++[fR.mk op a b]).map fR.enc) (.bQ (.g d t))) (s.af.bH d B):=by
  have O:ct (s.af.cA d) d ck (A.ins.map fR.enc).length:=by rw[bq,b2];exact r.Bj
  rcases r.Bj with⟨rfl,cL⟩|⟨t,rfl,aD,aG⟩
  ·refine⟨(s.cA d).length,s.cA d++[.tok (A.ins.length+1)],by simp,fun _=>aX _,fun u e=>(by cases e),⟨by simp,fun i o bk _=>by rw[ev (bZ.1 bk).1];exact bk⟩,fun k=>?_⟩;rw[gS];unfold er fl;simp only[dB,fE,cG,b2,c0,ek,cf,show Nat.ble ((A.ins.length+1)*24) 1099511627776=true from dN (by omega),cb];rw[rK he cQ,bq];simp only[List.map_append,fU,List.map_nil];rfl
  ·have ac:=(bZ.1 aG).1;refine⟨t,(s.cA d).set t (.tok (A.ins.length+1)),by simp [ac],fun e=>(by cases e),fun u e=>(by cases e;rfl),⟨by simp,fun i o bk bX=>by rw[ew (fun e=>bX (by rw[e]))];exact bk⟩,fun k=>?_⟩;rw[gS];unfold er fl;simp only[dB,fE,cG,b2,c0,ek,cf,show Nat.ble ((A.ins.length+1)*24) 1099511627776=true from dN (by omega),cb,ld he,bq,aG];rw[show(([fR.enc (fR.mk op a b)]:List ai).flatMap ai.cells).all ai.dZ=true from rfl];simp only[cb,qq he,bq,List.map_append,fU,List.map_nil];rfl
 obtain⟨t,B,gw,hj,K,L,ad⟩:=key;have Q:∀u n,(s.cA d)[u]? =some (.tok n)→u≠t→B[u]? =some (.tok n):=fun u n hu ae=>L.mv u _ hu (fun e=>ae (K u e).symm)
 have R:t≠j:=by
  rcases r.Bj with⟨e,cL⟩|⟨u,e,aD,aG⟩
  ·have:=hj e;omega
  ·have:=K u e;subst this;intro H;subst H;rw[r.c] at aG;cases aG
 have U:B[j]? =some (.cells (A.cells cO ck cm b5)):=L.mv j _ r.c (fun e=>by have:=K j e;exact R this)
 have ag:fi (s.af.bH d B) d:=he.put d B;have V:(s.af.bH d B).cA d=B:=cv he B;have ez:=fun k:a1=>jR (T:=au) (G:=G) (X:=X) (k:=k) ag (by rw[V];exact U) (o:=0+0+1) (v:=.aW 3 ((A.ins++[fR.mk op a b]).map fR.enc) (.bQ (.g d t))) (by simp [cj.cells]) rfl rfl rfl (.inr (AW d t _ _))
 rw[V,gr] at ez
 let A':cj:={A with ins:=A.ins++[fR.mk op a b]}
 have ah:(A.cells cO ck cm b5).set (0+0+1) (.aW 3 ((A.ins++[fR.mk op a b]).map fR.enc) (.bQ (.g d t)))=A'.cells cO (.bQ (.g d t)) cm b5:=rfl;rw[ah] at ez;have aj:j<B.length:=(bZ.1 U).1;have Y:(B.set j (.cells (A'.cells cO (.bQ (.g d t)) cm b5)))[j]? =some (.cells (A'.cells cO (.bQ (.g d t)) cm b5)):=by simp [aj]
 have ak:fi (s.af.bH d (B.set j (.cells (A'.cells cO (.bQ (.g d t)) cm b5)))) d:=he.put d _;have al:=cv he (B.set j (.cells (A'.cells cO (.bQ (.g d t)) cm b5)));have am:=fun k:a1=>AV G X k ak (by rw[al];exact Y) (o:=0+0+1) (c:=.aW 3 (A'.ins.map fR.enc) (.bQ (.g d t))) rfl
 refine⟨B.set j (.cells (A'.cells cO (.bQ (.g d t)) cm b5)),.bQ (.g d t),?_,⟨Y,?_,?_,?_,?_,?_,r.qJ⟩,fun i o bk an O=>?_,fun i bk e=>?_,by rw[List.length_set];exact L.len⟩
 ·rw[aaB,apw,a3,aA,aA,Z,ab,eB];refine(ad _).trans ?_;rw[a3,aA,aA];refine(ez _).trans ?_;rw[a3,aA,aA];refine(am _).trans ?_;rw[bg,b2,nj,gJ _ (by simp only[A',dm,c0,ek];omega) (by simp only[A',dm,c0,ek];omega),aid G X h];congr 2;simp [A']
 ·exact .inr ⟨t,rfl,by simp,by rw[ew (Ne.symm R),gw];simp⟩
 ·refine ct.bf r.Q1 (fun u e=>?_);have hu:=(ct.le (e ▸ r.Q1)).1;have M:u≠t:=fun H=>by
   subst H;rcases r.Bj with⟨y,cL⟩|⟨J,y,aD,aG⟩
   ·have:=hj y;have:=(bZ.1 hu).1;omega
   ·have:=K J y;subst this;exact r.ai0 u y e
  have N:j≠u:=fun H=>by subst H;rw[r.c] at hu;cases hu
  rw[ew N,Q u _ hu M,hu]
 ·refine ct.bf r.wr (fun u e=>?_);have hu:=(ct.le (e ▸ r.wr)).1;have M:u≠t:=fun H=>by
   subst H;rcases r.Bj with⟨y,cL⟩|⟨J,y,aD,aG⟩
   ·have:=hj y;have:=(bZ.1 hu).1;omega
   ·have:=K J y;subst this;exact r.ai1 u y e
  have N:j≠u:=fun H=>by subst H;rw[r.c] at hu;cases hu
  rw[ew N,Q u _ hu M,hu]
 ·intro u e H;cases e;have hu:=(ct.le (H ▸ r.Q1)).1;rcases r.Bj with⟨y,cL⟩|⟨J,y,aD,aG⟩
  ·have:=hj y;have:=(bZ.1 hu).1;omega
  ·have:=K J y;subst this;exact r.ai0 _ y H
 ·intro u e H;cases e;have hu:=(ct.le (H ▸ r.wr)).1;rcases r.Bj with⟨y,cL⟩|⟨J,y,aD,aG⟩
  ·have:=hj y;have:=(bZ.1 hu).1;omega
  ·have:=K J y;subst this;exact r.ai1 _ y H
 ·rw[ew (Ne.symm an)];exact L.mv i o bk O
 ·cases e;rcases r.Bj with⟨y,cL⟩|⟨J,y,aD,aG⟩
  ·have:=hj y;omega
  ·have:=K J y;subst this;exact y
abbrev aie(src:List Nat)(n:Nat):bd:=.cells [.str src,.int .i64 (n:Int)]
structure oJ (s:aq) (e i:Nat) (src:List Nat) (n:Nat):Prop where
 f:fi s e
 c:(s.cA e)[i]? =some (aie src n)
 l:n≤src.length
 b:src.length<1000000000
abbrev setAt(s:aq)(e i:Nat)(src:List Nat)(n:Nat):aq:=s.bH e ((s.cA e).set i (aie src n))
theorem oJ.set{s:aq}{e i n m:Nat}{src:List Nat}(h:oJ s e i src n)(hm:m≤src.length):oJ (setAt s e i src m) e i src m:=
 ⟨h.f.put _ _,by rw[cv h.f];simp [(bZ.1 h.c).1],hm,h.b⟩
theorem oJ.af{s:aq}{e i n:Nat}{src:List Nat}(h:oJ s e i src n):oJ s.af e i src n:=
 ⟨h.f.af,by rw[fp h.f];exact h.c,h.l,h.b⟩
theorem ph{s:aq}{e i n m r:Nat}{src:List Nat}(h:oJ s e i src n):setAt (setAt s e i src m) e i src r=setAt s e i src r:=by unfold setAt;rw[cv h.f,gr,List.set_set]
theorem nT{s:aq}{e i n:Nat}{src:List Nat}(h:oJ s e i src n):setAt s e i src n=s:=by
 unfold setAt
 have:(s.cA e).set i (aie src n)=s.cA e:=by have:=bZ.1 h.c;rw[←this.2];exact List.set_getElem_self this.1
 rw[this,ky h.f]
theorem pi{s:aq}{e i n m:Nat}{src:List Nat}(h:oJ s e i src n):setAt s.af e i src m=(setAt s e i src m).af:=by unfold setAt;rw[fp h.f,h2 h.f]
theorem oJ.q4{s:aq}{e i n:Nat}{src:List Nat}(h:oJ s e i src n)(k:a1):(aH au G X).aj s k none (.ref (.g e i) (0+0))=k (.str src) s:=gF h.f h.c rfl
theorem oJ.kz{s:aq}{e i n:Nat}{src:List Nat}(h:oJ s e i src n)(k:a1):(aH au G X).aj s k none (.ref (.g e i) (0+1))=k (.int .i64 (n:Int)) s:=gF h.f h.c rfl
theorem oJ.n7{s:aq}{e i n:Nat}{src:List Nat}(h:oJ s e i src n)(k:a1)(m:Nat):(aH au G X).a6 s k 1 (.ref (.g e i) (0+1)) (ai.ak s.aa (.int .i64 (m:Int)))=k .dead (setAt s e i src m):=jR h.f h.c (by simp) rfl rfl rfl (.inl rfl)
def skip:List Nat→List Nat
 |[]=>[]
 |x::l=>if x=32 then skip l else x::l
theorem h3{src:List Nat}{n:Nat}{x:Nat}{l:List Nat}(h:src.drop n=x::l):src[n]? =some x∧src.drop (n+1)=l∧n<src.length:=by
 have bX:n<src.length:=by
  rcases Nat.lt_or_ge n src.length with aD|aD
  ·exact aD
  ·rw[hl aD] at h;cases h
 have:=gl bX;rw[this] at h;injection h with aD aG
 exact⟨by rw[dM bX,aD],aG,bX⟩
theorem drop_nil{src:List Nat}{n:Nat}(h:src.drop n=[])(bX:n≤src.length):n=src.length:=by have:=List.drop_eq_nil_iff.1 h;omega
theorem rL(src:List Nat):∀(l:List Nat) (n:Nat),src.drop n=l→n≤src.length→∃m,n≤m∧m≤src.length∧src.drop m=skip l
 |[],n,h,bX=>⟨n,aX _,bX,h⟩
 |x::l,n,h,bX=>by
  obtain⟨_,aG,bz⟩:=h3 h;unfold skip;by_cases e:x=32
  ·rw[if_pos e];obtain⟨m,xl,oh,r⟩:=rL src l (n+1) aG bz;exact⟨m,by omega,oh,r⟩
  ·rw[if_neg e];exact⟨n,aX _,bX,h⟩
abbrev posOf(src l:List Nat):Nat:=src.length-l.length
theorem gQ{src:List Nat}{n:Nat}{l:List Nat}(h:src.drop n=l)(bX:n≤src.length):n=posOf src l:=by unfold posOf;rw[←h,List.length_drop];omega
theorem Mh{e i:Nat}{src:List Nat}:∀(l:List Nat) (n:Nat) (S:aq),oJ S e i src n→src.drop n=l→
  ∃m,m≤src.length∧src.drop m=skip l∧tH (aH au G X) (.ref (.g e i) 0) S=zB (aH au G X) (.ref (.g e i) 0) (setAt S e i src m):=by
 intro l
 induction l with
 |nil=>
  intro n S h bI;have bX:=drop_nil bI h.l;refine⟨n,h.l,bI,?_⟩;have c:¬(n:Int)<(src.length:Int):=by omega
  rw[qi,a3,aA,h.kz,a3,aA,h.q4,ei,be,aM c];simp -implicitDefEqProofs only[fh,df,bc];rw[nT h]
 |cons x l y=>
  intro n S h bI;obtain⟨aD,aG,bz⟩:=h3 bI;have c:(n:Int)<(src.length:Int):=by omega
  have u:=fun(k:a1)=>gq G X (s:=S) (k:=k) src .i64 n x aD
  have B:=fun S k=>fJ G X S k n (by have:=h.b;omega)
  by_cases aT:x=32
  ·obtain⟨m,xl,oh,H⟩:=y (n+1) (setAt S e i src (n+1)) (h.set (by omega)) aG;refine⟨m,xl,by rw[oh,skip,if_pos aT],?_⟩;have r:((x:Nat):Int)=32:=by omega
   rw[qi,a3,aA,h.kz,a3,aA,h.q4,ei,be,a7 c];simp only[dP];rw[a3,aA,h.q4,a3,aA,h.kz,u,bi,a7 r,cR,ba,KT,a3,aA,h.kz,B,a3,aA,h.n7,H,ph h]
  ·refine⟨n,h.l,by rw[bI,skip,if_neg aT],?_⟩;have r:¬((x:Nat):Int)=32:=by omega
   rw[qi,a3,aA,h.kz,a3,aA,h.q4,ei,be,a7 c];simp only[dP];rw[a3,aA,h.q4,a3,aA,h.kz,u,bi,aM r,cR,bc,nT h]
theorem Mi{s:aq}{e i n:Nat}{src l:List Nat}(h:oJ s e i src n)(bI:src.drop n=l):
  az au G X 122 [.ref (.g e i) 0] s=.ok (.int .u8 (((skip l).headD 0:Nat):Int)) (setAt s e i src (posOf src (skip l))):=by
 obtain⟨m,xl,oh,y⟩:=Mh G X l n s.af h.af bI;have hm:=gQ oh xl;have u:=(h.af).set xl;rw[Qh,ag8,y,KV,a3,aA,u.kz,a3,aA,u.q4,ei,bi,←hm];rw[pi h] at u ⊢;cases cg:skip l with
 |nil=>
  rw[cg] at oh
  have:m=src.length:=drop_nil oh xl;rw[a7 (by omega),ba];exact b1 _ _
 |cons x r=>rw[cg] at oh;obtain⟨aD,aG,bz⟩:=h3 oh;rw[aM (by omega),bc,KU,a3,aA,u.q4,a3,aA,u.kz];refine(gq G X src .i64 m x aD).trans ?_;exact b1 _ _
def vj(c:Nat):Bool:=(Nat.ble 97 c&&Nat.ble c 122)||(Nat.ble 48 c&&Nat.ble c 57)
def jS:List Nat→List Nat
 |[]=>[]
 |x::l=>if vj x then x::jS l else[]
def eJ:List Nat→List Nat
 |[]=>[]
 |x::l=>if vj x then eJ l else x::l
theorem E9{s:aq}{k:a1}(eB:List Nat)(a b:Nat)(aD:a≤b)(aG:b≤eB.length):(aH au G X).nf (.str eB) (some (.int .i64 (a:Int))) (some (.int .i64 (b:Int))) s k=k (.str ((eB.drop a).take (b-a))) s:=by show hSub (.str eB) (some (.int .i64 (a:Int))) (some (.int .i64 (b:Int))) s k=_;unfold hSub;simp only[pB,hs,dN aD,dN aG,eD,cb]
theorem pj{src:List Nat}:∀(l:List Nat) (n:Nat),src.drop n=l→n≤src.length→∃m,n≤m∧m≤src.length∧src.drop m=eJ l∧(src.drop n).take (m-n)=jS l
 |[],n,h,bX=>⟨n,aX _,bX,h,by simp [jS]⟩
 |x::l,n,h,bX=>by
  obtain⟨aD,aG,bz⟩:=h3 h;unfold eJ jS;by_cases e:vj x=true
  ·rw[if_pos e,if_pos e];obtain⟨m,xl,oh,r,u⟩:=pj l (n+1) aG bz;refine⟨m,by omega,oh,r,?_⟩;rw[h,show m-n=(m-(n+1))+1 by omega,hI,←u,aG]
  ·rw[if_neg e,if_neg e];exact⟨n,aX _,bX,h,by simp⟩
theorem Mj{e i:Nat}{src:List Nat}(v:ai):∀(l:List Nat) (n:Nat) (S:aq),oJ S e i src n→src.drop n=l→
  tI (aH au G X) (.ref (.g e i) 0) v S=p8 (aH au G X) (.ref (.g e i) 0) v (setAt S e i src (posOf src (eJ l))):=by
 intro l
 induction l with
 |nil=>
  intro n S h bI;have bX:=drop_nil bI h.l;have c:¬(n:Int)<(src.length:Int):=by omega
  rw[wD,a3,aA,h.kz,a3,aA,h.q4,ei,be,aM c,bc];rw[show posOf src (eJ [])=n by simp [posOf,eJ,bX],nT h]
 |cons x l r=>
  intro n S h bI;obtain⟨aD,aG,bz⟩:=h3 bI;have c:(n:Int)<(src.length:Int):=by omega
  have u:=fun(k:a1)=>gq G X (s:=S) (k:=k) src .i64 n x aD
  have y:=fun S k=>fJ G X S k n (by have:=h.b;omega)
  have step:zD (aH au G X) (.ref (.g e i) 0) v S=if vj x=true then zC (aH au G X) (.ref (.g e i) 0) v S else p8 (aH au G X) (.ref (.g e i) 0) v S:=by
   rw[KY,a3,aA,h.q4,a3,aA,h.kz,u];have kR:vj x= !((decide ((x:Int)<97)||decide ((122:Int)<(x:Int)))&&(decide ((x:Int)<48)||decide ((57:Int)<(x:Int)))):=by unfold vj;rw[Bool.eq_iff_iff];simp only[Bool.or_eq_true,bL,Nat.ble_eq,Bool.not_eq_true',Bool.and_eq_false_iff,Bool.or_eq_false_iff,decide_eq_false_iff_not];omega
   rw[kR];have B:=fun(S:aq) (k:a1)=>be (T:=au) (G:=G) (X:=X) (s:=S) (k:=k) .u8 (x:Int) 97
   have H:=fun(S:aq) (k:a1)=>ee (T:=au) (G:=G) (X:=X) (s:=S) (k:=k) .u8 (x:Int) 122
   have I:=fun(S:aq) (k:a1)=>be (T:=au) (G:=G) (X:=X) (s:=S) (k:=k) .u8 (x:Int) 48
   have J:=fun(S:aq) (k:a1)=>ee (T:=au) (G:=G) (X:=X) (s:=S) (k:=k) .u8 (x:Int) 57
   generalize decide ((x:Int)<97)=ml at *;generalize decide ((122:Int)<(x:Int))=K at *;generalize decide ((x:Int)<48)=L at *;generalize decide ((57:Int)<(x:Int))=M at *;cases ml<;> cases K<;> cases L<;> cases M<;> simp -implicitDefEqProofs only[B,H,I,J,eG,dP,ej,fh,de,cR,df,ba,bc,Bool.or_true,Bool.or_false,Bool.and_true,Bool.and_false,eV,eC,if_true,if_false,co]
  rw[wD,a3,aA,h.kz,a3,aA,h.q4,ei,be,a7 c,ba,step];unfold eJ;by_cases aT:vj x=true
  ·rw[if_pos aT,if_pos aT,KX,a3,aA,h.kz,y,a3,aA,h.n7,r (n+1) (setAt S e i src (n+1)) (h.set (by omega)) aG,ph h]
  ·rw[if_neg aT,if_neg aT,←bI,←gQ rfl h.l,nT h]
theorem aif{s:aq}{e i n:Nat}{src l:List Nat}(h:oJ s e i src n)(bI:src.drop n=l):
  az au G X 123 [.ref (.g e i) 0] s=.ok (.str (jS (skip l))) (setAt s e i src (posOf src (eJ (skip l)))):=by
 obtain⟨m,xl,oh,r⟩:=rL src l n bI h.l;have hm:=gQ r oh;have aD:=h.af.set oh;have u:=Mi G X h.af bI;rw[←hm] at u;obtain⟨y,gw,hj,B,H⟩:=pj (skip l) m r oh;have I:=gQ B hj;have aG:=aD.set (m:=y) hj;rw[ph h.af,pi h] at aG;rw[Qi,ag9];refine(dc u (by rw[eS])).trans ?_;rw[a3,aA,aD.kz,Mj G X _ _ _ _ aD r,←I,ph h.af,pi h,KW,a3,aA,aG.q4,a3,aA,aG.kz,E9 G X src m y gw hj,H];exact nk _
theorem aih(s:aq)(n c:Nat)(a9:c=48+n)(h:n<10):az au G X 153 [.str [c]] s=.ok (.cT [.int .i64 (n:Int),.e2]) s:=by
 have e:∀(S:aq) (k:a1),(aH au G X).db S k (.str [c]) (.int .i64 0)=k (.int .u8 (c:Int)) S:=fun S k=>gq G X (s:=S) (k:=k) [c] .i64 0 c rfl
 have bU:¬(c:Int)=45:=by omega
 have r:¬(c:Int)=43:=by omega
 have u:¬(9:Int)<(n:Int):=by omega
 have y:∀(S:aq) (k:a1),(aH au G X).lN S k (.str [c])=k (.aW 1 [.int .u8 (c:Int)] .any) S:=fun _ _=>rfl
 have id:∀(S:aq) (k:a1),(aH au G X).aZ S k 1 (.aW 1 [.int .u8 (c:Int)] .any) (.int .i64 0)=k (.bM [.int .u8 (c:Int)]) S:=fun S k=>ic G X S k 1 [.int .u8 (c:Int)] .any .i64 0 _ rfl
 have B:∀(S:aq) (k:a1),(aH au G X).aj S k none (.bM [.int .u8 (c:Int)])=k (.int .u8 (c:Int)) S:=fun _ _=>rfl
 have H:IntKind.wrap .u8 ((c:Int)-48)=(n:Int):=by unfold IntKind.wrap;simp only[show IntKind.bits .u8=8 from rfl,show IntKind.signed .u8=false from rfl,c1];show((c:Int)-48)%256=n;omega
 have I:∀(S:aq) (k:a1),(aH au G X).bm S k .i64 (.int .u8 (n:Int))=k (.int .i64 (n:Int)) S:=fun S k=>by show k (.int .i64 (IntKind.wrap .i64 (n:Int))) S=_;rw[gJ _ (by omega) (by omega)]
 have J:IntKind.wrap .i64 (0*10)=0:=by decide
 have K:IntKind.wrap .i64 (0+1)=1:=by decide
 have L:∀(S:aq) (k:a1),(aH au G X).aY S k false (.aW 1 [.int .u8 (c:Int)] .any)=k (.int .i64 1) S:=fun _ _=>rfl
 have M:∀(S:aq) (k:a1),(aH au G X).aY S k true (.str [c])=k (.int .i64 1) S:=fun _ _=>rfl
 have N:∀S:aq,zI (aH au G X) (.str [c]) (.int .i64 (n:Int)) S=qa (aH au G X) (.int .i64 (n:Int)) S:=fun S=>by rw[Lb,e,bi,aM bU,bc]
 have O:∀S:aq,tM (aH au G X) (.str [c]) (.int .i64 0) (.aW 1 [.int .u8 (c:Int)] .any) (.int .i64 1) (.int .i64 0) S=qa (aH au G X) (.int .i64 (n:Int)) S:=fun S=>by rw[wH,be,a7 (by decide),ba,K9,id,B,nj,H,ee,aM u,bc,K8,Nh,I,pW,J,gJ _ (by omega) (by omega),Int.zero_add,K7,pW,K,wH,be,aM (by decide),bc,N]
 have Q:decide ((0:Int)<1)=true:=by decide
 have R:decide ((1:Int)<19)=true:=by decide
 rw[Qm,ahd,M];simp -implicitDefEqProofs only[fh,dP,de,df,cR,be,eG,Q,R,ba];rw[e,bi,aM bU,de]
 dsimp only
 rw[de,e,de,bi,aM r,df,bc,Lc,y,L,O,La];rfl
theorem aii(s:aq)(n c:Nat)(a9:c=48+n)(h:n<10):az au G X 124 [.str [c]] s=.ok (.cT [.int .i64 (n:Int),.e2]) s:=by
 have MW:∀(S:aq) (k:a1),(aH au G X).ah S k (uQ true .e2)=k (.bool false) S:=fun _ _=>rfl
 rw[Ql,ahc];refine(aK (aih G X s.af n c a9 h)).trans ?_;rw[hv,hx,MW,bc,K6];rfl
structure abg (F dD:List bd) (d j:Nat) (g g':cd):Prop where
 bf:∀i o,F[i]? =some o→i≠j→g≠.bQ (.g d i)→dD[i]? =some o
 mv:∀i,i<F.length→g'=.bQ (.g d i)→g=.bQ (.g d i)
 len:F.length≤dD.length
theorem abg.refl(F:List bd)(d j:Nat)(g:cd):abg F F d j g g:=⟨fun _ _ h _ _=>h,fun _ _ h=>h,aX _⟩
theorem abg.trans{F r u:List bd}{d j:Nat}{g g1 g2:cd}(h:abg F r d j g g1)(k:abg r u d j g1 g2):abg F u d j g g2:=
 ⟨fun i o y B bD=>k.bf i o (h.bf i o y B bD) B (fun e=>bD (h.mv i (bZ.1 y).1 e)),
  fun i bk e=>h.mv i bk (k.mv i (gm bk h.len) e),Nat.le_trans h.len k.len⟩
def ob(d j:Nat):ai:=.bM [.ref (.g d j) 0]
def aw0(e d j:Nat)(src:List Nat)(n:Nat):List bd:=[aie src n,.cells [.ref (.g e 0) 0],.cells [.fn 126 [.ref (.g e 1) 0,ob d j,.ref (.g e 4) 0]],.cells [.fn 121 [.ref (.g e 1) 0,.ref (.g e 2) 0,ob d j]],.cells [.fn 125 [.ref (.g e 3) 0,.ref (.g e 1) 0,ob d j]]]
structure lU (d e j:Nat) (cO:ai) (cm b5:cd) (src:List Nat) (S:aq) (n:Nat) (A:cj) (ck:cd):Prop where
 fd:fi S d
 vk:fi S e
 ne:d≠e
 ex:S.cA e=aw0 e d j src n
 as:iy (S.cA d) d j A cO ck cm b5
 mp:iI (S.cA d) d cO A.env
 l:n≤src.length
 b:src.length<1000000000
structure xc (d e j:Nat) (S:aq) (ck:cd) (b4:aq) (dh:cd):Prop where
 ez:∃E F,b4=(S.bH e E).bH d F
 c5:abg (S.cA d) (b4.cA d) d j ck dh
variable{d e j:Nat}{cO:ai}{cm b5:cd}{src:List Nat}{S b4:aq}{n:Nat}{A:cj}{ck:cd}
theorem xc.aa{dh:cd}(h:xc d e j S ck b4 dh):b4.aa=S.aa:=by obtain⟨E,F,rfl⟩:=h.ez;rw[eS,eS]
theorem xc.aij{dh:cd}(h:xc d e j S ck b4 dh){x:Nat}(aT:fi S x):fi b4 x:=by obtain⟨E,F,rfl⟩:=h.ez;exact(aT.put _ _).put _ _
theorem xc.refl(fd:fi S d)(vk:fi S e)(ne:d≠e):xc d e j S ck S ck:=
 ⟨⟨S.cA e,S.cA d,by rw[ky vk,ky fd]⟩,.refl _ _ _ _⟩
theorem xc.trans{r:aq}{dh u:cd}(fd:fi S d)(vk:fi S e)(ne:d≠e)(h:xc d e j S ck b4 dh)(k:xc d e j b4 dh r u):xc d e j S ck r u:=by obtain⟨E,F,rfl⟩:=h.ez;obtain⟨y,dD,rfl⟩:=k.ez;refine⟨⟨y,dD,?_⟩,h.c5.trans k.c5⟩;rw[AU (fd.put _ _) (vk.put _ _) ne,gr,gr]
theorem lU.up{dh:cd}{r:Nat}{A':cj}{E F:List bd}(h:lU d e j cO cm b5 src S n A ck)(k:lU d e j cO cm b5 src ((S.bH e E).bH d F) r A' dh)(cg:abg (S.cA d) F d j ck dh):xc d e j S ck ((S.bH e E).bH d F) dh:=
 ⟨⟨E,F,rfl⟩,by rw[cv (h.fd.put _ _)];exact cg⟩
theorem lU.af(h:lU d e j cO cm b5 src S n A ck):lU d e j cO cm b5 src S.af n A ck:=
 ⟨h.fd.af,h.vk.af,h.ne,by rw[fp h.vk];exact h.ex,by rw[fp h.fd];exact h.as,by rw[fp h.fd];exact h.mp,h.l,h.b⟩
theorem xc.exit{r:aq}{dh:cd}{y:Nat}{A':cj}(h:lU d e j cO cm b5 src S n A ck)(u:xc d e j S.af ck r dh)(k:lU d e j cO cm b5 src r y A' dh):
  ∃b4,r=b4.af∧xc d e j S ck b4 dh∧lU d e j cO cm b5 src b4 y A' dh:=by
 obtain⟨E,F,rfl⟩:=u.ez;have bq:((S.bH e E).bH d F).cA d=F:=cv (h.fd.put _ _) F;have he:((S.bH e E).bH d F).cA e=E:=by rw[E8 (h.fd.put _ _) (h.vk.put _ _) h.ne,cv h.vk]
 have bU:(S.af.bH e E).bH d F=((S.bH e E).bH d F).af:=by rw[←h2 h.vk,←h2 (h.fd.put _ _)]
 have c5:=u.c5;rw[cv (h.fd.af.put _ _),fp h.fd] at c5;have ia:=k;rw[bU] at ia;refine⟨(S.bH e E).bH d F,bU,⟨⟨E,F,rfl⟩,by rw[bq];exact c5⟩,⟨(h.fd.put _ _).put _ _,(h.vk.put _ _).put _ _,h.ne,?_,?_,?_,k.l,h.b⟩⟩
 ·have:=ia.ex;rw[fp ((h.vk.put _ _).put _ _)] at this;exact this
 ·have:=ia.as;rw[fp ((h.fd.put _ _).put _ _)] at this;exact this
 ·have:=ia.mp;rw[fp ((h.fd.put _ _).put _ _)] at this;exact this
theorem lU.rd(h:lU d e j cO cm b5 src S n A ck):oJ S e 0 src n:=⟨h.vk,by rw[h.ex];rfl,h.l,h.b⟩
theorem lU.at(h:lU d e j cO cm b5 src S n A ck){m:Nat}(hm:m≤src.length):lU d e j cO cm b5 src (setAt S e 0 src m) m A ck∧xc d e j S ck (setAt S e 0 src m) ck:=by have bq:(setAt S e 0 src m).cA d=S.cA d:=E8 h.vk h.fd (Ne.symm h.ne) _;refine⟨⟨h.fd.put _ _,h.vk.put _ _,h.ne,by rw[cv h.vk,h.ex];rfl,by rw[bq];exact h.as,by rw[bq];exact h.mp,hm,h.b⟩,⟨(S.cA e).set 0 (aie src m),S.cA d,?_⟩,by rw[bq];exact .refl _ _ _ _⟩;rw[AU h.vk h.fd (Ne.symm h.ne),ky h.fd]
def cj.emit(A:cj)(op a b:Int):cj×Int:=({A with ins:=A.ins++[fR.mk op a b]},(A.ins.length:Int))
theorem lU.emit(h:lU d e j cO cm b5 src S n A ck)(r:A.ins.length<1000000000)(op a b:Int):
  ∃b4 dh,az au G X 76 [.ref (.g d j) 0,I op,I a,I b] S=.ok (I (A.emit op a b).2) b4∧lU d e j cO cm b5 src b4 n (A.emit op a b).1 dh∧xc d e j S ck b4 dh:=by
 obtain⟨dD,dh,aD,aG,bz,cz,u⟩:=ZD G X h.fd h.as r op a b;have bq:(S.bH d dD).cA d=dD:=cv h.fd dD;have he:(S.bH d dD).cA e=S.cA e:=E8 h.fd h.vk h.ne dD;refine⟨_,dh,aD,⟨h.fd.put _ _,h.vk.put _ _,h.ne,by rw[he,h.ex],by rw[bq];exact aG,?_,h.l,h.b⟩,⟨⟨S.cA e,dD,by rw[ky h.vk]⟩,by rw[bq];exact⟨bz,cz,u⟩⟩⟩;rw[bq];exact h.mp.bf bz ⟨_,h.as.c⟩ h.as.Bj
theorem lU.kS(h:lU d e j cO cm b5 src S n A ck)(k:a1):(aH au G X).aj S k none (.ref (.g e 1) 0)=k (.ref (.g e 0) 0) S:=gF h.vk (j:=1) (by rw[h.ex];rfl) rfl
theorem lU.l7(h:lU d e j cO cm b5 src S n A ck)(k:a1):(aH au G X).aj S k none (.ref (.g e 2) 0)=k (.fn 126 [.ref (.g e 1) 0,ob d j,.ref (.g e 4) 0]) S:=gF h.vk (j:=2) (by rw[h.ex];rfl) rfl
theorem lU.AV(h:lU d e j cO cm b5 src S n A ck)(k:a1):(aH au G X).aj S k none (.ref (.g e 3) 0)=k (.fn 121 [.ref (.g e 1) 0,.ref (.g e 2) 0,ob d j]) S:=gF h.vk (j:=3) (by rw[h.ex];rfl) rfl
theorem lU.aik(h:lU d e j cO cm b5 src S n A ck)(k:a1):(aH au G X).aj S k none (.ref (.g e 4) 0)=k (.fn 125 [.ref (.g e 3) 0,.ref (.g e 1) 0,ob d j]) S:=gF h.vk (j:=4) (by rw[h.ex];rfl) rfl
theorem Q2(S:aq)(k:a1)(d j:Nat):(aH au G X).aj S k none (ob d j)=k (.ref (.g d j) 0) S:=rfl
theorem lU.look(h:lU d e j cO cm b5 src S n A ck)(k:a1)(w:List Nat):(aH au G X).lD S k .str (.int .i64 0) false cO (.str w)=k (I ((jV A.env w).getD 0)) S:=by obtain⟨m,es,rfl,hm,he⟩:=h.mp;rw[CR h.fd hm w,he]
theorem lU.Q3(h:lU d e j cO cm b5 src S n A ck)(k:a1):(aH au G X).aj S k none (.ref (.g d j) (0+4))=k cO S:=gF h.fd h.as.c rfl
inductive g9 where
 |aa0 (n:Nat)
 |var (w:List Nat)
 |awf (a:g9)
 |mul (a b:g9)
 |add (a b:g9)
 |sub (a b:g9)
 |neg (a:g9)
def g9.run:g9→cj→cj×Int
 |.aa0 n,A=>A.emit 2 n 0
 |.var w,A=>(A,(jV A.env w).getD 0)
 |.awf a,A=>(a.run A).1.emit 5 (a.run A).2 (a.run A).2
 |.mul a b,A=>(b.run (a.run A).1).1.emit 5 (a.run A).2 (b.run (a.run A).1).2
 |.add a b,A=>(b.run (a.run A).1).1.emit 3 (a.run A).2 (b.run (a.run A).1).2
 |.sub a b,A=>(b.run (a.run A).1).1.emit 4 (a.run A).2 (b.run (a.run A).1).2
 |.neg a,A=>(a.run (A.emit 2 0 0).1).1.emit 4 (A.emit 2 0 0).2 (a.run (A.emit 2 0 0).1).2
def g9.size:g9→Nat
 |.aa0 _=>1
 |.var _=>0
 |.awf a=>a.size+1
 |.mul a b=>a.size+b.size+1
 |.add a b=>a.size+b.size+1
 |.sub a b=>a.size+b.size+1
 |.neg a=>a.size+2
theorem fv(A:cj)(op a b:Int):(A.emit op a b).1.ins.length=A.ins.length+1:=by simp [cj.emit]
theorem dU:∀(x:g9) (A:cj),(x.run A).1.ins.length=A.ins.length+x.size
 |.aa0 _,A=>by rw[g9.run,fv,g9.size]
 |.var _,A=>rfl
 |.awf a,A=>by rw[g9.run,fv,dU a,g9.size];omega
 |.mul a b,A=>by rw[g9.run,fv,dU b,dU a,g9.size];omega
 |.add a b,A=>by rw[g9.run,fv,dU b,dU a,g9.size];omega
 |.sub a b,A=>by rw[g9.run,fv,dU b,dU a,g9.size];omega
 |.neg a,A=>by rw[g9.run,fv,dU a,fv,g9.size];omega
def vl(e:g9):List Nat→Option (g9×List Nat)
 |[]=>some (e,[])
 |x::l=>if x=94 then(match l with |[]=>none|_::r=>some (.awf e,r)) else some (e,x::l)
mutual
def Fa:Nat→List Nat→Option (g9×List Nat)
 |0,_=>none
 |f+1,l=>match skip l with
  |[]=>none
  |x::r=>if x=40 then(match vm f r with
    |none=>none
    |some (e,hG)=>match skip hG with
     |[]=>none
     |y::oY=>if y=41 then vl e oY else none)
   else match jS (x::r) with
    |[]=>none
    |c::w=>if c≤57 then(if w=[] then vl (.aa0 (c-48)) (eJ (x::r)) else none) else vl (.var (c::w)) (eJ (x::r))
def wV:Nat→List Nat→Option (g9×List Nat)
 |0,_=>none
 |f+1,l=>match Fa f l with
  |none=>none
  |some (e,r)=>qt f e r
def qt:Nat→g9→List Nat→Option (g9×List Nat)
 |0,_,_=>none
 |f+1,e,l=>match skip l with
  |[]=>some (e,[])
  |x::r=>if x=0 then none else if x=43∨x=45∨x=41 then some (e,x::r) else(match Fa f (x::r) with
   |none=>none
   |some (y,hG)=>qt f (.mul e y) hG)
def vm:Nat→List Nat→Option (g9×List Nat)
 |0,_=>none
 |f+1,l=>match skip l with
  |[]=>none
  |x::r=>if x=45 then(match wV f r with
    |none=>none
    |some (e,hG)=>oc f (.neg e) hG)
   else(match wV f (x::r) with
    |none=>none
    |some (e,hG)=>oc f e hG)
def oc:Nat→g9→List Nat→Option (g9×List Nat)
 |0,_,_=>none
 |f+1,e,l=>match skip l with
  |[]=>some (e,[])
  |x::r=>if x=43 then(match wV f r with
    |none=>none
    |some (y,hG)=>oc f (.add e y) hG)
   else if x=45 then(match wV f r with
    |none=>none
    |some (y,hG)=>oc f (.sub e y) hG)
   else some (e,x::r)
end
theorem oK:∀(f:Nat) (e:g9) (l:List Nat) (hN:g9) (r:List Nat),qt f e l=some (hN,r)→e.size≤hN.size
 |0,e,l,hN,r,h=>by simp [qt] at h
 |f+1,e,l,hN,r,h=>by
  unfold qt at h;split at h
  ·injection h with h;injection h with aD aG;subst aD;exact aX _
  ·split at h
   ·cases h
   ·split at h
    ·injection h with h;injection h with aD aG;subst aD;exact aX _
    ·split at h
     ·cases h
     ·have:=oK f _ _ _ _ h;rw[g9.size] at this;omega
theorem kO:∀(f:Nat) (e:g9) (l:List Nat) (hN:g9) (r:List Nat),oc f e l=some (hN,r)→e.size≤hN.size
 |0,e,l,hN,r,h=>by simp [oc] at h
 |f+1,e,l,hN,r,h=>by
  unfold oc at h;split at h
  ·injection h with h;injection h with aD aG;subst aD;exact aX _
  ·split at h
   ·split at h
    ·cases h
    ·have:=kO f _ _ _ _ h;rw[g9.size] at this;omega
   ·split at h
    ·split at h
     ·cases h
     ·have:=kO f _ _ _ _ h;rw[g9.size] at this;omega
    ·injection h with h;injection h with aD aG;subst aD;exact aX _
theorem oL{e hN:g9}{l r:List Nat}(h:vl e l=some (hN,r)):e.size≤hN.size:=by
 unfold vl at h;split at h
 ·injection h with h;injection h with aD aG;subst aD;exact aX _
 ·split at h
  ·split at h
   ·cases h
   ·injection h with h;injection h with aD aG;subst aD;rw[g9.size];omega
  ·injection h with h;injection h with aD aG;subst aD;exact aX _
structure Out (d e j:Nat) (cO:ai) (cm b5:cd) (src:List Nat) (S:aq) (ck:cd) (b4:aq) (dh:cd) (r:List Nat) (A':cj):Prop where
 es:lU d e j cO cm b5 src b4 (posOf src r) A' dh
 up:xc d e j S ck b4 dh
 MX:src.drop (posOf src r)=r
def CS(d e j:Nat)(cO:ai)(cm b5:cd)(src:List Nat)(R:ao)(S:aq)(ck:cd)(r:List Nat)(q:cj×Int):Prop:=
 ∃h dh,R=(aH au G X).aB false [some (I q.2)] h∧Out d e j cO cm b5 src S ck h dh r q.1
variable{d e j:Nat}{cO:ai}{cm b5:cd}{src:List Nat}{S b4:aq}{n:Nat}{A:cj}{ck:cd}
theorem CS.via{y:aq}{B:cd}{R:ao}{r:List Nat}{q:cj×Int}(h:lU d e j cO cm b5 src S n A ck)(u:xc d e j S ck y B)(b:CS G X d e j cO cm b5 src R y B r q):CS G X d e j cO cm b5 src R S ck r q:=by obtain⟨H,g1,aD,o⟩:=b;exact⟨H,g1,aD,o.es,u.trans h.fd h.vk h.ne o.up,o.MX⟩
theorem CS.call{R:ao}{r:List Nat}{q:cj×Int}(h:lU d e j cO cm b5 src S n A ck)(b:CS G X d e j cO cm b5 src R S.af ck r q):∃b4 dh,R=.ok (I q.2) b4∧Out d e j cO cm b5 src S ck b4 dh r q.1:=by obtain⟨B,g1,aD,o⟩:=b;obtain⟨y,rfl,u,k⟩:=xc.exit h o.up o.es;exact⟨y,g1,by rw[aD];exact b1 _ _,k,u,o.MX⟩
theorem CS.of{R R':ao}{r:List Nat}{q:cj×Int}(bU:R=R')(b:CS G X d e j cO cm b5 src R' S ck r q):CS G X d e j cO cm b5 src R S ck r q:=bU ▸ b
def Q4(d e j:Nat)(cO:ai)(cm b5:cd)(src:List Nat)(fn:Nat)(ep:List ai)(p:List Nat→Option (g9×List Nat)):Prop:=
 ∀l ex r S n A ck,p l=some (ex,r)→src.drop n=l→lU d e j cO cm b5 src S n A ck→A.ins.length+ex.size<1000000000→
  ∃b4 dh,az au G X fn ep S=.ok (I (ex.run A).2) b4∧Out d e j cO cm b5 src S ck b4 dh r (ex.run A).1
abbrev ZE(d e j:Nat):List ai:=[.ref (.g e 1) 0,.ref (.g e 2) 0,ob d j]
abbrev ZF(d e j:Nat):List ai:=[.ref (.g e 3) 0,.ref (.g e 1) 0,ob d j]
abbrev ZG(d e j:Nat):List ai:=[.ref (.g e 1) 0,ob d j,.ref (.g e 4) 0]
theorem lU.wW(h:lU d e j cO cm b5 src S n A ck){l:List Nat}(bI:src.drop n=l):
  src.drop (posOf src (skip l))=skip l∧posOf src (skip l)≤src.length∧lU d e j cO cm b5 src (setAt S e 0 src (posOf src (skip l))) (posOf src (skip l)) A ck∧xc d e j S ck (setAt S e 0 src (posOf src (skip l))) ck∧
  ∀k:a1,(aH au G X).ar S k 122 [ai.ak S.aa (.ref (.g e 0) 0)]=k (.int .u8 (((skip l).headD 0:Nat):Int)) (setAt S e 0 src (posOf src (skip l))):=by
 obtain⟨m,xl,oh,r⟩:=rL src l n bI h.l;have hm:=gQ r oh
 have:=h.at oh;rw[hm] at this r oh;exact⟨r,oh,this.1,this.2,fun k=>dc (Mi G X h.rd bI) (by rw[eS])⟩
theorem lU.pass(h:lU d e j cO cm b5 src S n A ck){x:Nat}{l:List Nat}(bI:src.drop n=x::l):
  src.drop (n+1)=l∧lU d e j cO cm b5 src (setAt S e 0 src (n+1)) (n+1) A ck∧xc d e j S ck (setAt S e 0 src (n+1)) ck∧
  ∀k:a1,(aH au G X).aE S (fun r s=>(aH au G X).ag s (fun u s=>(aH au G X).aj s (fun y s=>(aH au G X).ah s (fun B s=>(aH au G X).aE s (fun H s=>(aH au G X).ag s (fun I s=>(aH au G X).a6 s k 1 I (ai.ak s.aa B)) 1 H) (.ref (.g e 0) 0)) (al .add y (.int .i64 1))) none u) 1 r) (.ref (.g e 0) 0)=k .dead (setAt S e 0 src (n+1)):=by
 obtain⟨aD,aG,bz⟩:=h3 bI;have J:=fun S k=>fJ G X S k n (by have:=h.b;omega)
 have:=h.at (m:=n+1) bz;exact⟨aG,this.1,this.2,fun k=>by rw[a3,aA,h.rd.kz,J,a3,aA,h.rd.n7]⟩
theorem lU.put(h:lU d e j cO cm b5 src S n A ck)(r:A.ins.length<1000000000)(op a b:Int):
  ∃b4 dh,lU d e j cO cm b5 src b4 n (A.emit op a b).1 dh∧xc d e j S ck b4 dh∧∀k:a1,(aH au G X).ar S k 76 [ai.ak S.aa (.ref (.g d j) 0),ai.ak S.aa (I op),ai.ak S.aa (I a),ai.ak S.aa (I b)]=k (I (A.emit op a b).2) b4:=by
 obtain⟨b4,dh,aD,aG,bz⟩:=h.emit G X r op a b;exact⟨b4,dh,aG,bz,fun k=>dc aD bz.aa⟩
theorem Q4.use{fn:Nat}{ep:List ai}{p:List Nat→Option (g9×List Nat)}(c:Q4 G X d e j cO cm b5 src fn ep p)(h:lU d e j cO cm b5 src S n A ck){l r:List Nat}{ex:g9}(aU:p l=some (ex,r))(bI:src.drop n=l)(u:A.ins.length+ex.size<1000000000):
  ∃b4 dh,lU d e j cO cm b5 src b4 (posOf src r) (ex.run A).1 dh∧xc d e j S ck b4 dh∧src.drop (posOf src r)=r∧∀k:a1,(aH au G X).iQ S k (.fn fn ep) []=k (I (ex.run A).2) b4:=by
 obtain⟨b4,dh,aD,o⟩:=c l ex r S n A ck aU bI h u;exact⟨b4,dh,o.es,o.up,o.MX,fun k=>by rw[Gg];exact dc aD o.up.aa⟩
theorem Q5{S b4:aq}{k:a1}{fn:Nat}{ep:List ai}{v:ai}(d j:Nat)(h:az au G X fn ep S=.ok v b4)(bI:b4.aa=S.aa):(aH au G X).oA S k [(none,ob d j)] (.fn fn ep) []=k v b4:=by
 show hC (gk G (az au G X) bO) S k (fun _ _=>.fail) [(none,ob d j)] fn ep=_;have bl:∀b4:aq,nX (dH S none (ob d j)) (dH b4 none (ob d j))=true:=fun b4=>mL.2 ⟨[.ref (.g d j) 0],rfl,rfl⟩
 unfold hC;simp only[List.all_cons,List.all_nil,bl,eD,cb];exact dc (k:=k) h bI
theorem Q4.awg{fn:Nat}{ep:List ai}{p:List Nat→Option (g9×List Nat)}(c:Q4 G X d e j cO cm b5 src fn ep p)(h:lU d e j cO cm b5 src S n A ck){l r:List Nat}{ex:g9}(aU:p l=some (ex,r))(bI:src.drop n=l)(u:A.ins.length+ex.size<1000000000):
  ∃b4 dh,lU d e j cO cm b5 src b4 (posOf src r) (ex.run A).1 dh∧xc d e j S ck b4 dh∧src.drop (posOf src r)=r∧∀k:a1,(aH au G X).oA S k [(none,ob d j)] (.fn fn ep) []=k (I (ex.run A).2) b4:=by
 obtain⟨b4,dh,aD,o⟩:=c l ex r S n A ck aU bI h u;exact⟨b4,dh,o.es,o.up,o.MX,fun k=>Q5 G X d j aD o.up.aa⟩
theorem qu(h:lU d e j cO cm b5 src S n A ck){l r:List Nat}{ex u:g9}{A0:cj}{x:Int}(aU:vl ex l=some (u,r))(bI:src.drop n=l)(aQ:ex.run A0=(A,x))(M:A0.ins.length+u.size<1000000000):
  CS G X d e j cO cm b5 src (p7 (aH au G X) (.ref (.g e 1) 0) (ob d j) (I x) S) S ck r (u.run A0):=by
 have br:=dU ex A0;rw[aQ] at br;dsimp only at br;have dY:=oL aU;have done:∀B,src.drop n=B→∃J dh,oF (aH au G X) (I x) S=(aH au G X).aB false [some (I x)] J∧Out d e j cO cm b5 src S ck J dh B A:=fun B K=>by have bX:=gQ K h.l;exact⟨S,ck,by rw[wC],by rw[←bX];exact h,.refl h.fd h.vk h.ne,by rw[←bX,K]⟩
 cases l with
 |nil=>
  have bX:=drop_nil bI h.l;have c:¬(n:Int)<(src.length:Int):=by omega
  rw[vl] at aU;injection aU with aU;injection aU with aD aG;subst aD;subst aG
  refine .of G X (R':=oF (aH au G X) (I x) S) ?_ (by rw[aQ];exact done [] bI);rw[qh,h.kS,a3,aA,h.rd.kz,h.kS,a3,aA,h.rd.q4,ei,be,aM c];simp -implicitDefEqProofs only[fh,df,bc]
 |cons y l=>
  obtain⟨aD,aG,bz⟩:=h3 bI;have c:(n:Int)<(src.length:Int):=by omega
  have L:=fun(k:a1)=>gq G X (s:=S) (k:=k) src .i64 n y aD
  by_cases dX:y=94
  ·simp only[vl.eq_def,if_pos dX] at aU;cases l with
   |nil=>cases aU
   |cons z l=>
    injection aU with aU;injection aU with bU H;subst bU;subst H
    obtain⟨g1,g2,N⟩:=h3 aG;have O:∀(S:aq) (k:a1),(aH au G X).ah S k (al .add (.int .i64 (n:Int)) (.int .i64 2))=k (.int .i64 ((n+2:Nat):Int)) S:=fun S k=>g8 (T:=au) (G:=G) (X:=X) (s:=S) (k:=k) n 2 (by have:=h.b;omega)
    obtain⟨gw,hj⟩:=h.at (m:=n+2) N;obtain⟨b4,dh,Q,R,U⟩:=gw.put G X (by rw[g9.size] at M;omega) 5 x x;have bX:=gQ (l:=l) g2 (by omega);rw[qh,h.kS,a3,aA,h.rd.kz,h.kS,a3,aA,h.rd.q4,ei,be,a7 c];simp only[dP];rw[h.kS,a3,aA,h.rd.q4,h.kS,a3,aA,h.rd.kz,L,bi,cR,a7 (by omega),ba];rw[h.kS,a3,aA,h.rd.kz,O,a3,aA,h.rd.n7,Q2,U,wC];refine⟨b4,dh,by rw[g9.run,aQ],?_,hj.trans h.fd h.vk h.ne R,by rw[←bX,g2]⟩;rw[g9.run,aQ,←bX];exact Q
  ·simp only[vl.eq_def,if_neg dX] at aU;injection aU with aU;injection aU with bU H;subst bU;subst H
   refine .of G X (R':=oF (aH au G X) (I x) S) ?_ (by rw[aQ];exact done _ bI);rw[qh,h.kS,a3,aA,h.rd.kz,h.kS,a3,aA,h.rd.q4,ei,be,a7 c];simp only[dP];rw[h.kS,a3,aA,h.rd.q4,h.kS,a3,aA,h.rd.kz,L,bi,cR,aM (by omega),bc]
end Go.h6
end
section
namespace Go.h6
open Go.Ab Go.hd
variable(G:Nat→ai)(X:Nat→List ai→aq→ao)
variable{d e j:Nat}{cO:ai}{cm b5:cd}{src:List Nat}{S b4:aq}{n:Nat}{A:cj}{ck:cd}
theorem Fb{l:List Nat}(bI:src.drop n=l)(bX:n≤src.length):src.drop (posOf src (eJ l))=eJ l∧posOf src (eJ l)≤src.length:=by
 obtain⟨m,xl,oh,e,h⟩:=pj l n bI bX
 have:=gQ e oh;rw[this] at e oh;exact⟨e,oh⟩
theorem ail{x:Nat}{l r:List Nat}:skip l=x::r→x≠32:=by
 induction l with
 |nil=>intro h;cases h
 |cons y l e=>
  intro h;unfold skip at h;by_cases bU:y=32
  ·rw[if_pos bU] at h;exact e h
  ·rw[if_neg bU] at h;injection h with aD aG;rw[←aD];exact bU
theorem AX(l:List Nat):skip (skip l)=skip l:=by
 cases h:skip l with
 |nil=>rfl
 |cons x r=>rw[skip,if_neg (ail h)]
theorem lU.word(h:lU d e j cO cm b5 src S n A ck){l:List Nat}(bI:src.drop n=l)(br:skip l=l):
  src.drop (posOf src (eJ l))=eJ l∧lU d e j cO cm b5 src (setAt S e 0 src (posOf src (eJ l))) (posOf src (eJ l)) A ck∧xc d e j S ck (setAt S e 0 src (posOf src (eJ l))) ck∧
  ∀k:a1,(aH au G X).ar S k 123 [ai.ak S.aa (.ref (.g e 0) 0)]=k (.str (jS l)) (setAt S e 0 src (posOf src (eJ l))):=by
 obtain⟨r,oh⟩:=Fb bI h.l
 have:=h.at oh;have w:=aif G X h.rd bI;rw[br] at w;exact⟨r,this.1,this.2,fun k=>dc w (by rw[eS])⟩
theorem uD{l:List Nat}{c:Nat}{w:List Nat}(h:jS l=c::w):48≤c:=by
 cases l with
 |nil=>cases h
 |cons x l=>
  rw[jS] at h;by_cases bU:vj x=true
  ·rw[if_pos bU] at h;injection h with aD aG
   subst aD;unfold vj at bU;simp only[Bool.or_eq_true,bL,Nat.ble_eq] at bU;omega
  ·rw[if_neg bU] at h;cases h
theorem Q6(f:Nat)(bl:Q4 G X d e j cO cm b5 src 126 (ZG d e j) (vm f)):Q4 G X d e j cO cm b5 src 121 (ZE d e j) (Fa (f+1)):=by
 intro l ex r S n A ck aU bI h K;rw[Qg,ag7];refine CS.call G X h (q:=ex.run A) ?_;have cL:=h.af;obtain⟨d1,Y,aD,B,H⟩:=cL.wW G X bI;unfold Fa at aU;cases cg:skip l with
 |nil=>rw[cg] at aU;cases aU
 |cons x I=>
  rw[cg] at aU d1 aD B H Y;simp only at aU;by_cases aT:x=40
  ·rw[if_pos aT] at aU;cases dQ:vm f I with
   |none=>rw[dQ] at aU;cases aU
   |some Z=>
    obtain⟨ak,hG⟩:=Z;rw[dQ] at aU;simp only at aU;cases L:skip hG with
    |nil=>rw[L] at aU;cases aU
    |cons y oY=>
     rw[L] at aU;simp only at aU;have aa:y=41:=by
      by_cases O:y=41
      ·exact O
      ·rw[if_neg O] at aU;cases aU
     rw[if_pos aa] at aU;have dY:=oL aU;obtain⟨d2,aG,J,u⟩:=aD.pass G X d1;obtain⟨ab,ac,bz,M,d3,N⟩:=bl.use G X aG dQ d2 (by omega);obtain⟨d4,ad,cz,Q,R⟩:=bz.wW G X d3;rw[L] at d4 ad cz Q R;obtain⟨d5,ae,ag,ah⟩:=cz.pass G X d4;refine CS.via G X cL B (.via G X aD J (.via G X aG M (.via G X bz Q (.via G X cz ag (.of G X ?_ (qu G X ae aU d5 rfl K))))));rw[cL.kS];refine(H _).trans ?_;rw[bi,a7 (by simp [aT]),ba,aD.kS];refine(u _).trans ?_;rw[aG.l7];refine(N _).trans ?_;rw[bz.kS];refine(R _).trans ?_;rw[cz.kS];exact ah _
  ·rw[if_neg aT] at aU;have ai:skip (x::I)=x::I:=by rw[←cg,AX]
   obtain⟨d2,aG,J,u⟩:=aD.word G X d1 ai;cases hw:jS (x::I) with
   |nil=>rw[hw] at aU;cases aU
   |cons c w=>
    rw[hw] at aU u;simp only at aU;have a9:=uD hw;have U:∀(S:aq) (k:a1),(aH au G X).db S k (.str (c::w)) (.int .i64 0)=k (.int .u8 (c:Int)) S:=fun S k=>gq G X (s:=S) (k:=k) (c::w) .i64 0 c rfl
    by_cases V:c≤57
    ·rw[if_pos V] at aU;by_cases bX:w=[]
     ·rw[if_pos bX] at aU;subst bX;have dY:=oL aU;rw[g9.size] at dY;obtain⟨ab,ac,bz,M,N⟩:=aG.put G X (by omega) 2 ((c-48:Nat):Int) 0;have aj:=fun(S:aq) (k:a1)=>aK (T:=au) (G:=G) (X:=X) (s:=S) (k:=k) (aii G X S (c-48) c (by omega) (by omega))
      refine CS.via G X cL B (.via G X aD J (.via G X aG M (.of G X ?_ (qu G X bz aU d2 rfl K))));rw[cL.kS];refine(H _).trans ?_;rw[bi,aM (by simp;omega),bc,aD.kS];refine(u _).trans ?_;rw[U,n5,a7 (by omega),ba];refine(aj _ _).trans ?_;rw[hv,hx,Q2];exact N _
     ·rw[if_neg bX] at aU;cases aU
    ·rw[if_neg V] at aU;have dY:=oL aU;refine CS.via G X cL B (.via G X aD J (.of G X ?_ (qu G X aG aU d2 rfl K)));rw[cL.kS];refine(H _).trans ?_;rw[bi,aM (by simp;omega),bc,aD.kS];refine(u _).trans ?_;rw[U,n5,aM (by omega),bc,Q2,a3,aA,aG.Q3];exact aG.look G X _ _
end Go.h6
end
section
namespace Go.h6
open Go.Ab Go.hd
variable(G:Nat→ai)(X:Nat→List ai→aq→ao)
section
variable{d e j:Nat}{cO:ai}{cm b5:cd}{src:List Nat}{S b4:aq}{n:Nat}{A:cj}{ck:cd}
def LT(d e j:Nat)(cO:ai)(cm b5:cd)(src:List Nat)(p:g9→List Nat→Option (g9×List Nat)):Prop:=
 ∀ex l h r A0 A x S n ck,p ex l=some (h,r)→src.drop n=skip l→ex.run A0=(A,x)→lU d e j cO cm b5 src S n A ck→A0.ins.length+h.size<1000000000→
  CS G X d e j cO cm b5 src (p9 (aH au G X) (.ref (.g e 3) 0) (.ref (.g e 1) 0) (ob d j) (I x) (.int .u8 (((skip l).headD 0:Nat):Int)) S) S ck r (h.run A0)
def awt(d e j:Nat)(cO:ai)(cm b5:cd)(src:List Nat)(p:g9→List Nat→Option (g9×List Nat)):Prop:=
 ∀ex l h r A0 A x S n ck,p ex l=some (h,r)→src.drop n=skip l→ex.run A0=(A,x)→lU d e j cO cm b5 src S n A ck→A0.ins.length+h.size<1000000000→
  CS G X d e j cO cm b5 src (oG (aH au G X) (.ref (.g e 1) 0) (ob d j) (.ref (.g e 4) 0) (I x) (.int .u8 (((skip l).headD 0:Nat):Int)) S) S ck r (h.run A0)
theorem aim(S:aq)(gH v1 v2:ai)(x:Int)(c:Nat):p9 (aH au G X) gH v1 v2 (I x) (.int .u8 (c:Int)) S=if c=0∨c=43∨c=45∨c=41 then zF (aH au G X) (I x) S else zE (aH au G X) gH v1 v2 (I x) S:=by
 have e:=fun(S:aq) (k:a1)=>dC (T:=au) (G:=G) (X:=X) (s:=S) (k:=k) .u8 (c:Int) 0
 have h:=fun(S:aq) (k:a1)=>dC (T:=au) (G:=G) (X:=X) (s:=S) (k:=k) .u8 (c:Int) 43
 have r:=fun(S:aq) (k:a1)=>dC (T:=au) (G:=G) (X:=X) (s:=S) (k:=k) .u8 (c:Int) 45
 have u:=fun(S:aq) (k:a1)=>dC (T:=au) (G:=G) (X:=X) (s:=S) (k:=k) .u8 (c:Int) 41
 have kR:(c=0∨c=43∨c=45∨c=41)↔(!(decide (¬(c:Int)=0)&&decide (¬(c:Int)=43)&&decide (¬(c:Int)=45)&&decide (¬(c:Int)=41)))=true:=by simp only[Bool.not_eq_true',Bool.and_eq_false_iff,decide_eq_false_iff_not];omega
 rw[K1];simp only[kR];generalize decide (¬(c:Int)=0)=ml at *;generalize decide (¬(c:Int)=43)=y at *;generalize decide (¬(c:Int)=45)=B at *;generalize decide (¬(c:Int)=41)=H at *;cases ml<;> cases y<;> cases B<;> cases H<;> simp -implicitDefEqProofs only[e,h,r,u,dP,fh,cR,df,ba,bc,Bool.and_true,Bool.and_false,eV,eC,if_true,if_false,co]
theorem ain(S:aq)(gH v1 v2:ai)(x:Int)(c:Nat):oG (aH au G X) gH v1 v2 (I x) (.int .u8 (c:Int)) S=if c=43∨c=45 then tK (aH au G X) gH v1 v2 (I x) (.int .u8 (c:Int)) S else zG (aH au G X) (I x) S:=by
 have e:=fun(S:aq) (k:a1)=>bi (T:=au) (G:=G) (X:=X) (s:=S) (k:=k) .u8 (c:Int) 43
 have h:=fun(S:aq) (k:a1)=>bi (T:=au) (G:=G) (X:=X) (s:=S) (k:=k) .u8 (c:Int) 45
 have kR:(c=43∨c=45)↔(decide ((c:Int)=43)||decide ((c:Int)=45))=true:=by simp only[Bool.or_eq_true,decide_eq_true_iff];omega
 rw[K5];simp only[kR];generalize decide ((c:Int)=43)=ml at *;generalize decide ((c:Int)=45)=r at *;cases ml<;> cases r<;> simp -implicitDefEqProofs only[e,h,ej,de,cR,df,ba,bc,Bool.or_true,Bool.or_false,if_true,if_false,co]
theorem CS.stop{l:List Nat}{x:Int}{A0:cj}{ex:g9}(h:lU d e j cO cm b5 src S n A ck)(bI:src.drop n=l)(aQ:ex.run A0=(A,x)):CS G X d e j cO cm b5 src ((aH au G X).aB false [some (I x)] S) S ck l (ex.run A0):=by have bX:=gQ bI h.l;rw[aQ];exact⟨S,ck,rfl,by rw[←bX];exact h,.refl h.fd h.vk h.ne,by rw[←bX,bI]⟩
theorem auL(f:Nat)(bq:Q4 G X d e j cO cm b5 src 121 (ZE d e j) (Fa f))(cB:LT G X d e j cO cm b5 src (qt f)):LT G X d e j cO cm b5 src (qt (f+1)):=by
 intro ex l B r A0 A x S n ck aU bI aQ h H;unfold qt at aU;rw[aim];cases cg:skip l with
 |nil=>
  rw[cg] at aU bI;injection aU with aU;injection aU with aD aG;subst aD;subst aG
  simp only[List.headD_nil];rw[if_pos (Or.inl trivial),wE];exact .stop G X h bI aQ
 |cons y I=>
  rw[cg] at aU bI;simp only at aU;simp -implicitDefEqProofs only[List.headD_cons];have J:y≠0:=fun e=>by rw[if_pos e] at aU;cases aU
  rw[if_neg J] at aU;by_cases dX:y=43∨y=45∨y=41
  ·rw[if_pos dX] at aU;rw[if_pos (Or.inr dX)];injection aU with aU;injection aU with aD aG;subst aD;subst aG
   rw[wE];exact .stop G X h bI aQ
  ·rw[if_neg dX] at aU;rw[if_neg (by omega)];cases dQ:Fa f (y::I) with
   |none=>rw[dQ] at aU;cases aU
   |some K=>obtain⟨u,hG⟩:=K;rw[dQ] at aU;simp only at aU;have dY:=oK _ _ _ _ _ aU;have br:=dU ex A0;rw[aQ] at br;dsimp only at br;rw[g9.size] at dY;have U:=dU u A;obtain⟨V,g1,aD,L,d1,M⟩:=bq.use G X h dQ bI (by omega);obtain⟨Y,g2,aG,N,O⟩:=aD.put G X (by omega) 5 x (u.run A).2;obtain⟨d3,Z,bz,Q,R⟩:=aG.wW G X d1;refine .via G X h L (.via G X aD N (.via G X aG Q (.of G X ?_ (cB (.mul ex u) hG B r A0 _ _ _ _ _ aU d3 (by rw[g9.run,aQ]) bz H))));rw[K0,h.AV];refine(M _).trans ?_;rw[Q2];refine(O _).trans ?_;rw[KZ,aG.kS];exact R _
theorem aio(f:Nat)(bq:Q4 G X d e j cO cm b5 src 121 (ZE d e j) (Fa f))(cB:LT G X d e j cO cm b5 src (qt f)):Q4 G X d e j cO cm b5 src 125 (ZF d e j) (wV (f+1)):=by
 intro l ex r S n A ck aU bI h u;rw[Qj,aha];refine CS.call G X h (q:=ex.run A) ?_;have cL:=h.af;unfold wV at aU;cases dQ:Fa f l with
 |none=>rw[dQ] at aU;cases aU
 |some y=>obtain⟨B,hG⟩:=y;rw[dQ] at aU;simp only at aU;have dY:=oK _ _ _ _ _ aU;obtain⟨L,g1,aD,H,d1,I⟩:=bq.use G X cL dQ bI (by omega);obtain⟨d3,M,bz,J,K⟩:=aD.wW G X d1;refine .via G X cL H (.via G X aD J (.of G X ?_ (cB B hG ex r A _ _ _ _ _ aU d3 rfl bz u)));rw[cL.AV];refine(I _).trans ?_;rw[aD.kS];exact K _
theorem auM(f:Nat)(bq:Q4 G X d e j cO cm b5 src 125 (ZF d e j) (wV f))(cB:awt G X d e j cO cm b5 src (oc f)):awt G X d e j cO cm b5 src (oc (f+1)):=by
 intro ex l J r A0 A x S n ck aU bI aQ h L;unfold oc at aU;rw[ain];have br:=dU ex A0;rw[aQ] at br;dsimp only at br;cases cg:skip l with
 |nil=>
  rw[cg] at aU bI;injection aU with aU;injection aU with aD aG;subst aD;subst aG
  simp -implicitDefEqProofs only[List.headD_nil];rw[if_neg (by omega),wF];exact .stop G X h bI aQ
 |cons y K=>
  rw[cg] at aU bI;simp only at aU;simp -implicitDefEqProofs only[List.headD_cons];have body:∀(op:Int) (mk:g9→g9→g9) (u:g9×List Nat),(∀a b A,(mk a b).run A=(b.run (a.run A).1).1.emit op (a.run A).2 (b.run (a.run A).1).2)→(∀a b,(mk a b).size=a.size+b.size+1)→
    wV f K=some u→oc f (mk ex u.1) u.2=some (J,r)→y=43∧op=3∨y=45∧op=4→
    CS G X d e j cO cm b5 src (tK (aH au G X) (.ref (.g e 1) 0) (ob d j) (.ref (.g e 4) 0) (I x) (.int .u8 (y:Int)) S) S ck r (J.run A0):=by
   intro op mk ⟨B,hG⟩ M N dQ aU dX;have dY:=kO _ _ _ _ _ aU;rw[N] at dY
   dsimp only at dY aU
   have ad:=dU B A;obtain⟨d1,aD,O,Q⟩:=h.pass G X bI;obtain⟨R,g2,aG,U,d2,V⟩:=bq.use G X aD dQ d1 (by omega);obtain⟨Y,ae,bz,Z,aa⟩:=aG.put G X (by omega) op x (B.run A).2;obtain⟨d4,af,cz,ab,ac⟩:=bz.wW G X d2;refine .via G X h O (.via G X aD U (.via G X aG Z (.via G X bz ab (.of G X ?_ (cB (mk ex B) hG J r A0 _ _ _ _ _ aU d4 (by rw[M,aQ]) cz L)))));have tail:tJ (aH au G X) (.ref (.g e 1) 0) (ob d j) (.ref (.g e 4) 0) (I x) (I (B.run A).2) (I op) R=oG (aH au G X) (.ref (.g e 1) 0) (ob d j) (.ref (.g e 4) 0) (I ((B.run A).1.emit op x (B.run A).2).2) (.int .u8 (((skip hG).headD 0:Nat):Int)) (setAt Y e 0 src (posOf src (skip hG))):=by rw[K3,Q2];refine(aa _).trans ?_;rw[K2,bz.kS];exact ac _
   rw[K4,h.kS];refine(Q _).trans ?_;rw[aD.aik];refine(V _).trans ?_;rw[bi];rcases dX with⟨rfl,rfl⟩|⟨rfl,rfl⟩
   ·rw[aM (by decide),bc];exact tail
   ·rw[a7 (by decide),ba];exact tail
  by_cases dX:y=43
  ·rw[if_pos dX] at aU;rw[if_pos (Or.inl dX)];cases dQ:wV f K with
   |none=>rw[dQ] at aU;cases aU
   |some u=>rw[dQ] at aU;exact body 3 .add u (fun _ _ _=>rfl) (fun _ _=>rfl) dQ aU (.inl ⟨dX,rfl⟩)
  ·rw[if_neg dX] at aU;by_cases H:y=45
   ·rw[if_pos H] at aU;rw[if_pos (Or.inr H)];cases dQ:wV f K with
    |none=>rw[dQ] at aU;cases aU
    |some u=>rw[dQ] at aU;exact body 4 .sub u (fun _ _ _=>rfl) (fun _ _=>rfl) dQ aU (.inr ⟨H,rfl⟩)
   ·rw[if_neg H] at aU;rw[if_neg (by omega)];injection aU with aU;injection aU with aD aG;subst aD;subst aG
    rw[wF];exact .stop G X h bI aQ
theorem apS(f:Nat)(bq:Q4 G X d e j cO cm b5 src 125 (ZF d e j) (wV f))(cB:awt G X d e j cO cm b5 src (oc f)):Q4 G X d e j cO cm b5 src 126 (ZG d e j) (vm (f+1)):=by
 intro l ex r S n A ck aU bI h Q;rw[Qk,ahb];refine CS.call G X h (q:=ex.run A) ?_;have cL:=h.af;obtain⟨d1,U,aD,H,B⟩:=cL.wW G X bI;unfold vm at aU;cases cg:skip l with
 |nil=>rw[cg] at aU;cases aU
 |cons y R=>
  rw[cg] at aU d1 U aD H B;simp only at aU;simp only[List.headD_cons] at B;by_cases dX:y=45
  ·rw[if_pos dX] at aU;cases dQ:wV f R with
   |none=>rw[dQ] at aU;cases aU
   |some I=>obtain⟨u,hG⟩:=I;rw[dQ] at aU;simp only at aU;have dY:=kO _ _ _ _ _ aU;rw[g9.size] at dY;obtain⟨d2,aG,V,Y⟩:=aD.pass G X d1;obtain⟨ah,ai,bz,Z,aa⟩:=aG.put G X (by omega) 2 0 0;have aj:=fv A 2 0 0;obtain⟨ab,ac,cz,J,d4,K⟩:=bq.awg G X bz dQ d2 (by omega);have ak:=dU u (A.emit 2 0 0).1;obtain⟨al,am,L,ad,ae⟩:=cz.put G X (by omega) 4 (A.emit 2 0 0).2 (u.run (A.emit 2 0 0).1).2;obtain⟨d6,ag,M,N,O⟩:=L.wW G X d4;refine .via G X cL H (.via G X aD V (.via G X aG Z (.via G X bz J (.via G X cz ad (.via G X L N (.of G X ?_ (cB (.neg u) hG ex r A _ _ _ _ _ aU d6 rfl M Q)))))));rw[cL.kS];refine(B _).trans ?_;rw[bi,a7 (by omega),ba,aD.kS];refine(Y _).trans ?_;rw[Q2];refine(aa _).trans ?_;rw[Q2,bz.aik];refine(K _).trans ?_;refine(ae _).trans ?_;rw[wG,L.kS];exact O _
  ·rw[if_neg dX] at aU;cases dQ:wV f (y::R) with
   |none=>rw[dQ] at aU;cases aU
   |some I=>obtain⟨u,hG⟩:=I;rw[dQ] at aU;simp only at aU;have dY:=kO _ _ _ _ _ aU;obtain⟨ab,ac,cz,J,d4,K⟩:=bq.use G X aD dQ d1 (by omega);obtain⟨d6,ag,M,N,O⟩:=cz.wW G X d4;refine .via G X cL H (.via G X aD J (.via G X cz N (.of G X ?_ (cB u hG ex r A _ _ _ _ _ aU d6 rfl M Q))));rw[cL.kS];refine(B _).trans ?_;rw[bi,aM (by omega),bc,aD.aik];refine(K _).trans ?_;rw[wG,cz.kS];exact O _
theorem ZH:∀f:Nat,Q4 G X d e j cO cm b5 src 121 (ZE d e j) (Fa f)∧Q4 G X d e j cO cm b5 src 125 (ZF d e j) (wV f)∧Q4 G X d e j cO cm b5 src 126 (ZG d e j) (vm f)∧LT G X d e j cO cm b5 src (qt f)∧awt G X d e j cO cm b5 src (oc f)
 |0=>⟨fun l ex r S n A ck aU=>by simp [Fa] at aU,fun l ex r S n A ck aU=>by simp [wV] at aU,fun l ex r S n A ck aU=>by simp [vm] at aU,fun ex l u r A0 A x S n ck aU=>by simp [qt] at aU,fun ex l u r A0 A x S n ck aU=>by simp [oc] at aU⟩
 |f+1=>by obtain⟨aD,aG,bz,cz,h⟩:=ZH f;exact⟨Q6 G X f bz,aio G X f aD cz,apS G X f aG h,auL G X f aD cz,auM G X f aG h⟩
end
structure mI (d j:Nat) (cO:ai) (cm b5:cd) (S:aq) (A:cj) (ck:cd):Prop where
 fd:fi S d
 as:iy (S.cA d) d j A cO ck cm b5
 mp:iI (S.cA d) d cO A.env
structure auN (d j:Nat) (S:aq) (ck:cd) (b4:aq) (dh:cd):Prop where
 ez:∃F,b4=S.bH d F
 c5:abg (S.cA d) (b4.cA d) d j ck dh
section
variable{d j:Nat}{cO:ai}{cm b5:cd}{S b4:aq}{A:cj}{ck:cd}
theorem vn{S:aq}{d:Nat}(cQ:d≠S.aa)(E F:List bd):({S with own:=E}:aq).bH d F= {S.bH d F with own:=E}:=by unfold aq.bH;rw[if_neg cQ,if_neg (show¬d=({S with own:=E}:aq).aa from cQ)];rfl
theorem AY{S:aq}{d:Nat}(cQ:d≠S.aa)(E:List bd):({S with own:=E}:aq).cA d=S.cA d:=by unfold aq.cA;rw[if_neg cQ,if_neg (show¬d=({S with own:=E}:aq).aa from cQ)];rfl
theorem apT(h:mI d j cO cm b5 S A ck){src:List Nat}{f:Nat}{ex:g9}{r:List Nat}(aU:vm f src=some (ex,r))(L:A.ins.length+ex.size<1000000000)(br:src.length<1000000000):
  ∃b4 dh,az au G X 77 [.ref (.g d j) 0,.str src] S=.ok (I (ex.run A).2) b4∧mI d j cO cm b5 b4 (ex.run A).1 dh∧auN d j S ck b4 dh:=by
 have cQ:d≠S.af.aa:=by have:=h.fd.bk;have:=f6 S;omega
 have M:d≤S.af.aa:=by have:=h.fd.bk;have:=f6 S;omega
 generalize he:S.af.aa=e at *
 let u:aq:={S.af with own:=aw0 e d j src 0}
 have y:u.aa=e:=he;have B:u.cA d=S.cA d:=by rw[show u= {S.af with own:=aw0 e d j src 0} from rfl,AY (by rw[he];exact cQ),fp h.fd]
 have H:fi u d:=⟨h.fd.eQ,by rw[y];exact M⟩;have N:fi u e:=⟨by have:=u.lG;have aG:u.ro=S.ro:=rfl;rw[y] at this;omega,by rw[y];exact aX _⟩;have es:lU d e j cO cm b5 src u 0 A ck:=⟨H,N,cQ,by have:=gY u;rw[y] at this;exact this,by rw[B];exact h.as,by rw[B];exact h.mp,Nat.zero_le _,br⟩;obtain⟨R,g1,aD,J,d1,O⟩:=(ZH G X f).2.2.1.use G X es aU rfl L;obtain⟨E,F,rfl⟩:=J.ez;have c5:=J.c5;rw[cv (H.put _ _),B] at c5;have Q:(u.bH e E).bH d F= {(S.bH d F).af with own:=E}:=by
  rw[h2 h.fd]
  have:u.bH e E= {S.af with own:=E}:=by unfold aq.bH;rw[if_pos y.symm]
  rw[this,vn (by rw[he];exact cQ)]
 have has:=aD.as;have K:=aD.mp;rw[cv (H.put _ _)] at has K;refine⟨S.bH d F,g1,?_,⟨h.fd.put _ _,by rw[cv h.fd];exact has,by rw[cv h.fd];exact K⟩,⟨F,rfl⟩,by rw[cv h.fd];exact c5⟩;rw[aaC];have pre:f77 (aH au G X) (.ref (.g d j) 0) (.str src) S.af=(aH au G X).iQ u (fun v s=>(aH au G X).aB false [some v] s) (.fn 126 (ZG d e j)) []:=by rw[apx];subst he;rfl
 rw[pre];refine(O _).trans ?_;rw[Q];rfl
end
structure aqS (F dD:List bd) (d j:Nat) (cO:ai) (ck dh b5 iz:cd):Prop where
 bf:∀i o,F[i]? =some o→i≠j→ck≠.bQ (.g d i)→b5≠.bQ (.g d i)→cO≠.map (.g d i)→dD[i]? =some o
 aip:∀i,i<F.length→dh=.bQ (.g d i)→ck=.bQ (.g d i)
 aiq:∀i,i<F.length→iz=.bQ (.g d i)→b5=.bQ (.g d i)
 len:F.length≤dD.length
theorem aqS.refl(F:List bd)(d j:Nat)(cO:ai)(ck b5:cd):aqS F F d j cO ck ck b5 b5:=⟨fun _ _ h _ _ _ _=>h,fun _ _ h=>h,fun _ _ h=>h,aX _⟩
theorem abg.Ck{F dD:List bd}{d j:Nat}{g g':cd}(h:abg F dD d j g g')(cO:ai)(b5:cd):aqS F dD d j cO g g' b5 b5:=⟨fun i o e r bD _ _=>h.bf i o e r bD,h.mv,fun _ _ h=>h,h.len⟩
theorem aqS.trans{F u y:List bd}{d j:Nat}{cO:ai}{ck B H b5 I J:cd}(h:aqS F u d j cO ck B b5 I)(k:aqS u y d j cO B H I J):aqS F y d j cO ck H b5 J:=
 ⟨fun i o r K bD aQ hm=>k.bf i o (h.bf i o r K bD aQ hm) K (fun e=>bD (h.aip i (bZ.1 r).1 e)) (fun e=>aQ (h.aiq i (bZ.1 r).1 e)) hm,
  fun i bk e=>h.aip i bk (k.aip i (gm bk h.len) e),fun i bk e=>h.aiq i bk (k.aiq i (gm bk h.len) e),Nat.le_trans h.len k.len⟩
structure mJ (d j:Nat) (cO:ai) (S:aq) (ck b5:cd) (b4:aq) (dh iz:cd):Prop where
 ez:∃F,b4=S.bH d F
 Ck:aqS (S.cA d) (b4.cA d) d j cO ck dh b5 iz
section
variable{d j:Nat}{cO:ai}{cm b5:cd}{S b4:aq}{A:cj}{ck:cd}
theorem mJ.refl(fd:fi S d):mJ d j cO S ck b5 S ck b5:=⟨⟨S.cA d,by rw[ky fd]⟩,.refl _ _ _ _ _ _⟩
theorem mJ.trans{e:aq}{dh r iz u:cd}(h:mJ d j cO S ck b5 b4 dh iz)(k:mJ d j cO b4 dh iz e r u):mJ d j cO S ck b5 e r u:=by obtain⟨F,rfl⟩:=h.ez;obtain⟨dD,rfl⟩:=k.ez;exact⟨⟨dD,by rw[gr]⟩,h.Ck.trans k.Ck⟩
theorem mJ.aa{dh iz:cd}(h:mJ d j cO S ck b5 b4 dh iz):b4.aa=S.aa:=by obtain⟨F,rfl⟩:=h.ez;rw[eS]
theorem auN.c{dh:cd}(h:auN d j S ck b4 dh)(cO:ai)(b5:cd):mJ d j cO S ck b5 b4 dh b5:=⟨h.ez,h.c5.Ck _ _⟩
theorem mI.same(h:mI d j cO cm b5 S A ck)(b4:aq):nX (dH S none (mj (.ref (.g d j) 0) 4)) (dH S none (mj (.ref (.g d j) 0) 4))=true:=by
 refine mL.2 ⟨[cO],?_,?_⟩ <;>
 ·unfold dH cellsOf mj;simp only[ld h.fd,h.as.c];rfl
theorem mI.cells(h:mI d j cO cm b5 S A ck):dH S none (mj (.ref (.g d j) 0) 4)=some [cO]:=by unfold dH cellsOf mj;simp only[ld h.fd,h.as.c];rfl
theorem vo{S b4:aq}{k:a1}{fn:Nat}{args:List ai}{v:ai}{x:ai}(h:az au G X fn args S=.ok v b4)(bI:b4.aa=S.aa)(bl:nX (dH S none x) (dH b4 none x)=true):(aH au G X).ki S k [(none,x)] fn args=k v b4:=by
 show cV (gk G (az au G X) bO) S (fun v s'=>bif nX (dH S none x) (dH s' none x)&&true then k v s' else .fail) (fun _ _=>.fail) fn args=_;unfold cV;show(match az au G X fn args S with
  |.ok v s'=>bif Nat.beq s'.aa S.aa then(bif nX (dH S none x) (dH s' none x)&&true then k v s' else .fail) else .fail
  |.panic v s'=>_
  |.fail=>.fail)=_
 rw[h];simp only[bI,fE,cb,bl,eD]
theorem mI.emit(h:mI d j cO cm b5 S A ck)(r:A.ins.length<1000000000)(op a b:Int):
  ∃b4 dh,mI d j cO cm b5 b4 (A.emit op a b).1 dh∧mJ d j cO S ck b5 b4 dh b5∧∀k:a1,(aH au G X).ki S k [(none,mj (.ref (.g d j) 0) 4)] 76 [ai.ak S.aa (.ref (.g d j) 0),ai.ak S.aa (I op),ai.ak S.aa (I a),ai.ak S.aa (I b)]=k (I (A.emit op a b).2) b4:=by
 obtain⟨dD,dh,aD,aG,bz,cz,u⟩:=ZD G X h.fd h.as r op a b;have bq:(S.bH d dD).cA d=dD:=cv h.fd dD;have e:mI d j cO cm b5 (S.bH d dD) (A.emit op a b).1 dh:=⟨h.fd.put _ _,by rw[bq];exact aG,by rw[bq];exact h.mp.bf bz ⟨_,h.as.c⟩ h.as.Bj⟩;refine⟨_,dh,e,⟨⟨dD,rfl⟩,by rw[bq];exact abg.Ck ⟨bz,cz,u⟩ _ _⟩,fun k=>vo G X aD (eS _ _ _) ?_⟩;rw[h.cells,e.cells];exact mL.2 ⟨_,rfl,rfl⟩
theorem mI.expr(h:mI d j cO cm b5 S A ck){src:List Nat}{f:Nat}{ex:g9}{r:List Nat}(aU:vm f src=some (ex,r))(e:A.ins.length+ex.size<1000000000)(br:src.length<1000000000):
  ∃b4 dh,mI d j cO cm b5 b4 (ex.run A).1 dh∧mJ d j cO S ck b5 b4 dh b5∧(∀k:a1,(aH au G X).ki S k [(none,mj (.ref (.g d j) 0) 4)] 77 [ai.ak S.aa (.ref (.g d j) 0),ai.ak S.aa (.str src)]=k (I (ex.run A).2) b4)∧
   ∀k:a1,(aH au G X).ar S k 77 [ai.ak S.aa (.ref (.g d j) 0),ai.ak S.aa (.str src)]=k (I (ex.run A).2) b4:=by
 obtain⟨b4,dh,aD,aG,bz⟩:=apT G X h aU e br;refine⟨b4,dh,aG,bz.c _ _,fun k=>vo G X aD (bz.c cO b5).aa ?_,fun k=>dc aD (bz.c cO b5).aa⟩;rw[h.cells,aG.cells];exact mL.2 ⟨_,rfl,rfl⟩
theorem mI.Q3(h:mI d j cO cm b5 S A ck)(k:a1):(aH au G X).aj S k none (rV (.ref (.g d j) (0+4)) (.ref (.g d j) 0) 4)=k cO S:=by
 have:rV (.ref (.g d j) (0+4)) (.ref (.g d j) 0) 4=.ref (.g d j) 4:=by simp [rV,mY]
 rw[this];exact gF h.fd h.as.c rfl
theorem mI.awh(h:mI d j cO cm b5 S A ck)(k:a1):(aH au G X).aj S k none (.ref (.g d j) (0+4))=k cO S:=gF h.fd h.as.c rfl
theorem mI.Q7(h:mI d j cO cm b5 S A ck)(k:a1):(aH au G X).aj S k none (.ref (.g d j) (0+5))=k (I A.dj) S:=gF h.fd h.as.c rfl
theorem mI.kS(h:mI d j cO cm b5 S A ck)(k:a1):(aH au G X).aj S k none (.ref (.g d j) (0+0+3))=k (dx A.roots b5) S:=gF h.fd h.as.c rfl
theorem mI.look(h:mI d j cO cm b5 S A ck)(k:a1)(w:List Nat):(aH au G X).lD S k .str (.int .i64 0) false cO (ai.ak S.aa (.str w))=k (I ((jV A.env w).getD 0)) S:=by obtain⟨m,es,rfl,hm,he⟩:=h.mp;rw[show ai.ak S.aa (.str w)=.str w from rfl,CR h.fd hm w,he]
def cj.name(A:cj)(w:List Nat)(v:Int):cj:={A with env:=(w,v)::A.env}
theorem ct.set{F:List bd}{d n i:Nat}{g:cd}{o o':bd}(h:ct F d g n)(bk:F[i]? =some o)(r:∀n,o≠.tok n):ct (F.set i o') d g n:=by refine ct.bf h (fun t e=>?_);have cB:=(ct.le (e ▸ h)).1;rw[ew (fun u=>by subst u;rw[bk] at cB;injection cB with cB;exact r _ cB)]
theorem mI.name(h:mI d j cO cm b5 S A ck)(w:List Nat)(v:Int):
  ∃b4,mI d j cO cm b5 b4 (A.name w v) ck∧mJ d j cO S ck b5 b4 ck b5∧∀k:a1,(aH au G X).kK S k .str cO (ai.ak S.aa (.str w)) (ai.ak S.aa (I v))=k .dead b4:=by
 obtain⟨m,es,rfl,hm,he⟩:=h.mp;have r:m≠j:=fun e=>by subst e;have:=h.as.c;rw[hm] at this;cases this
 have bq:=fun F=>cv h.fd F
 have u:=(bZ.1 hm).1;refine⟨S.bH d ((S.cA d).set m (.map (qs (uB w v es)))),⟨h.fd.put _ _,?_,?_⟩,⟨⟨_,rfl⟩,?_⟩,fun k=>Mg h.fd hm w v⟩
 ·rw[bq];exact⟨by rw[ew r];exact h.as.c,ct.set h.as.Bj hm (fun _ e=>by cases e),ct.set h.as.Q1 hm (fun _ e=>by cases e),ct.set h.as.wr hm (fun _ e=>by cases e),h.as.ai0,h.as.ai1,h.as.qJ⟩
 ·rw[bq];refine⟨m,uB w v es,rfl,by simp [u],fun x=>?_⟩;rw[vi];show _=(if x=w then some v else jV A.env x);rw[he]
 ·rw[bq];refine⟨fun i o y B bD aQ cQ=>?_,fun _ _ e=>e,fun _ _ e=>e,by rw[List.length_set];exact aX _⟩;rw[ew (fun e=>cQ (by rw[e]))];exact y
theorem iy.set{F:List bd}{A':cj}(h:iy F d j A cO ck cm b5)(bk:A'.ins.length=A.ins.length)(bG:A'.aF.length=A.aF.length)(aQ:A'.roots.length=A.roots.length):iy (F.set j (.cells (A'.cells cO ck cm b5))) d j A' cO ck cm b5:=
 ⟨by simp [(bZ.1 h.c).1],by rw[bk];exact ct.set h.Bj h.c (fun _ e=>by cases e),by rw[bG];exact ct.set h.Q1 h.c (fun _ e=>by cases e),by rw[aQ];exact ct.set h.wr h.c (fun _ e=>by cases e),h.ai0,h.ai1,h.qJ⟩
theorem iI.set{F:List bd}{env:List (List Nat×Int)}{cs:List ai}(h:iI F d cO env)(cp:F[j]? =some (.cells cs))(o:bd):iI (F.set j o) d cO env:=by obtain⟨m,es,rfl,hm,he⟩:=h;exact⟨m,es,rfl,by rw[ew (fun e=>by subst e;rw[hm] at cp;cases cp)];exact hm,he⟩
theorem mI.count(h:mI d j cO cm b5 S A ck)(v:Int):
  ∃b4,mI d j cO cm b5 b4 {A with dj:=v} ck∧mJ d j cO S ck b5 b4 ck b5∧∀k:a1,(aH au G X).a6 S k 1 (.ref (.g d j) (0+5)) (ai.ak S.aa (I v))=k .dead b4:=by
 have bq:=fun F=>cv h.fd F
 refine⟨S.bH d ((S.cA d).set j (.cells (cj.cells {A with dj:=v} cO ck cm b5))),⟨h.fd.put _ _,by rw[bq];exact h.as.set (A':={A with dj:=v}) rfl rfl rfl,by rw[bq];exact h.mp.set h.as.c _⟩,⟨⟨_,rfl⟩,?_⟩,fun k=>jR h.fd h.as.c (by simp [cj.cells]) rfl rfl rfl (.inl rfl)⟩;rw[bq];refine⟨fun i o r u _ _ _=>by rw[ew (Ne.symm u)];exact r,fun _ _ e=>e,fun _ _ e=>e,by rw[List.length_set];exact aX _⟩
end
section
variable{d j:Nat}{cO:ai}{cm b5:cd}{S b4:aq}{A:cj}{ck:cd}
theorem ZI{i q bytes:Nat}{es new:List ai}{g g2:cd}(h:fi S d)(r:d≠S.aa)(bD:ct (S.cA d) d g es.length)(bX:new≠[])(y:(es.length+new.length)*bytes≤1099511627776)(a9:(new.flatMap ai.cells).all ai.dZ=true)(B:∀a,g2≠.bQ a):
  ∃t dD,dD[t]? =some (.tok (es.length+new.length))∧(g=.nil→(S.cA d).length≤t)∧(∀u,g=.bQ (.g d u)→t=u)∧nS (S.cA d) dD d g∧∀k:a1,(aH au G X).cn S k q bytes (some (.g d i)) (.aW q es g) (.aW q new g2)=k (.aW q (es++new) (.bQ (.g d t))) (S.bH d dD):=by
 have el:dB S (.aW q new g2)=some (q,new):=by cases g2<;> first|rfl |exact absurd rfl (B _)
 have kT:Nat.ble ((es.length+new.length)*bytes) 1099511627776=true:=dN y;cases new with
 |nil=>exact absurd rfl bX
 |cons c cs=>
  rcases bD with⟨rfl,I⟩|⟨t,rfl,iq,cB⟩
  ·refine⟨(S.cA d).length,S.cA d++[.tok (es.length+(c::cs).length)],by simp,fun _=>aX _,fun u e=>(by cases e),⟨by simp,fun j o cp _=>by rw[ev (bZ.1 cp).1];exact cp⟩,fun k=>?_⟩;rw[gS];unfold er;simp only;unfold fl;rw[el];simp only[fE,cG,kT,cb];rw[rK h r];rfl
  ·have H:=(bZ.1 cB).1;refine⟨t,(S.cA d).set t (.tok (es.length+(c::cs).length)),by simp [H],fun e=>(by cases e),fun u e=>(by cases e;rfl),⟨by simp,fun j o cp cQ=>by rw[ew (fun e=>cQ (by rw[e]))];exact cp⟩,fun k=>?_⟩;rw[gS];unfold er;simp only;unfold fl;rw[el];simp only[fE,kT,cb,ld h,cB,a9,eD];rw[qq h];rfl
theorem nS.Q8{F dD:List bd}{d n:Nat}{g g':cd}(h:nS F dD d g)(bD:ct F d g' n)(r:apart d g g'):ct dD d g' n:=
 ct.bf bD (fun u e=>by have hu:=(ct.le (e ▸ bD)).1;rw[hu];exact h.mv u _ hu (fun y=>r u y e))
theorem mI.root(h:mI d j cO cm b5 S A ck)(cQ:d≠S.aa)(an:A.roots.length<1000000000)(v:Int):
  ∃b4 iz,mI d j cO cm iz b4 {A with roots:=A.roots++[v]} ck∧mJ d j cO S ck b5 b4 ck iz∧
   ∀k:a1,(aH au G X).cn S (fun Z s=>(aH au G X).aE s (fun ab s=>(aH au G X).ag s (fun ac s=>(aH au G X).ag s (fun ad s=>(aH au G X).a6 s k 1 ad (ai.ak s.aa Z)) 3 ac) 0 ab) (.ref (.g d j) 0)) 1 8 (some (.g d j)) (dx A.roots b5) (.aW 1 [I v] .exact)=k .dead b4:=by
 obtain⟨t,B,gw,hj,R,J,ae⟩:=ZI G X (S:=S) (i:=j) (q:=1) (bytes:=8) (es:=A.roots.map I) (new:=[I v]) (g:=b5) (g2:=.exact) h.fd cQ (by rw[b2];exact h.as.wr) (by simp) (by simp;omega) rfl (fun a e=>by cases e);have U:∀g n,ct (S.cA d) d g n→apart d b5 g→∀u,g=.bQ (.g d u)→t≠u:=fun g n bD N u e r=>by
  have hu:=(ct.le (e ▸ bD)).1;have ao:=(bZ.1 hu).1;rcases h.as.wr with⟨H,cL⟩|⟨O,H,aD,aG⟩
  ·have:=hj H;omega
  ·have:=R O H;subst this;subst r;exact N _ H e
 have K:B[j]? =some (.cells (A.cells cO ck cm b5)):=J.mv j _ h.as.c (fun e=>by have:=(ct.le (e ▸ h.as.wr)).1;rw[h.as.c] at this;cases this);have af:=(bZ.1 K).1;have ah:t≠j:=fun e=>by subst e;rw[K] at gw;cases gw
 let A':cj:={A with roots:=A.roots++[v]}
 have V:(S.bH d B).cA d=B:=cv h.fd B
 let y:=B.set j (.cells (A'.cells cO ck cm (.bQ (.g d t))))
 have Q:(S.bH d y).cA d=y:=cv h.fd y;have ez:=fun k:a1=>jR (T:=au) (G:=G) (X:=X) (k:=k) (h.fd.put d B) (by rw[V];exact K) (o:=0+0+3) (v:=.aW 1 (A'.roots.map I) (.bQ (.g d t))) (by simp [cj.cells]) rfl rfl rfl (.inr (AW d t _ _))
 rw[V,gr] at ez;have Y:∀g n,ct (S.cA d) d g n→apart d b5 g→ct y d g n:=fun g n bD N=>ct.set (nS.Q8 J bD N) K (fun _ e=>by cases e)
 have map:iI y d cO A.env:=by obtain⟨m,es,rfl,hm,he⟩:=h.mp;have aD:B[m]? =some (.map (qs es)):=J.mv m _ hm (fun e=>by have:=(ct.le (e ▸ h.as.wr)).1;rw[hm] at this;cases this);exact iI.set ⟨m,es,rfl,aD,he⟩ K _
 refine⟨S.bH d y,.bQ (.g d t),⟨h.fd.put _ _,?_,by rw[Q];exact map⟩,⟨⟨_,rfl⟩,?_⟩,fun k=>?_⟩
 ·rw[Q];refine⟨by simp [y,af,A'],Y _ _ h.as.Bj h.as.ai1.symm,Y _ _ h.as.Q1 h.as.qJ.symm,?_,h.as.ai0,?_,?_⟩
  ·refine .inr ⟨t,rfl,by simp,?_⟩;show y[t]? =_;rw[ew (Ne.symm ah),gw];simp
  ·intro u e r;injection r with r;injection r with H L;exact U _ _ h.as.Bj h.as.ai1.symm u e L
  ·intro u e r;injection r with r;injection r with H L;exact U _ _ h.as.Q1 h.as.qJ.symm u e L
 ·rw[Q];refine⟨fun i o aj al ap am aq=>?_,fun _ _ e=>e,fun i bk e=>?_,by rw[List.length_set];exact J.len⟩
  ·rw[ew (Ne.symm al)];exact J.mv i o aj am
  ·injection e with e;injection e with H L
   rcases h.as.wr with⟨M,cL⟩|⟨O,M,aD,aG⟩
   ·have:=hj M;omega
   ·have:=R O M;subst this;subst L;exact M
 ·refine(ae _).trans ?_;rw[a3,aA,aA];have e:A.roots.map I++[I v]=A'.roots.map I:=by simp [A']
  rw[e];exact ez k
end
inductive jc where
 |e5
 |root (e:g9)
 |ex (e:g9)
def jc.size:jc→Nat
 |.e5=>1
 |.root e=>e.size+1
 |.ex e=>e.size
def jc.run(w:List Nat):jc→cj→cj
 |.e5,A=>{(A.emit 1 A.dj 0).1.name w (A.emit 1 A.dj 0).2 with dj:=A.dj+1}
 |.root e,A=>{((e.run A).1.emit 6 (e.run A).2 0).1.name w ((e.run A).1.emit 6 (e.run A).2 0).2 with roots:=(e.run A).1.roots++[((e.run A).1.emit 6 (e.run A).2 0).2]}
 |.ex e,A=>(e.run A).1.name w (e.run A).2
def Mk(f:Nat)(s:List Nat):Option jc:=
 if s=[105,110] then some .e5 else match s with
  |[]=>none
  |x::r=>if x=33 then(match vm f r with
    |none=>none
    |some (e,_)=>some (.root e))
   else(match vm f (x::r) with
    |none=>none
    |some (e,_)=>some (.ex e))
def fK(f:Nat):List (List Nat×List Nat)→Option (List (List Nat×jc))
 |[]=>some []
 |(w,s)::l=>match Mk f s with
  |none=>none
  |some x=>match fK f l with
   |none=>none
   |some r=>some ((w,x)::r)
def j3(f:Nat):List (List Nat)→Option (List g9)
 |[]=>some []
 |s::l=>match vm f s with
  |none=>none
  |some (e,_)=>match j3 f l with
   |none=>none
   |some r=>some (e::r)
def cC:List (List Nat×jc)→cj→cj
 |[],A=>A
 |(w,x)::l,A=>cC l (x.run w A)
def dS:List g9→cj→cj×List Int
 |[],A=>(A,[])
 |e::l,A=>((dS l (e.run A).1).1,(e.run A).2::(dS l (e.run A).1).2)
def e1:List (List Nat×jc)→Nat
 |[]=>0
 |(_,x)::l=>x.size+e1 l
def j4:List g9→Nat
 |[]=>0
 |e::l=>e.size+j4 l
theorem e3:∀(x:g9) (A:cj),(x.run A).1.roots=A.roots∧(x.run A).1.dj=A.dj∧(x.run A).1.aF=A.aF∧(x.run A).1.env=A.env
 |.aa0 _,A=>⟨rfl,rfl,rfl,rfl⟩
 |.var _,A=>⟨rfl,rfl,rfl,rfl⟩
 |.awf a,A=>e3 a A
 |.mul a b,A=>by have aD:=e3 a A;have aG:=e3 b (a.run A).1;exact⟨aG.1.trans aD.1,aG.2.1.trans aD.2.1,aG.2.2.1.trans aD.2.2.1,aG.2.2.2.trans aD.2.2.2⟩
 |.add a b,A=>by have aD:=e3 a A;have aG:=e3 b (a.run A).1;exact⟨aG.1.trans aD.1,aG.2.1.trans aD.2.1,aG.2.2.1.trans aD.2.2.1,aG.2.2.2.trans aD.2.2.2⟩
 |.sub a b,A=>by have aD:=e3 a A;have aG:=e3 b (a.run A).1;exact⟨aG.1.trans aD.1,aG.2.1.trans aD.2.1,aG.2.2.1.trans aD.2.2.1,aG.2.2.2.trans aD.2.2.2⟩
 |.neg a,A=>e3 a (A.emit 2 0 0).1
structure dv (A:cj) (n m:Nat):Prop where
 ins:A.ins.length+n<1000000000
 roots:A.roots.length+m<1000000000
 eQ:0≤A.dj
 dj:A.dj+m<1000000000
theorem dv.awu{A:cj}{x:jc}{n m:Nat}(w:List Nat)(h:dv A (x.size+n) (m+1)):dv (x.run w A) n m:=by
 obtain⟨aD,aG,bz,cz⟩:=h;cases x with
 |e5=>
  refine⟨?_,?_,?_,?_⟩
  ·show((A.emit 1 A.dj 0).1.ins.length+n<_);rw[fv];rw[jc.size] at aD;omega
  ·show A.roots.length+m<_;omega
  ·show 0≤A.dj+1;omega
  ·show A.dj+1+m<_;omega
 |root e=>
  have br:=dU e A;have aQ:=e3 e A;refine⟨?_,?_,?_,?_⟩
  ·show(((e.run A).1.emit 6 (e.run A).2 0).1.ins.length+n<_);rw[fv,br];rw[jc.size] at aD;omega
  ·show((e.run A).1.roots++[_]).length+m<_;rw[aQ.1];simp;omega
  ·show 0≤(e.run A).1.dj;rw[aQ.2.1];exact bz
  ·show(e.run A).1.dj+m<_;rw[aQ.2.1];omega
 |ex e=>
  have br:=dU e A;have aQ:=e3 e A;refine⟨?_,?_,?_,?_⟩
  ·show((e.run A).1.ins.length+n<_);rw[br];rw[jc.size] at aD;omega
  ·show(e.run A).1.roots.length+m<_;rw[aQ.1];omega
  ·show 0≤(e.run A).1.dj;rw[aQ.2.1];exact bz
  ·show(e.run A).1.dj+m<_;rw[aQ.2.1];omega
def dV(l:List (List Nat×List Nat)):List ai:=l.flatMap fun p=>[.str p.1,.str p.2]
theorem nu:∀l,(dV l).length=2*l.length
 |[]=>rfl
 |p::l=>by simp only[dV,List.flatMap_cons,dm,c0,ek];have:=nu l;simp only[dV] at this;omega
theorem rM:∀(pre:List (List Nat×List Nat)) (p:List Nat×List Nat) (l:List (List Nat×List Nat)),(dV (pre++p::l))[2*pre.length]? =some (.str p.1)∧(dV (pre++p::l))[2*pre.length+1]? =some (.str p.2)
 |[],p,l=>⟨rfl,rfl⟩
 |q::pre,p,l=>by have h:=rM pre p l;have e:dV (q::pre++p::l)=.str q.1:: .str q.2::dV (pre++p::l):=rfl;rw[e,c0,show 2*(pre.length+1)=2*pre.length+1+1 by omega];exact h
section
variable{d j:Nat}{cO:ai}{cm:cd}
theorem Q9(f:Nat)(dK:List (List Nat×List Nat))(g1:cd)(J:ai)(a2:dK.length<1000000)(ar:∀p∈dK,p.2.length<1000000000):∀(l pre:List (List Nat×List Nat)) (D:List (List Nat×jc)) (S:aq) (A:cj) (ck b5:cd),dK=pre++l→fK f l=some D→mI d j cO cm b5 S A ck→d≠S.aa→dv A (e1 D) l.length→
  ∃b4 dh iz,tG (aH au G X) (.ref (.g d j) 0) (.bM [.aW 1 (dV dK) g1,J]) (.int .i64 ((2*pre.length:Nat):Int)) S=xE (aH au G X) (.ref (.g d j) 0) (.bM [.aW 1 (dV dK) g1,J]) b4∧mI d j cO cm iz b4 (cC D A) dh∧mJ d j cO S ck b5 b4 dh iz:=by
 intro l
 induction l with
 |nil=>
  intro pre D S A ck b5 bI e h cQ ak;injection e with e;subst e
  refine⟨S,ck,b5,?_,h,.refl h.fd⟩;have hlen:=nu dK;rw[gf] at bI;subst bI;have U:=fun S k=>fJ G X S k (2*dK.length) (by omega)
  rw[Aq,U,c3,bT,bu,bg,hlen,be,aM (by omega),bc]
 |cons p l as=>
  intro pre D S A ck b5 bI e h cQ ak;obtain⟨w,src⟩:=p;rw[fK] at e;cases aT:Mk f src with
  |none=>rw[aT] at e;cases e
  |some x=>
   rw[aT] at e;simp only at e;cases dQ:fK f l with
   |none=>rw[dQ] at e;cases e
   |some Y=>
    rw[dQ] at e;injection e with e
    subst e;have hlen:=nu dK;have a4:pre.length<dK.length:=by rw[bI];simp
    have bD:=rM pre (w,src) l;rw[←bI] at bD
    dsimp only at bD
    have am:src.length<1000000000:=ar (w,src) (by rw[bI];simp);have K:=ak;rw[c0,e1] at K;have av:dv (x.run w A) (e1 Y) l.length:=dv.awu w K;have U:=fun S k=>fJ G X S k (2*pre.length) (by omega)
    have aw:∀(S:aq) (k:a1),(aH au G X).ah S k (al .add (.int .i64 ((2*pre.length:Nat):Int)) (.int .i64 2))=k (.int .i64 ((2*pre.length+2:Nat):Int)) S:=fun S k=>g8 (T:=au) (G:=G) (X:=X) (s:=S) (k:=k) (2*pre.length) 2 (by omega)
    have i1:=fun S k=>ic G X S k 1 (dV dK) g1 .i64 (2*pre.length) _ bD.1
    have i2:=fun S k=>ic G X S k 1 (dV dK) g1 .i64 (2*pre.length+1) _ bD.2
    have an:=fun(S:aq) (k:a1) (b:List Nat)=>show(aH au G X).aj S k none (.bM (ai.cells (.str b)))=k (.str b) S from rfl
    have rest:∀(H:aq) (u V:cd),mI d j cO cm V H (x.run w A) u→mJ d j cO S ck b5 H u V→∃b4 dh iz,tF (aH au G X) (.ref (.g d j) 0) (.bM [.aW 1 (dV dK) g1,J]) (.int .i64 ((2*pre.length:Nat):Int)) H=xE (aH au G X) (.ref (.g d j) 0) (.bM [.aW 1 (dV dK) g1,J]) b4∧mI d j cO cm iz b4 (cC ((w,x)::Y) A) dh∧mJ d j cO S ck b5 b4 dh iz:=fun H u V aD B=>by obtain⟨M,Z,ax,ay,aG,I⟩:=as (pre++[(w,src)]) Y H (x.run w A) u V (by rw[bI];simp) dQ aD (by rw[B.aa];exact cQ) av;refine⟨M,Z,ax,?_,aG,B.trans I⟩;rw[OK,aw,←ay,dm];rfl
    have head:tG (aH au G X) (.ref (.g d j) 0) (.bM [.aW 1 (dV dK) g1,J]) (.int .i64 ((2*pre.length:Nat):Int)) S=EO (aH au G X) (.ref (.g d j) 0) (.bM [.aW 1 (dV dK) g1,J]) (.int .i64 ((2*pre.length:Nat):Int)) S:=by rw[Aq,U,c3,bT,bu,bg,hlen,be,a7 (by omega),ba]
    rw[head,OL,c3,bT,bu,i1,an,c3,bT,bu,U,i2,an,qV];have ab:=K.ins;unfold Mk at aT;by_cases N:src=[105,110]
    ·rw[if_pos N] at aT;injection aT with aT
     subst aT;rw[jc.size] at ab;obtain⟨H,u,aD,B,O⟩:=h.emit G X (by omega) 1 A.dj 0;obtain⟨M,aG,I,Q⟩:=aD.name G X w (A.emit 1 A.dj 0).2;obtain⟨R,bz,L,ac⟩:=aG.count G X (A.dj+1);obtain⟨ad,az,ae,aB,cz,af⟩:=rest R u b5 bz (B.trans (I.trans L));refine⟨ad,az,ae,?_,cz,af⟩;have a5:=K.dj;have a6:=K.eQ;rw[a7 N,ba,a3,aA,h.Q3,a3,aA,h.Q7];refine(O _).trans ?_;refine(Q _).trans ?_;rw[a3,aA,aG.Q7,pW,show((A.emit 1 A.dj 0).1.name w (A.emit 1 A.dj 0).2).dj=A.dj from rfl,gJ _ (by omega) (by omega),a3,aA];refine(ac _).trans ?_;exact aB
    ·rw[if_neg N] at aT;cases src with
     |nil=>cases aT
     |cons y r=>
      simp only at aT;have ao:∀(S:aq) (k:a1),(aH au G X).db S k (.str (y::r)) (.int .i64 0)=k (.int .u8 (y:Int)) S:=fun S k=>gq G X (s:=S) (k:=k) (y::r) .i64 0 y rfl
      by_cases dX:y=33
      ·rw[if_pos dX] at aT;cases aU:vm f r with
       |none=>rw[aU] at aT;cases aT
       |some ag=>
        obtain⟨ex,hG⟩:=ag;rw[aU] at aT;injection aT with aT
        subst aT;rw[jc.size] at ab;have br:=dU ex A;have aC:=e3 ex A;have aE:∀(S:aq) (k:a1),(aH au G X).nf (.str (y::r)) (some (.int .i64 1)) none S k=k (.str r) S:=fun S k=>by show hSub (.str (y::r)) (some (.int .i64 1)) none S k=_;unfold hSub;simp [pB,eE];have aF:Nat.ble 1 (r.length+1)=true:=dN (by omega);have aI:Nat.ble (r.length+1) (r.length+1)=true:=dN (aX _);rw[aF,aI];rfl
        obtain⟨H,u,aD,B,O,aJ⟩:=h.expr G X aU (by omega) (by simp at am;omega);obtain⟨M,Z,aG,I,Q⟩:=aD.emit G X (by omega) 6 (ex.run A).2 0;obtain⟨R,bz,L,ac⟩:=aG.name G X w ((ex.run A).1.emit 6 (ex.run A).2 0).2;have a8:=K.roots;have aK:d≠R.aa:=by rw[L.aa,I.aa,B.aa];exact cQ
        have aL:(((ex.run A).1.emit 6 (ex.run A).2 0).1.name w ((ex.run A).1.emit 6 (ex.run A).2 0).2).roots=A.roots:=aC.1;obtain⟨ad,ae,cz,af,aN⟩:=bz.root G X aK (by rw[aL];omega) ((ex.run A).1.emit 6 (ex.run A).2 0).2;obtain⟨aO,aP,aQ,aR,aS,aV⟩:=rest ad Z ae cz (B.trans (I.trans (L.trans af)));refine⟨aO,aP,aQ,?_,aS,aV⟩;have ap:=fun(k:a1)=>bz.look G X k w
        rw[show(jV (((ex.run A).1.emit 6 (ex.run A).2 0).1.name w ((ex.run A).1.emit 6 (ex.run A).2 0).2).env w).getD 0=((ex.run A).1.emit 6 (ex.run A).2 0).2 from by show(jV ((w,_)::_) w).getD 0=_;rw[jV,if_pos rfl];rfl] at ap
        rw[aM N,bc,ao,bi,a7 (by omega),ba,a3,aA,h.Q3,aE];refine(O _).trans ?_;refine(Q _).trans ?_;refine(ac _).trans ?_;rw[a3,aA,aA,bz.kS,a3,aA,bz.awh,ap];refine Eq.trans ?_ aR;exact aN _
      ·rw[if_neg dX] at aT;cases aU:vm f (y::r) with
       |none=>rw[aU] at aT;cases aT
       |some ag=>
        obtain⟨ex,hG⟩:=ag;rw[aU] at aT;injection aT with aT
        subst aT;rw[jc.size] at ab;obtain⟨H,u,aD,B,O,aJ⟩:=h.expr G X aU (by omega) am;obtain⟨M,aG,I,Q⟩:=aD.name G X w (ex.run A).2;obtain⟨R,aY,aZ,a0,bz,L⟩:=rest M u b5 aG (B.trans I);refine⟨R,aY,aZ,?_,bz,L⟩;rw[aM N,bc,ao,bi,aM (by omega),bc,a3,aA,h.Q3];refine(O _).trans ?_;refine(Q _).trans ?_;exact a0
end
section
variable{d j:Nat}{cO:ai}{cm b5:cd}{s S:aq}{A:cj}{ck:cd}
theorem Child.ne(e:Child s S)(h:fi s d):d≠S.aa:=by have:=h.bk;have:=e.aa;omega
theorem Child.aij(e:Child s S)(h:fi s d):fi S d:=⟨by rw[e.ro];exact h.eQ,by have:=h.bk;have:=e.aa;omega⟩
theorem Child.eq(e:Child s S):S= {s.af with own:=S.own}:=by obtain⟨o,u,r⟩:=S;obtain⟨aD,aG⟩:=e;simp only at aD aG;subst aD;subst aG;rfl
theorem Child.cA(e:Child s S)(h:fi s d):S.cA d=s.cA d:=by rw[Child.eq e,AY (by have:=h.bk;have:=f6 s;omega),fp h]
theorem Child.bH(r:Child s S)(h:fi s d)(F:List bd):Child (s.bH d F) (S.bH d F)∧(S.bH d F).own=S.own:=by
 have cQ:d≠s.af.aa:=by have:=h.bk;have:=f6 s;omega
 have e:S.bH d F= {(s.bH d F).af with own:=S.own}:=by
  conv=>lhs;rw[Child.eq r]
  rw[vn cQ,h2 h]
 exact⟨by rw[e];exact⟨rfl,rfl⟩,by rw[e]⟩
theorem mI.child(h:mI d j cO cm b5 s A ck)(e:Child s S):mI d j cO cm b5 S A ck:=
 ⟨Child.aij e h.fd,by rw[Child.cA e h.fd];exact h.as,by rw[Child.cA e h.fd];exact h.mp⟩
theorem mJ.child{b4:aq}{A':cj}{dh iz:cd}(h:mI d j cO cm b5 s A ck)(e:Child s S)(u:mJ d j cO S ck b5 b4 dh iz)(r:mI d j cO cm iz b4 A' dh):
  ∃s',Child s' b4∧b4.own=S.own∧mJ d j cO s ck b5 s' dh iz∧mI d j cO cm iz s' A' dh:=by
 obtain⟨F,rfl⟩:=u.ez;obtain⟨I,J⟩:=Child.bH e h.fd F;have bq:=cv h.fd F;have y:=cv (Child.aij e h.fd) F;have Ck:=u.Ck;rw[y,Child.cA e h.fd] at Ck;have B:=r.as;have H:=r.mp;rw[y] at B H;exact⟨s.bH d F,I,J,⟨⟨F,rfl⟩,by rw[bq];exact Ck⟩,⟨h.fd.put _ _,by rw[bq];exact B,by rw[bq];exact H⟩⟩
theorem gW.own{S b4:aq}{g:cd}{n:Nat}(h:gW S g n)(e:b4.own=S.own):gW b4 g n:=by
 cases h with
 |nil=>exact .nil
 |bQ j n bX h=>exact .bQ j n bX (by rw[e];exact h)
theorem qv{S:aq}{es new:List ai}{g g2:cd}{q bytes:Nat}(bD:gW S g es.length)(bX:new≠[])(r:(es.length+new.length)*bytes≤1099511627776)(a9:(new.flatMap ai.cells).all ai.dZ=true)(u:∀a,g2≠.bQ a):
  ∃g' b4,gW b4 g' (es.length+new.length)∧g'≠.nil∧(g≠.nil→g'=g)∧(g=.nil→g'=.bQ (.l S.own.length))∧Grown S b4 g∧∀k:a1,(aH au G X).cn S k q bytes (some (.l 0)) (.aW q es g) (.aW q new g2)=k (.aW q (es++new) g') b4:=by
 have el:dB S (.aW q new g2)=some (q,new):=by cases g2<;> first|rfl |exact absurd rfl (u _)
 have kT:Nat.ble ((es.length+new.length)*bytes) 1099511627776=true:=dN r;cases new with
 |nil=>exact absurd rfl bX
 |cons c cs=>
  rcases bD.inv with⟨rfl,y⟩|⟨j,rfl,iq,h⟩
  ·refine⟨.bQ (.l S.own.length),S.new (.tok (es.length+(c::cs).length)),.bQ _ _ (by simp;omega) (by simp [aq.new]),by simp,fun h=>absurd rfl h,fun _=>rfl,⟨rfl,rfl,by simp [aq.new],fun j o h _=>?_⟩,fun k=>?_⟩
   ·simp only[aq.new];rw[ev (bZ.1 h).1];exact h
   ·rw[gS];unfold er;simp only;unfold fl;rw[el];simp only[fE,cG,kT,cb,aq.gg];rfl
  ·have e:S.get (.l j)=some (.tok es.length):=h;refine⟨.bQ (.l j),{S with own:=S.own.set j (.tok (es.length+(c::cs).length))},.bQ _ _ (by simp;omega) (by simp [(bZ.1 h).1]),by simp,fun _=>rfl,fun h=>(by simp at h),⟨rfl,rfl,by simp,fun i o bk cQ=>?_⟩,fun k=>?_⟩
   ·have:j≠i:=fun e=>cQ (by rw[e])
    simp only;rw[ew this];exact bk
   ·rw[gS];unfold er;simp only;unfold fl;rw[el];simp only[fE,kT,cb,e,a9,eD];show(match S.set (.l j) (.tok (es.length+(c::cs).length)) with |some s=>k (.aW q (es++c::cs) (.bQ (.l j))) s|none=>.fail)=_;simp only[aq.set]
theorem lf:∀l:List Int,ai.bj (l.map I)=true
 |[]=>rfl
 |x::l=>by simp only[fU,ai.bj,ai.bp,lf l,eD]
theorem Ra(f:Nat)(cs:List (List Nat))(g2:cd)(ah:cs.length<1000000)(K:∀p∈cs,p.length<1000000000):∀(l pre:List (List Nat)) (E:List g9) (s S:aq) (A:cj) (ck g:cd) (out:List Int),cs=pre++l→j3 f l=some E→mI d j cO cm b5 s A ck→Child s S→gW S g out.length→out.length=pre.length→A.ins.length+j4 E<1000000000→
  ∃s' dh,xD (aH au G X) (.ref (.g d j) 0) (dx out g) (.aW 1 (cs.map ai.str) g2) (.int .i64 (cs.length:Int)) (.int .i64 (pre.length:Int)) S=.ok (dx (out++(dS E A).2) (eR (out++(dS E A).2))) s'∧mI d j cO cm b5 s' (dS E A).1 dh∧mJ d j cO s ck b5 s' dh b5:=by
 intro l
 induction l with
 |nil=>
  intro pre E s S A ck g out bI bo h u bD B H;injection bo with bo;subst bo
  rw[gf] at bI;subst bI;refine⟨s,ck,?_,h,.refl h.fd⟩;rw[Ap,be,aM (by omega),bc,OO];have aC:=k8 (S:=S) (sz:=1) (es:=out.map I) (g:=g) (by simpa using bD) (lf _);rw[mW] at aC;rw[show(dS [] A).2=[] from rfl,gf];exact gV u _ _ aC
 |cons src l L=>
  intro pre E s S A ck g out bI bo h u bD B H;rw[j3] at bo;cases aU:vm f src with
  |none=>rw[aU] at bo;cases bo
  |some M=>
   obtain⟨ex,r⟩:=M;rw[aU] at bo;simp only at bo;cases dQ:j3 f l with
   |none=>rw[dQ] at bo;cases bo
   |some y=>
    rw[dQ] at bo;injection bo with bo
    subst bo;rw[j4] at H;have hlen:pre.length<cs.length:=by rw[bI];simp
    have N:(cs.map ai.str)[pre.length]? =some (.str src):=by rw[bI];simp
    have br:=dU ex A;obtain⟨O,Q,aD,R,ak,U⟩:=(h.child u).expr G X aU (by omega) (K src (by rw[bI];simp));obtain⟨s1,V,Y,v1,Z⟩:=mJ.child h u R aD;have i1:=fun S k=>ic G X S k 1 (cs.map ai.str) g2 .i64 pre.length _ N
    have aa:=fun(S:aq) (k:a1) (b:List Nat)=>show(aH au G X).aj S k none (.bM (ai.cells (.str b)))=k (.str b) S from rfl
    have eB:∀(S:aq) (k:a1),(aH au G X).av S k 1 [I (ex.run A).2]=k (.aW 1 [I (ex.run A).2] .exact) S:=fun S k=>rfl
    have ab:=fun S k=>fJ G X S k pre.length (by omega)
    rw[Ap,be,a7 (by omega),ba,ON,i1,aa];have ac:(dS (ex::y) A).2=(ex.run A).2::(dS y (ex.run A).1).2:=rfl;obtain⟨g',b4,gw,hj,al,am,ad,ae⟩:=qv G X (S:=O) (q:=1) (bytes:=8) (es:=out.map I) (new:=[I (ex.run A).2]) (g:=g) (g2:=.exact) (by rw[b2];exact gW.own bD Y) (by simp) (by simp;omega) rfl (fun a e=>by cases e);obtain⟨s2,af,J,aG,ag⟩:=L (pre++[src]) y s1 b4 (ex.run A).1 Q g' (out++[(ex.run A).2]) (by rw[bI];simp) dQ Z (ad.child V) (by simpa using gw) (by simp [B]) (by omega);refine⟨s2,af,?_,aG,v1.trans ag⟩;refine(U _).trans ?_;rw[eB];refine(ae _).trans ?_;rw[OM,ab,ac];rw[dm,jY,List.singleton_append] at J;rw[←J,dx,List.map_append];rfl
theorem ZJ(f:Nat)(dK:List (List Nat×List Nat))(cs:List (List Nat))(D:List (List Nat×jc))(E:List g9)(g1 g2:cd)(u:fK f dK=some D)(bo:j3 f cs=some E)(y:dK.length<1000000)(B:cs.length<1000000)(H:∀p∈dK,p.2.length<1000000000)(I:∀p∈cs,p.length<1000000000)
  (h:mI d j cO cm b5 s A ck)(J:dv A (e1 D) dK.length)(K:(cC D A).ins.length+j4 E<1000000000):
  ∃s' dh iz,az au G X 45 [.ref (.g d j) 0,.agg [.aW 1 (dV dK) g1,.aW 1 (cs.map ai.str) g2]] s=.ok (dx (dS E (cC D A)).2 (eR (dS E (cC D A)).2)) s'∧mI d j cO cm iz s' (dS E (cC D A)).1 dh∧mJ d j cO s ck b5 s' dh iz:=by
 have e:=Child.af s;obtain⟨r,L,M,bU,aD,N⟩:=Q9 G X f dK g1 (.aW 1 (cs.map ai.str) g2) y H dK [] D s.af A ck b5 rfl u (h.child e) (Child.ne e h.fd) J;obtain⟨s1,O,Z,v1,Q⟩:=mJ.child h e N aD;have R:gW r .nil ([]:List Int).length:=.nil;obtain⟨s2,U,V,aG,Y⟩:=Ra G X f cs g2 B I cs [] E s1 r (cC D A) L .nil [] rfl bo Q O R rfl K;refine⟨s2,U,M,?_,aG,v1.trans Y⟩;rw[aaA,apv,bx];refine bU.trans ?_;rw[OP,c3,show List.drop 1 [.aW 1 (dV dK) g1,.aW 1 (cs.map ai.str) g2]=[ai.aW 1 (cs.map ai.str) g2] from rfl,bu,bg,b2];exact V
end
theorem air(s:aq)(n:Nat)(h:n<10):az au G X 163 [.int .i64 (n:Int)] s=.ok (.str [48+n]) s:=by
 have e:=fun S k=>fJ G X S k n (by omega)
 have r:∀n,n<10→(([48,49,50,51,52,53,54,55,56,57,97,98,99,100,101,102,103,104,105,106,107,108,109,110,111,112,113,114,115,116,117,118,119,120,121,122]:List Nat).drop n).take (n+1-n)=[48+n]:=by decide
 rw[Qp,ahg,be,a7 (by omega),ba,e,E9 G X _ n (n+1) (by omega) (by simp;omega),r n h];exact nk _
theorem ais(s:aq)(n:Nat)(h:n<10):az au G X 152 [.int .i64 (n:Int),.int .i64 10] s=.ok (.str [48+n]) s:=by have e:decide ((0:Int)≤(n:Int))=true:=a7 (by omega);have r:decide ((n:Int)<100)=true:=a7 (by omega);rw[Qo,ahf,bi,a7 (by decide),ba,n5,e];simp only[dP,be,r,cR,ba];refine(aK (air G X s.af n h)).trans ?_;exact nk _
theorem apU(s:aq)(n:Nat)(h:n<10):az au G X 75 [.int .i64 (n:Int)] s=.ok (.str [48+n]) s:=by
 have f120:az au G X 120 [.int .i64 (n:Int)] s.af=.ok (.str [48+n]) s.af:=by rw[Qn,ahe];refine(aK (ais G X s.af.af n h)).trans ?_;exact nk _
 rw[aaD,apy];refine(aK f120).trans ?_;exact nk _
abbrev aa1:=List (List Nat×Int)
def hy(t:Nat):List (List Nat):=
 if t=1 then[[120],[121],[122]] else if t=2 then[[97],[98],[99]] else if t=3 then[[117],[112],[113],[114],[97,120],[97,121],[97,122]] else[]
def hq(f:Nat→Nat)(t:Nat):Nat→Nat:=fun x=>if x=t then f x+1 else f x
def jW:List Nat→(Nat→Nat)→Nat→Nat
 |[],f=>f
 |t::ts,f=>jW ts (hq f t)
def hz(tail:List Nat):List (List Nat)→List Int→aa1→aa1
 |n::h,r::u,e=>hz tail h u ((n++tail,r)::e)
 |_,_,e=>e
def pk(many:Nat→Nat):(Nat→Nat)→List Nat→List (List Int)→aa1→aa1
 |seen,t::ts,v::vs,e=>pk many (hq seen t) ts vs (hz (if 1<many t then[48+hq seen t t] else[]) (hy t) v e)
 |_,_,_,e=>e
def qw(ts:List Nat)(vs:List (List Int)):aa1:=pk (jW ts fun _=>0) (fun _=>0) ts vs []
abbrev In(n:Nat):ai:=.int .i64 (n:Int)
abbrev iD(f:Nat→Nat):List ai:=[In (f 0),In (f 1),In (f 2),In (f 3)]
theorem qX(f:Nat→Nat)(t:Nat)(h:t<4):(iD f)[t]? =some (In (f t)):=by
 have:t=0∨t=1∨t=2∨t=3:=by omega
 rcases this with rfl |rfl |rfl |rfl <;> rfl
theorem CT(f:Nat→Nat)(t:Nat)(h:t<4):(iD f).set t (In (f t+1))=iD (hq f t):=by
 have:t=0∨t=1∨t=2∨t=3:=by omega
 rcases this with rfl |rfl |rfl |rfl <;> simp [iD,hq]
def aC(s:aq)(d:Nat)(F O:List bd):aq:={(s.bH d F).af with own:=O}
section
variable{s:aq}{d:Nat}
theorem Fc(h:fi s d)(F O:List bd):fi (aC s d F O) d:=⟨by show(s.bH d F).ro.length≤d;rw[Mf];exact h.eQ,by
 have e:=f6 (s.bH d F);have r:(aC s d F O).aa=(s.bH d F).af.aa:=rfl
 have:=h.bk;rw[r,e,eS];omega⟩
theorem ait(h:fi s d)(F O:List bd):d≠(aC s d F O).aa:=by
 have e:=f6 (s.bH d F);have r:(aC s d F O).aa=(s.bH d F).af.aa:=rfl
 have:=h.bk;rw[r,e,eS];omega
theorem Fe(h:fi s d)(F O:List bd):(aC s d F O).cA d=F:=by have cQ:d≠(s.bH d F).af.aa:=ait h F O;rw[aC,AY cQ,fp (h.put _ _),cv h]
theorem ZK(h:fi s d)(F dD O:List bd):(aC s d F O).bH d dD=aC s d dD O:=by have cQ:d≠(s.bH d F).af.aa:=ait h F O;rw[aC,vn cQ,←h2 (h.put _ _),gr];rfl
end
section
variable{S:aq}{k:a1}
theorem ii{i o:Nat}{cs:List ai}{c:ai}(bq:S.own[i]? =some (.cells cs))(a9:cs[o]? =some c):(aH au G X).aj S k none (.ref (.l i) o)=k c S:=by
 rw[k5];simp only[fq,show S.get (.l i)=some (.cells cs) from bq,fc]
 have:cs.drop o=c::cs.drop (o+1):=by have e:=(bZ.1 a9);rw[gl e.1,e.2]
 rw[this];rfl
theorem uE{i o:Nat}{cs:List ai}{v:ai}(bq:S.own[i]? =some (.cells cs))(e:o<cs.length)(bG:v.dZ=true)(hw:v.cells=[v])(h:v.fo=true):(aH au G X).a6 S k 1 (.ref (.l i) o) v=k .dead {S with own:=S.own.set i (.cells (cs.set o v))}:=by
 rw[mU];simp only[hp,h,hw,c0,ek,cf,fE,eD,cb];unfold jJ;have cB:S.ho (.l i) [v]=true:=by simp [aq.ho,aq.uP]
 rw[show S.get (.l i)=some (.cells cs) from bq];simp only[c0,ek,cf,show Nat.ble (o+1) cs.length=true from dN e,cB,List.all_cons,bG,List.all_nil,eD,cb];rfl
theorem pn{a:Ab.Loc}{kk:IntKind}(t n:Nat)(h:t<n):(aH au G X).iv S k 1 n (.ref a 0) (.int kk (t:Int))=k (.ref a t) S:=by show jl (gk G (az au G X) bO) S k 1 n (.ref a 0) (.int kk (t:Int))=_;unfold jl;simp only[hs];rw[show Nat.blt t n=true from dN h];simp only[cb,cf,Nat.mul_one];rfl
theorem uF{a:Ab.Loc}{kk:IntKind}(n c i:Nat)(h:i<n):(aH au G X).aZ S k 1 (.cw a 0 n c 1) (.int kk (i:Int))=k (.ref a i) S:=by show mZ (gk G (az au G X) bO) S k 1 (.cw a 0 n c 1) (.int kk (i:Int))=_;unfold mZ;simp only[hs];rw[show Nat.blt i n=true from dN h];simp only[fE,eD,cb,cf,Nat.mul_one];rfl
end
def q5(F:List bd)(d:Nat)(v:ai)(ts:List Nat):Prop:=(v=.aW 1 [] .nil∧ts=[])∨∃t,v=.cw (.g d t) 0 ts.length 0 1∧F[t]? =some (.cells (ts.map In))∧0<ts.length
def aa2(d i:Nat)(v:ai):Prop:=∀n c z,v≠.cw (.g d i) 0 n c z
section
variable{s:aq}{d j:Nat}
theorem Rb(h:fi s d)(v1:ai)(alike:Bool)(tv:ai)(n:Nat)(O:List bd):∀(rest pre:List Nat) (F:List bd) (f:Nat→Nat),q5 F d tv (pre++rest)→n=(pre++rest).length→n<1000→(∀t∈rest,t<4)→(∀t,f t≤pre.length)→
  ∃dD,qN (aH au G X) (.ref (.g d j) 0) v1 tv (.bool alike) (.ref (.l 0) 0) (.ref (.l 1) 0) tv (In n) (In pre.length) (aC s d F (.cells (iD f)::O))=xC (aH au G X) (.ref (.g d j) 0) v1 tv (.ref (.l 0) 0) (.ref (.l 1) 0) (aC s d dD (.cells (iD (jW (if alike=true then rest.map (fun _=>1) else rest) f))::O))∧
   q5 dD d tv (pre++(if alike=true then rest.map (fun _=>1) else rest))∧(∀i o,F[i]? =some o→aa2 d i tv→dD[i]? =some o)∧dD.length=F.length:=by
 intro rest
 induction rest with
 |nil=>
  intro pre F f cB bX H cz bq;have e:(if alike=true then([]:List Nat).map (fun _=>1) else[])=[]:=by cases alike<;> rfl
  rw[e];refine⟨F,?_,cB,fun _ _ h _=>h,rfl⟩;rw[gf] at bX;rw[Ao,be,aM (by omega),bc];rfl
 |cons t rest N=>
  intro pre F f cB bX H cz bq;have af:n=pre.length+(rest.length+1):=by rw[bX];simp
  have Q:pre.length<n:=by omega
  rcases cB with⟨_,e⟩|⟨r,rfl,B,_⟩
  ·simp at e
  ·rw[←bX] at *;have R:=Fc h F (.cells (iD f)::O);have I:=Fe h F (.cells (iD f)::O);have bD:((pre++t::rest).map In)[pre.length]? =some (In t):=by simp
   have Z:pre.length<((pre++t::rest).map In).length:=by simp
   have ag:(pre++t::rest).length=pre.length+(rest.length+1):=by simp
   have aa:=fun S k=>fJ G X S k pre.length (by omega)
   have U:∀(F:List bd) (u:Nat),u<4→xA (aH au G X) (.ref (.g d j) 0) v1 (.cw (.g d r) 0 n 0 1) (.bool alike) (.ref (.l 0) 0) (.ref (.l 1) 0) (In u) (.cw (.g d r) 0 n 0 1) (In n) (In pre.length) (aC s d F (.cells (iD f)::O))=qN (aH au G X) (.ref (.g d j) 0) v1 (.cw (.g d r) 0 n 0 1) (.bool alike) (.ref (.l 0) 0) (.ref (.l 1) 0) (.cw (.g d r) 0 n 0 1) (In n) (In (pre.length+1)) (aC s d F (.cells (iD (hq f u))::O)):=fun F u hu=>by
    have ab:=fun S k=>fJ G X S k (f u) (by have:=bq u;omega)
    rw[OF,pn G X u 4 hu,ii G X (i:=0) rfl (qX f u hu),ab,pn G X u 4 hu];refine(uE G X (i:=0) (o:=u) (cs:=iD f) (v:=In (f u+1)) rfl (by simpa using hu) rfl rfl rfl).trans ?_;rw[OE,aa,CT f u hu];rfl
   have V:∀u,∀x,hq f u x≤pre.length+1:=fun u x=>by unfold hq;have:=bq x;split<;> omega
   have ac:∀k:a1,(aH au G X).aj (aC s d F (.cells (iD f)::O)) k none (.ref (.g d r) pre.length)=k (In t) (aC s d F (.cells (iD f)::O)):=fun k=>gF R (by rw[I];exact B) bD
   rw[Ao,be,a7 (by omega),ba,OG,uF G X n 0 pre.length Q,ac];cases alike with
   |false=>
    have J:(pre++[t]++rest).length=n:=by simp;omega
    obtain⟨dD,bU,K,L,M⟩:=N (pre++[t]) F (hq f t) (.inr ⟨r,by rw[J],by simpa using B,by simp;omega⟩) (by simp;omega) H (fun u hu=>cz u (List.mem_cons_of_mem _ hu)) (fun x=>by rw[dm];exact V t x);refine⟨dD,?_,by simpa using K,L,M⟩;rw[bc];refine(U F t (cz t (List.mem_cons_self ..))).trans ?_;rw[dm] at bU;refine bU.trans ?_;simp only[co,if_false,jW]
   |true=>
    have ez:=fun k:a1=>jR (T:=au) (G:=G) (X:=X) (s:=aC s d F (.cells (iD f)::O)) (k:=k) (d:=d) (j:=r) (o:=pre.length) (v:=In 1) R (by rw[I];exact B) Z rfl rfl rfl (.inl rfl)
    rw[I,ZK h] at ez;have ad:((pre++t::rest).map In).set pre.length (In 1)=(pre++[1]++rest).map In:=by simp
    rw[ad] at ez;have ae:=(bZ.1 B).1;have J:(pre++[1]++rest).length=n:=by simp;omega
    let y:=F.set r (.cells ((pre++[1]++rest).map In))
    obtain⟨dD,bU,K,L,M⟩:=N (pre++[1]) y (hq f 1) (.inr ⟨r,by rw[J],by simp [y,ae],by simp;omega⟩) (by simp;omega) H (fun u hu=>cz u (List.mem_cons_of_mem _ hu)) (fun x=>by rw[dm];exact V 1 x);refine⟨dD,?_,by simpa using K,fun i o bk Y=>L i o ?_ Y,by rw[M];simp [y]⟩
    ·rw[ba,uF G X n 0 pre.length Q];refine(ez _).trans ?_;refine(U y 1 (by decide)).trans ?_;rw[dm] at bU;refine bU.trans ?_;simp only[if_true,jW,fU]
    ·show y[i]? =_;rw[ew (fun e=>Y n 0 1 (by rw[e]))];exact bk
end
theorem ZL{S:aq}{k:a1}(a b:List Nat)(h:a.length+b.length≤1000):(aH au G X).ah S k (al .add (.str a) (.str b))=k (.str (a++b)) S:=by
 have e:al .add (.str a) (.str b)=some (.str (a++b)):=by show rW .add a b=_;simp only[rW];rw[if_pos (dN (by omega))]
 rw[e];rfl
theorem ZM(t:Nat)(cB:t<4):∀n∈hy t,n.length≤2:=by
 have:t=0∨t=1∨t=2∨t=3:=by omega
 rcases this with rfl |rfl |rfl |rfl <;> decide
def strs(l:List (List Nat)):List ai:=l.map ai.str
abbrev Ml:List ai:=[.aW 1 [] .nil,.aW 1 (strs (hy 1)) .exact,.aW 1 (strs (hy 2)) .exact,.aW 1 (strs (hy 3)) .exact]
theorem aiu(t:Nat)(h:t<4):∃g,Ml[t]? =some (.aW 1 (strs (hy t)) g):=by
 have:t=0∨t=1∨t=2∨t=3:=by omega
 rcases this with rfl |rfl |rfl |rfl
 ·exact⟨.nil,rfl⟩
 ·exact⟨.exact,rfl⟩
 ·exact⟨.exact,rfl⟩
 ·exact⟨.exact,rfl⟩
structure ZN (F dD:List bd) (d:Nat) (cO:ai):Prop where
 bf:∀i o,F[i]? =some o→cO≠.map (.g d i)→dD[i]? =some o
 len:dD.length=F.length
theorem ZN.refl(F:List bd)(d:Nat)(cO:ai):ZN F F d cO:=⟨fun _ _ h _=>h,rfl⟩
theorem ZN.trans{F e r:List bd}{d:Nat}{cO:ai}(h:ZN F e d cO)(k:ZN e r d cO):ZN F r d cO:=⟨fun i o u hm=>k.bf i o (h.bf i o u hm) hm,k.len.trans h.len⟩
section
variable{s:aq}{d j:Nat}
theorem Rc(h:fi s d)(v2 R U V Y Z:ai)(cO:ai)(cs:List ai)(ac:cs[4]? =some cO)(O:List bd)(ad:O[2]? =some (.cells Ml))(t:Nat)(cB:t<4)(tail:List Nat)(aq:tail.length≤1)(v:List Int)(g:cd)(bG:v.length≤(hy t).length):∀(J pre:List Int) (y K:List (List Nat)) (F:List bd) (e:aa1),v=pre++J→hy t=K++y→K.length=pre.length→iI F d cO e→F[j]? =some (.cells cs)→
  ∃dD,xB (aH au G X) (.ref (.g d j) 0) v2 R U (.ref (.l 2) 0) (In t) (.str tail) V Y Z (dx v g) (In v.length) (In pre.length) (aC s d F O)=zz (aH au G X) (.ref (.g d j) 0) v2 R U (.ref (.l 2) 0) V Y Z (aC s d dD O)∧iI dD d cO (hz tail y J e)∧ZN F dD d cO:=by
 have ar:(hy t).length<8:=by
  have:t=0∨t=1∨t=2∨t=3:=by omega
  rcases this with rfl |rfl |rfl |rfl <;> decide
 intro J
 induction J with
 |nil=>
  intro pre y K F e B H L hm cp;rw[gf] at B;subst B;refine⟨F,?_,?_,.refl _ _ _⟩
  ·rw[Am,be,aM (by omega),bc]
  ·cases y<;> exact hm
 |cons r J ae=>
  intro pre y K F e B H L hm cp;have as:pre.length<v.length:=by rw[B];simp
  cases y with
  |nil=>rw[gf] at H;have:=congrArg List.length H;omega
  |cons u y=>
   obtain⟨m,es,rfl,M,af⟩:=hm;have aa:=Fc h F O;have N:=Fe h F O;obtain⟨ab,ag⟩:=aiu t cB;have g1:(v.map I)[pre.length]? =some (I r):=by rw[B];simp
   have g2:(strs (hy t))[pre.length]? =some (.str u):=by rw[H,←L];simp [strs]
   have i1:=fun S k=>ic G X S k 1 (v.map I) g .i64 pre.length _ g1
   have i2:=fun S k=>ic G X S k 1 (strs (hy t)) ab .i64 pre.length _ g2
   have ah:=fun S k=>show(aH au G X).aj S k none (.bM (ai.cells (I r)))=k (I r) S from rfl
   have ak:=fun S k=>show(aH au G X).aj S k none (.bM (ai.cells (.str u)))=k (.str u) S from rfl
   have al:=fun S k=>fJ G X S k pre.length (by omega)
   have Q3:=fun(k:a1)=>gF (T:=au) (G:=G) (X:=X) (s:=aC s d F O) (k:=k) (d:=d) (j:=j) (o:=0+4) (c:=.map (.g d m)) aa (by rw[N];exact cp) ac
   have aik:=fun(k:a1)=>ii G X (S:=aC s d F O) (k:=k) (i:=2) (o:=t) (cs:=Ml) (c:=.aW 1 (strs (hy t)) ab) ad ag
   have put:=fun(k:a1)=>Mg (T:=au) (G:=G) (X:=X) (s:=aC s d F O) (k:=k) (d:=d) (m:=m) (es:=es) aa (by rw[N];exact M) (u++tail) r
   rw[N] at put;have am:=(bZ.1 M).1;have an:m≠j:=fun e=>by subst e;rw[M] at cp;cases cp
   let Q:=F.set m (.map (qs (uB (u++tail) r es)))
   obtain⟨dD,bU,ao,ap⟩:=ae (pre++[r]) y (K++[u]) Q ((u++tail,r)::e) (by rw[B];simp) (by rw[H];simp) (by simp [L]) ⟨m,_,rfl,by simp [Q,am];rfl,fun x=>by rw[vi];show _=(if x=u++tail then some r else jV e x);rw[af]⟩ (by rw[ew an];exact cp)
   refine⟨dD,?_,ao,ZN.trans ⟨fun i o bk cQ=>by rw[ew (fun e=>cQ (by rw[e]))];exact bk,by simp [Q]⟩ ap⟩;rw[Am,be,a7 (by omega),ba,KR,i1,ah,a3,aA,Q3,pn G X t 4 cB,aik,i2,ak,ZL G X u tail (by have:=ZM t cB u (by rw[H];simp);omega)];refine(put _).trans ?_;rw[ZK h,KQ,al,←bU,dm];rfl
end
section
variable{s:aq}{d j:Nat}
theorem apV(F O:List bd):(aH au G X).aB false [] (aC s d F O)=.ok (.cT []) (s.bH d F):=rfl
theorem q5.aw8{F dD:List bd}{tv cO:ai}{ts:List Nat}(h:q5 F d tv ts)(k:ZN F dD d cO)(hm:∃m es,cO=.map (.g d m)∧F[m]? =some (.map es)):q5 dD d tv ts:=by
 rcases h with h|⟨t,bU,r,u⟩
 ·exact .inl h
 ·obtain⟨m,es,rfl,y⟩:=hm;exact .inr ⟨t,bU,k.bf t _ r (fun e=>by injection e with e;injection e with H B;subst B;rw[y] at r;cases r),u⟩
theorem iI.is{F:List bd}{cO:ai}{e:aa1}(h:iI F d cO e):∃m es,cO=.map (.g d m)∧F[m]? =some (.map es):=by obtain⟨m,es,aD,aG,_⟩:=h;exact⟨m,_,aD,aG⟩
theorem ZN.cells{F dD:List bd}{cO:ai}{i:Nat}{cs:List ai}(k:ZN F dD d cO)(hm:∃m es,cO=.map (.g d m)∧F[m]? =some (.map es))(h:F[i]? =some (.cells cs)):dD[i]? =some (.cells cs):=by obtain⟨m,es,rfl,r⟩:=hm;exact k.bf i _ h (fun e=>by injection e with e;injection e with y u;subst u;rw[r] at h;cases h)
theorem Rd(h:fi s d)(cO tv:ai)(cs:List ai)(M:cs[4]? =some cO)(many:Nat→Nat)(rows:List (List Int×cd))(g:cd)(ts:List Nat)(N:∀t∈ts,t<4)(ag:ts.length<9):∀(rest pre:List (List Int×cd)) (r y:List Nat) (F:List bd) (e:aa1) (seen:Nat→Nat),rows=pre++rest→ts=y++r→y.length=pre.length→rest.length≤r.length→(∀p∈rest.zip r,p.1.1.length≤(hy p.2).length)→q5 F d tv ts→iI F d cO e→F[j]? =some (.cells cs)→(∀t,seen t≤pre.length)→
  ∃dD,qM (aH au G X) (.ref (.g d j) 0) tv (.ref (.l 0) 0) (.ref (.l 1) 0) (.ref (.l 2) 0) (.aW 1 (rows.map bA) g) (In rows.length) (In pre.length) (aC s d F [.cells (iD many),.cells (iD seen),.cells Ml])=.ok (.cT []) (s.bH d dD)∧iI dD d cO (pk many seen r (rest.map Prod.fst) e)∧ZN F dD d cO:=by
 intro rest
 induction rest with
 |nil=>
  intro pre r y F e seen aQ cB br hi io H hm cp bl;rw[gf] at aQ;subst aQ;refine⟨F,?_,?_,.refl _ _ _⟩
  ·rw[An,be,aM (by omega),bc];exact apV G X F _
  ·cases r<;> exact hm
 |cons v rest Q=>
  intro pre r y F e seen aQ cB br hi io H hm cp bl;cases r with
  |nil=>simp at hi
  |cons t r=>
   have ah:pre.length<rows.length:=by rw[aQ];simp
   have I:y.length<ts.length:=by rw[cB];simp
   have cz:t<4:=N t (by rw[cB];simp);obtain⟨v,cm⟩:=v;have R:v.length≤(hy t).length:=io ((v,cm),t) (by simp);rcases H with⟨_,kR⟩|⟨u,rfl,J,_⟩
   ·rw[kR] at I;simp at I
   ·have O:List bd:=[.cells (iD many),.cells (iD seen),.cells Ml];have g1:(rows.map bA)[pre.length]? =some (dx v cm):=by rw[aQ];simp
    have g2:(ts.map In)[pre.length]? =some (In t):=by rw[cB,←br];simp
    have i1:=fun S k=>ic G X S k 1 (rows.map bA) g .i64 pre.length _ g1
    have U:=fun S k=>show(aH au G X).aj S k none (.bM (ai.cells (dx v cm)))=k (dx v cm) S from rfl
    have V:=fun S k=>fJ G X S k pre.length (by omega)
    have as:=fun S k=>fJ G X S k (seen t) (by have:=bl t;omega)
    have Y:=fun(O:List bd) (k:a1)=>gF (T:=au) (G:=G) (X:=X) (s:=aC s d F O) (k:=k) (d:=d) (j:=u) (o:=pre.length) (c:=In t) (Fc h F O) (by rw[Fe h];exact J) g2
    let B:List bd:=[.cells (iD many),.cells (iD (hq seen t)),.cells Ml]
    have Z:hq seen t t=seen t+1:=by simp [hq]
    have aa:∀tail:List Nat,tail.length≤1→tail=(if 1<many t then[48+hq seen t t] else[])→
      ∃dD,tD (aH au G X) (.ref (.g d j) 0) (.cw (.g d u) 0 ts.length 0 1) (.ref (.l 0) 0) (.ref (.l 1) 0) (.ref (.l 2) 0) (dx v cm) (In t) (.str tail) (.aW 1 (rows.map bA) g) (In rows.length) (In pre.length) (aC s d F B)=.ok (.cT []) (s.bH d dD)∧iI dD d cO (pk many seen (t::r) (((v,cm)::rest).map Prod.fst) e)∧ZN F dD d cO:=fun tail ab ac=>by
     obtain⟨K,bU,xl,gw⟩:=Rc G X h (.cw (.g d u) 0 ts.length 0 1) (.ref (.l 0) 0) (.ref (.l 1) 0) (.aW 1 (rows.map bA) g) (In rows.length) (In pre.length) cO cs M B rfl t cz tail ab v cm R v [] (hy t) [] F e rfl rfl rfl hm cp;have ad:q5 K d (.cw (.g d u) 0 ts.length 0 1) ts:=q5.aw8 (.inr ⟨u,rfl,J,by omega⟩) gw (iI.is hm);obtain⟨ae,af,oh,hj⟩:=Q (pre++[(v,cm)]) r (y++[t]) K _ (hq seen t) (by rw[aQ];simp) (by rw[cB];simp) (by simp [br]) (by simpa using hi) (fun p aU=>io p (by simp [aU])) ad xl (ZN.cells gw (iI.is hm) cp) (fun x=>by rw[dm];unfold hq;have:=bl x;split<;> simp <;> omega)
     refine⟨ae,?_,?_,gw.trans hj⟩
     ·rw[OH,bg,b2];refine bU.trans ?_;rw[KS,V,←af,dm];rfl
     ·rw[ac] at oh;exact oh
    have key:qM (aH au G X) (.ref (.g d j) 0) (.cw (.g d u) 0 ts.length 0 1) (.ref (.l 0) 0) (.ref (.l 1) 0) (.ref (.l 2) 0) (.aW 1 (rows.map bA) g) (In rows.length) (In pre.length) (aC s d F [.cells (iD many),.cells (iD seen),.cells Ml])=tD (aH au G X) (.ref (.g d j) 0) (.cw (.g d u) 0 ts.length 0 1) (.ref (.l 0) 0) (.ref (.l 1) 0) (.ref (.l 2) 0) (dx v cm) (In t) (.str (if 1<many t then[48+hq seen t t] else[])) (.aW 1 (rows.map bA) g) (In rows.length) (In pre.length) (aC s d F B):=by
     rw[An,be,a7 (by omega),ba,OI,i1,U,uF G X ts.length 0 pre.length (by omega),Y,pn G X t 4 cz,ii G X (i:=1) rfl (qX seen t cz),as,pn G X t 4 cz];refine(uE G X (i:=1) (o:=t) (cs:=iD seen) (v:=In (seen t+1)) rfl (by simpa using cz) rfl rfl rfl).trans ?_;rw[CT seen t cz];show(aH au G X).iv (aC s d F B) _ 1 4 (.ref (.l 0) 0) (In t)=_;rw[pn G X t 4 cz,ii G X (i:=0) rfl (qX many t cz),ee];by_cases L:1<many t
     ·rw[a7 (by omega),ba,if_pos L,pn G X t 4 cz,ii G X (i:=1) rfl (qX (hq seen t) t cz)];exact aK (apU G X _ _ (by rw[Z];have:=bl t;omega))
     ·rw[aM (by omega),bc,if_neg L]
    rw[key];exact aa _ (by split<;> simp) rfl
end
section
variable{s:aq}{d j:Nat}{A:cj}{cO:ai}{ck cm b5:cd}
def ds(alike:Bool)(ts:List Nat):List Nat:=if alike=true then ts.map (fun _=>1) else ts
theorem Re(v1 tv:ai)(F:List bd)(h r:bd)(rows:List (List Int×cd))(g:cd)(bG:v1=.aW 1 (rows.map bA) g):xC (aH au G X) (.ref (.g d j) 0) v1 tv (.ref (.l 0) 0) (.ref (.l 1) 0) (aC s d F [h,r])=qM (aH au G X) (.ref (.g d j) 0) tv (.ref (.l 0) 0) (.ref (.l 1) 0) (.ref (.l 2) 0) v1 (In rows.length) (.int .i64 0) (aC s d F [h,r,.cells Ml]):=by
 rw[OJ,bG];have e:(In rows.length)=(.int .i64 ((rows.map bA).length:Int)):=by rw[b2]
 rw[e];rfl
theorem q5.len{F:List bd}{tv:ai}{ts:List Nat}(h:q5 F d tv ts)(S:aq)(k:a1):(aH au G X).aY S k false tv=k (In ts.length) S:=by rcases h with⟨rfl,rfl⟩|⟨t,rfl,_,_⟩<;> rfl
theorem ZO(h:fi s d)(B:iy (s.cA d) d j A cO ck cm b5){tv:ai}{ts:List Nat}(J:q5 (s.cA d) d tv ts)(V:aa2 d j tv)(rows:List (List Int×cd))(g:cd)(alike:Bool)(aJ:ts.length<9)(cz:∀t∈ts,t<4)(br:rows.length≤ts.length)(io:∀p∈rows.zip (ds alike ts),p.1.1.length≤(hy p.2).length):
  ∃dD y,az au G X 44 [.ref (.g d j) 0,.aW 1 (rows.map bA) g,tv,.bool alike] s=.ok (.cT []) (s.bH d dD)∧mI d j y cm b5 (s.bH d dD) {A with env:=qw (ds alike ts) (rows.map Prod.fst)} ck∧
   (∀i o,(s.cA d)[i]? =some o→i≠j→aa2 d i tv→dD[i]? =some o)∧(s.cA d).length≤dD.length∧q5 dD d tv (ds alike ts)∧(∀i,i<(s.cA d).length→y≠.map (.g d i)):=by
 have he:=h.af;have cQ:d≠s.af.aa:=by have:=h.bk;have:=f6 s;omega
 have bq:=fp h
 let n:=(s.cA d).length
 let y:ai:=.map (.g d n)
 let u:List bd:=s.cA d++[.map []]
 have am:j<n:=(bZ.1 B.c).1;have Y:u[j]? =some (.cells (A.cells cO ck cm b5)):=by exact(ev am).trans B.c
 have an:∀(i:Nat) (o:bd),(s.cA d)[i]? =some o→u[i]? =some o:=fun i o I=>by exact(ev (bZ.1 I).1).trans I
 let r:=u.set j (.cells (A.cells y ck cm b5))
 have mk:=fun k:a1=>Q0 (T:=au) (G:=G) (X:=X) (k:=k) (i:=j) he cQ
 rw[bq] at mk;have ao:fi (s.af.bH d u) d:=he.put d u;have Z:(s.af.bH d u).cA d=u:=cv he u;have ez:=fun k:a1=>jR (T:=au) (G:=G) (X:=X) (k:=k) ao (by rw[Z];exact Y) (o:=0+4) (v:=y) (by simp [cj.cells]) rfl rfl rfl (.inr (dN (aX d)))
 rw[Z,gr] at ez;have ab:∀(i:Nat) (o:bd),(s.cA d)[i]? =some o→i≠j→r[i]? =some o:=fun i o I N=>by rw[ew (Ne.symm N)];exact an i o I
 have ap:j<u.length:=(bZ.1 Y).1;have ar:r[j]? =some (.cells (A.cells y ck cm b5)):=by simp [r,ap]
 have as:q5 r d tv ts:=by
  rcases J with aD|⟨t,rfl,aG,bz⟩
  ·exact .inl aD
  ·exact .inr ⟨t,rfl,ab t _ aG (fun e=>V _ _ _ (by rw[e])),bz⟩
 have av:r[n]? =some (.map []):=by rw[ew (by omega)];simp [u,n]
 obtain⟨K,aw,t3,O,ax⟩:=Rb G X (j:=j) h (.aW 1 (rows.map bA) g) alike tv ts.length [.cells (iD fun _=>0)] ts [] r (fun _=>0) as rfl (by omega) cz (fun _=>Nat.zero_le _);have ay:aa2 d n tv:=fun a b c e=>by
  rcases J with⟨aD,_⟩|⟨t,aD,aG,_⟩
  ·rw[aD] at e;cases e
  ·rw[aD] at e;injection e with e;injection e with ac Q
   have:=(bZ.1 aG).1;omega
 have ad:=O j _ ar V;have ae:=O n _ av ay;have ag:q5 K d tv (ds alike ts):=t3;have aK:(ds alike ts).length=ts.length:=by unfold ds;split<;> simp
 have aB:∀t∈ds alike ts,t<4:=fun t cB=>by
  unfold ds at cB;split at cB
  ·simp at cB;obtain⟨_,_,rfl⟩:=cB;decide
  ·exact cz t cB
 obtain⟨L,ac,aE,M⟩:=Rd G X (j:=j) h y tv (A.cells y ck cm b5) rfl (jW (ds alike ts) fun _=>0) rows g (ds alike ts) aB (by omega) rows [] (ds alike ts) [] K [] (fun _=>0) rfl rfl rfl (by omega) io ag ⟨n,[],rfl,ae,fun _=>rfl⟩ ad (fun _=>Nat.zero_le _);have ah:∃m es,y=.map (.g d m)∧K[m]? =some (.map es):=⟨n,[],rfl,ae⟩;have aj:∀(i:Nat) (o:bd),(s.cA d)[i]? =some o→i≠j→aa2 d i tv→L[i]? =some o:=fun i o I N aF=>M.bf i o (O i o (ab i o I N) aF) (fun e=>by
  injection e with e;injection e with Q R
  have:=(bZ.1 I).1;omega)
 have U:∀g m,ct (s.cA d) d g m→ct L d g m:=fun g m bD=>ct.bf bD (fun t e=>by
  have cB:=(ct.le (e ▸ bD)).1;rw[cB];refine aj t _ cB (fun H=>by subst H;rw[B.c] at cB;cases cB) (fun a b c H=>?_);rcases J with⟨aD,_⟩|⟨abh,aD,aG,_⟩
  ·rw[aD] at H;cases H
  ·rw[aD] at H;injection H with H;injection H with Q R;subst R;rw[aG] at cB;cases cB)
 have ak:=cv h L;refine⟨L,y,?_,⟨h.put _ _,?_,?_⟩,aj,?_,ag.aw8 M ah,fun i bk e=>by injection e with e;injection e with Q R;omega⟩
 ·rw[aaz,apu];refine(mk _).trans ?_;rw[a3,aA];refine(ez _).trans ?_;rw[gI,gI,q5.len G X J];have aH:((s.af.bH d r).new (.cells [.int .i64 0,.int .i64 0,.int .i64 0,.int .i64 0])).new (.cells [.int .i64 0,.int .i64 0,.int .i64 0,.int .i64 0])=aC s d r [.cells (iD fun _=>0),.cells (iD fun _=>0)]:=by
   rw[←h2 h];rfl
  have al:(s.af.bH d r).own.length=0:=by rw[aaZ cQ];rfl
  have aI:((s.af.bH d r).new (.cells [.int .i64 0,.int .i64 0,.int .i64 0,.int .i64 0])).own.length=1:=by simp only[aq.new,dm,al];rfl
  show qN _ _ _ _ _ (.ref (.l (s.af.bH d r).own.length) 0) (.ref (.l ((s.af.bH d r).new (.cells [.int .i64 0,.int .i64 0,.int .i64 0,.int .i64 0])).own.length) 0) _ _ _ (((s.af.bH d r).new (.cells [.int .i64 0,.int .i64 0,.int .i64 0,.int .i64 0])).new (.cells [.int .i64 0,.int .i64 0,.int .i64 0,.int .i64 0]))=_;rw[al,aI,aH];refine aw.trans ?_;rw[Re G X _ tv K _ _ rows g rfl];exact ac
 ·rw[ak];exact⟨M.cells ah ad,U _ _ B.Bj,U _ _ B.Q1,U _ _ B.wr,B.ai0,B.ai1,B.qJ⟩
 ·rw[ak];exact aE
 ·rw[M.len,ax];show _≤r.length;simp [r,u]
end
end Go.h6
end
section
namespace Go.h6
open Go.Ab Go.hd
def eu:Nat→Bool→List (List Nat×List Nat)
 |2,true=>[([116],[105,110]),([109],[49,32,43,32,116,94,50]),([107],[49,32,45,32,116,94,50]),([100,120],[50,32,117,32,97,120,32,43,32,112,32,97,122]),([100,121],[50,32,117,32,97,121,32,43,32,113,32,97,122])]
 |1,_=>[([120,120],[105,110]),([121,121],[105,110])]
 |2,_=>[([116],[105,110]),([110],[97,94,50,32,43,32,98,94,50])]
 |5,_=>[([119],[122,50,32,122,51]),([101,120],[120,51,32,122,50,32,45,32,120,50,32,122,51]),([101,121],[121,51,32,122,50,32,45,32,121,50,32,122,51]),([100],[101,120,94,50,32,43,32,101,121,94,50]),([118],[119,94,50]),([103],[122,49,94,50])]
 |6,_=>[([119],[122,50,32,122,51]),([101,120],[120,51,32,122,50,32,45,32,120,50,32,122,51]),([101,121],[121,51,32,122,50,32,45,32,121,50,32,122,51]),([100],[101,120,94,50,32,43,32,101,121,94,50]),([118],[119,94,50]),([103],[122,49,94,50])]
 |7,_=>[([115,49],[120,49,94,50,32,43,32,121,49,94,50]),([102,49],[120,49,32,122,49]),([103,49],[121,49,32,122,49]),([104,49],[122,49,94,50]),([115,50],[120,50,94,50,32,43,32,121,50,94,50]),([102,50],[120,50,32,122,50]),([103,50],[121,50,32,122,50]),([104,50],[122,50,94,50]),([115,51],[120,51,94,50,32,43,32,121,51,94,50]),([102,51],[120,51,32,122,51]),([103,51],[121,51,32,122,51]),([104,51],[122,51,94,50])]
 |8,_=>[([110],[97,94,50,32,43,32,98,94,50]),([107],[50,32,117,32,99,32,45,32,97,32,112,32,45,32,98,32,113]),([100],[112,94,50,32,43,32,113,94,50,32,45,32,52,32,117,32,114]),([115],[33,110,32,100,32,45,32,107,94,50])]
 |9,_=>[([97],[117,50,32,112,49,32,45,32,117,49,32,112,50]),([98],[117,50,32,113,49,32,45,32,117,49,32,113,50]),([99],[117,50,32,114,49,32,45,32,117,49,32,114,50]),([117],[117,49]),([112],[112,49]),([113],[113,49]),([114],[114,49]),([110],[97,94,50,32,43,32,98,94,50]),([107],[50,32,117,32,99,32,45,32,97,32,112,32,45,32,98,32,113]),([100],[112,94,50,32,43,32,113,94,50,32,45,32,52,32,117,32,114]),([115],[33,110,32,100,32,45,32,107,94,50])]
 |10,_=>[([111],[48])]
 |11,_=>[([111],[48]),([101],[111,32,45,32,98])]
 |13,_=>[([110],[97,94,50,32,43,32,98,94,50]),([107],[97,32,120,32,43,32,98,32,121,32,43,32,99,32,122])]
 |14,_=>[([118,120],[120,49,32,122,50,32,45,32,120,50,32,122,49]),([118,121],[121,49,32,122,50,32,45,32,121,50,32,122,49]),([119,120],[120,51,32,122,50,32,45,32,120,50,32,122,51]),([119,121],[121,51,32,122,50,32,45,32,121,50,32,122,51]),([118],[118,120,94,50,32,43,32,118,121,94,50]),([119],[119,120,94,50,32,43,32,119,121,94,50]),([115],[33,118,32,119]),([100,120],[119,32,118,120,32,43,32,115,32,119,120]),([100,121],[119,32,118,121,32,43,32,115,32,119,121])]
 |15,_=>[([97],[50,32,117,32,120,32,43,32,112,32,122]),([98],[50,32,117,32,121,32,43,32,113,32,122]),([99],[112,32,120,32,43,32,113,32,121,32,43,32,50,32,114,32,122]),([110],[97,94,50,32,43,32,98,94,50]),([107],[50,32,117,32,99,32,45,32,97,32,112,32,45,32,98,32,113]),([100],[112,94,50,32,43,32,113,94,50,32,45,32,52,32,117,32,114]),([115],[33,110,32,100,32,45,32,107,94,50]),([116,120],[45,110,32,112,32,45,32,107,32,97,32,45,32,115,32,98]),([116,121],[45,110,32,113,32,45,32,107,32,98,32,43,32,115,32,97]),([116,122],[50,32,110,32,117])]
 |_,_=>[]
def fB:Nat→Bool→List (List Nat)
 |2,true=>[[45,112,32,97,122,32,109,32,43,32,107,32,100,120,32,45,32,50,32,116,32,100,121],[45,113,32,97,122,32,109,32,43,32,50,32,116,32,100,120,32,43,32,107,32,100,121],[50,32,117,32,97,122,32,109]]
 |1,_=>[[120,120],[121,121],[49]]
 |2,_=>[[45,97,32,99,32,45,32,116,32,98,32,110],[45,98,32,99,32,43,32,116,32,97,32,110],[110]]
 |3,_=>[[121,49,32,122,50,32,45,32,122,49,32,121,50],[122,49,32,120,50,32,45,32,120,49,32,122,50],[120,49,32,121,50,32,45,32,121,49,32,120,50]]
 |4,_=>[[121,49,32,122,50,32,45,32,122,49,32,121,50],[122,49,32,120,50,32,45,32,120,49,32,122,50],[120,49,32,121,50,32,45,32,121,49,32,120,50]]
 |5,_=>[[103,32,118],[45,50,32,120,49,32,122,49,32,118],[45,50,32,121,49,32,122,49,32,118],[40,120,49,94,50,32,43,32,121,49,94,50,41,32,118,32,45,32,103,32,100],[120,49,32,119,32,43,32,122,49,32,101,120],[121,49,32,119,32,43,32,122,49,32,101,121],[122,49,32,119]]
 |6,_=>[[103,32,118],[45,50,32,120,49,32,122,49,32,118],[45,50,32,121,49,32,122,49,32,118],[40,120,49,94,50,32,43,32,121,49,94,50,41,32,118,32,45,32,103,32,100],[120,49,32,119,32,43,32,122,49,32,101,120],[121,49,32,119,32,43,32,122,49,32,101,121],[122,49,32,119]]
 |7,_=>[[102,49,32,40,103,50,32,104,51,32,45,32,104,50,32,103,51,41,32,45,32,103,49,32,40,102,50,32,104,51,32,45,32,104,50,32,102,51,41,32,43,32,104,49,32,40,102,50,32,103,51,32,45,32,103,50,32,102,51,41],[45,40,115,49,32,40,103,50,32,104,51,32,45,32,104,50,32,103,51,41,32,45,32,103,49,32,40,115,50,32,104,51,32,45,32,104,50,32,115,51,41,32,43,32,104,49,32,40,115,50,32,103,51,32,45,32,103,50,32,115,51,41,41],[115,49,32,40,102,50,32,104,51,32,45,32,104,50,32,102,51,41,32,45,32,102,49,32,40,115,50,32,104,51,32,45,32,104,50,32,115,51,41,32,43,32,104,49,32,40,115,50,32,102,51,32,45,32,102,50,32,115,51,41],[45,40,115,49,32,40,102,50,32,103,51,32,45,32,103,50,32,102,51,41,32,45,32,102,49,32,40,115,50,32,103,51,32,45,32,103,50,32,115,51,41,32,43,32,103,49,32,40,115,50,32,102,51,32,45,32,102,50,32,115,51,41,41],[120,49],[121,49],[122,49]]
 |8,_=>[[45,110,32,112,32,45,32,107,32,97,32,45,32,115,32,98],[45,110,32,113,32,45,32,107,32,98,32,43,32,115,32,97],[50,32,110,32,117]]
 |9,_=>[[45,110,32,112,32,45,32,107,32,97,32,45,32,115,32,98],[45,110,32,113,32,45,32,107,32,98,32,43,32,115,32,97],[50,32,110,32,117]]
 |10,_=>[[121,32,111,32,45,32,122,32,98],[122,32,97,32,45,32,120,32,111],[120,32,98,32,45,32,121,32,97]]
 |11,_=>[[121,32,111,32,45,32,122,32,97],[122,32,101,32,45,32,120,32,111],[120,32,97,32,45,32,121,32,101]]
 |12,_=>[[120,49,32,122,50,32,43,32,120,50,32,122,49],[121,49,32,122,50,32,43,32,121,50,32,122,49],[50,32,122,49,32,122,50]]
 |13,_=>[[110,32,120,32,45,32,50,32,97,32,107],[110,32,121,32,45,32,50,32,98,32,107],[110,32,122]]
 |14,_=>[[45,122,50,32,100,121],[122,50,32,100,120],[120,50,32,100,121,32,45,32,121,50,32,100,120]]
 |15,_=>[[50,32,117,32,116,120,32,43,32,112,32,116,122],[50,32,117,32,116,121,32,43,32,113,32,116,122],[112,32,116,120,32,43,32,113,32,116,121,32,43,32,50,32,114,32,116,122]]
 |_,_=>[[45,112],[45,113],[50,32,117]]
def okF(r:ao)(D:List (List Nat×List Nat))(C:List (List Nat)):Bool:=
 match r with
 |.ok (.agg [.aW 1 a g1,.aW 1 b g2]) _=>ai.lp a (dV D)&&ai.lp b (strs C)&&(ai.agg [.aW 1 a g1,.aW 1 b g2]).bp
 |_=>false
theorem ZP{r:ao}{D:List (List Nat×List Nat)}{C:List (List Nat)}(h:okF r D C=true):∃g1 g2 s',r=.ok (.agg [.aW 1 (dV D) g1,.aW 1 (strs C) g2]) s'∧(ai.agg [.aW 1 (dV D) g1,.aW 1 (strs C) g2]).bp=true:=by
 unfold okF at h;split at h
 ·rename_i a g1 b g2 s';simp only[bL] at h;obtain⟨⟨aD,aG⟩,bz⟩:=h;have bU:=(ai.iV _ _).1 aD;have e:=(ai.iV _ _).1 aG;subst bU;subst e;exact⟨g1,g2,s',rfl,bz⟩
 ·cases h
variable(G:Nat→ai)(X:Nat→List ai→aq→ao)
theorem aiv(op:Nat)(c:Bool)(h:okF (call .not au G X 60 46 [In op,.bool c] {own:=[],up:=[],ro:=[]}) (eu op c) (fB op c)=true):∃g1 g2 s',az au G X 46 [In op,.bool c] {own:=[],up:=[],ro:=[]}=.ok (.agg [.aW 1 (dV (eu op c)) g1,.aW 1 (strs (fB op c)) g2]) s'∧(ai.agg [.aW 1 (dV (eu op c)) g1,.aW 1 (strs (fB op c)) g2]).bp=true:=by obtain⟨g1,g2,s',aD,aG⟩:=ZP h;exact⟨g1,g2,s',lC _ _ _ (by intro e;cases e) aD,aG⟩
theorem Ff:okF (call .not au G X 60 46 [In 1,.bool false] {own:=[],up:=[],ro:=[]}) (eu 1 false) (fB 1 false)=true:=by kernel_rfl
theorem Mm:okF (call .not au G X 60 46 [In 1,.bool true] {own:=[],up:=[],ro:=[]}) (eu 1 true) (fB 1 true)=true:=by kernel_rfl
theorem Fg:okF (call .not au G X 60 46 [In 2,.bool false] {own:=[],up:=[],ro:=[]}) (eu 2 false) (fB 2 false)=true:=by kernel_rfl
theorem Mn:okF (call .not au G X 60 46 [In 2,.bool true] {own:=[],up:=[],ro:=[]}) (eu 2 true) (fB 2 true)=true:=by kernel_rfl
theorem Fh:okF (call .not au G X 60 46 [In 3,.bool false] {own:=[],up:=[],ro:=[]}) (eu 3 false) (fB 3 false)=true:=by kernel_rfl
theorem Mo:okF (call .not au G X 60 46 [In 3,.bool true] {own:=[],up:=[],ro:=[]}) (eu 3 true) (fB 3 true)=true:=by kernel_rfl
theorem Fi:okF (call .not au G X 60 46 [In 4,.bool false] {own:=[],up:=[],ro:=[]}) (eu 4 false) (fB 4 false)=true:=by kernel_rfl
theorem Mp:okF (call .not au G X 60 46 [In 4,.bool true] {own:=[],up:=[],ro:=[]}) (eu 4 true) (fB 4 true)=true:=by kernel_rfl
theorem Fj:okF (call .not au G X 60 46 [In 5,.bool false] {own:=[],up:=[],ro:=[]}) (eu 5 false) (fB 5 false)=true:=by kernel_rfl
theorem Mq:okF (call .not au G X 60 46 [In 5,.bool true] {own:=[],up:=[],ro:=[]}) (eu 5 true) (fB 5 true)=true:=by kernel_rfl
theorem Fk:okF (call .not au G X 60 46 [In 6,.bool false] {own:=[],up:=[],ro:=[]}) (eu 6 false) (fB 6 false)=true:=by kernel_rfl
theorem Mr:okF (call .not au G X 60 46 [In 6,.bool true] {own:=[],up:=[],ro:=[]}) (eu 6 true) (fB 6 true)=true:=by kernel_rfl
theorem Fl:okF (call .not au G X 60 46 [In 7,.bool false] {own:=[],up:=[],ro:=[]}) (eu 7 false) (fB 7 false)=true:=by kernel_rfl
theorem Ms:okF (call .not au G X 60 46 [In 7,.bool true] {own:=[],up:=[],ro:=[]}) (eu 7 true) (fB 7 true)=true:=by kernel_rfl
theorem Fm:okF (call .not au G X 60 46 [In 8,.bool false] {own:=[],up:=[],ro:=[]}) (eu 8 false) (fB 8 false)=true:=by kernel_rfl
theorem Mt:okF (call .not au G X 60 46 [In 8,.bool true] {own:=[],up:=[],ro:=[]}) (eu 8 true) (fB 8 true)=true:=by kernel_rfl
theorem Fo:okF (call .not au G X 60 46 [In 9,.bool false] {own:=[],up:=[],ro:=[]}) (eu 9 false) (fB 9 false)=true:=by kernel_rfl
theorem Mu:okF (call .not au G X 60 46 [In 9,.bool true] {own:=[],up:=[],ro:=[]}) (eu 9 true) (fB 9 true)=true:=by kernel_rfl
theorem B8:okF (call .not au G X 60 46 [In 10,.bool false] {own:=[],up:=[],ro:=[]}) (eu 10 false) (fB 10 false)=true:=by kernel_rfl
theorem Fp:okF (call .not au G X 60 46 [In 10,.bool true] {own:=[],up:=[],ro:=[]}) (eu 10 true) (fB 10 true)=true:=by kernel_rfl
theorem B9:okF (call .not au G X 60 46 [In 11,.bool false] {own:=[],up:=[],ro:=[]}) (eu 11 false) (fB 11 false)=true:=by kernel_rfl
theorem Fq:okF (call .not au G X 60 46 [In 11,.bool true] {own:=[],up:=[],ro:=[]}) (eu 11 true) (fB 11 true)=true:=by kernel_rfl
theorem Ca:okF (call .not au G X 60 46 [In 12,.bool false] {own:=[],up:=[],ro:=[]}) (eu 12 false) (fB 12 false)=true:=by kernel_rfl
theorem Fs:okF (call .not au G X 60 46 [In 12,.bool true] {own:=[],up:=[],ro:=[]}) (eu 12 true) (fB 12 true)=true:=by kernel_rfl
theorem Cb:okF (call .not au G X 60 46 [In 13,.bool false] {own:=[],up:=[],ro:=[]}) (eu 13 false) (fB 13 false)=true:=by kernel_rfl
theorem Ft:okF (call .not au G X 60 46 [In 13,.bool true] {own:=[],up:=[],ro:=[]}) (eu 13 true) (fB 13 true)=true:=by kernel_rfl
theorem Cc:okF (call .not au G X 60 46 [In 14,.bool false] {own:=[],up:=[],ro:=[]}) (eu 14 false) (fB 14 false)=true:=by kernel_rfl
theorem Fu:okF (call .not au G X 60 46 [In 14,.bool true] {own:=[],up:=[],ro:=[]}) (eu 14 true) (fB 14 true)=true:=by kernel_rfl
theorem Cd:okF (call .not au G X 60 46 [In 15,.bool false] {own:=[],up:=[],ro:=[]}) (eu 15 false) (fB 15 false)=true:=by kernel_rfl
theorem Fv:okF (call .not au G X 60 46 [In 15,.bool true] {own:=[],up:=[],ro:=[]}) (eu 15 true) (fB 15 true)=true:=by kernel_rfl
theorem Ce:okF (call .not au G X 60 46 [In 16,.bool false] {own:=[],up:=[],ro:=[]}) (eu 16 false) (fB 16 false)=true:=by kernel_rfl
theorem Fw:okF (call .not au G X 60 46 [In 16,.bool true] {own:=[],up:=[],ro:=[]}) (eu 16 true) (fB 16 true)=true:=by kernel_rfl
theorem apW(op:Nat)(c:Bool)(aD:1≤op)(aG:op≤16):∃g1 g2 s',az au G X 46 [In op,.bool c] {own:=[],up:=[],ro:=[]}=.ok (.agg [.aW 1 (dV (eu op c)) g1,.aW 1 (strs (fB op c)) g2]) s'∧(ai.agg [.aW 1 (dV (eu op c)) g1,.aW 1 (strs (fB op c)) g2]).bp=true:=by
 have h:op=1∨op=2∨op=3∨op=4∨op=5∨op=6∨op=7∨op=8∨op=9∨op=10∨op=11∨op=12∨op=13∨op=14∨op=15∨op=16:=by omega
 refine aiv G X op c ?_;rcases h with rfl |rfl |rfl |rfl |rfl |rfl |rfl |rfl |rfl |rfl |rfl |rfl |rfl |rfl |rfl |rfl <;> cases c
 ·exact Ff G X
 ·exact Mm G X
 ·exact Fg G X
 ·exact Mn G X
 ·exact Fh G X
 ·exact Mo G X
 ·exact Fi G X
 ·exact Mp G X
 ·exact Fj G X
 ·exact Mq G X
 ·exact Fk G X
 ·exact Mr G X
 ·exact Fl G X
 ·exact Ms G X
 ·exact Fm G X
 ·exact Mt G X
 ·exact Fo G X
 ·exact Mu G X
 ·exact B8 G X
 ·exact Fp G X
 ·exact B9 G X
 ·exact Fq G X
 ·exact Ca G X
 ·exact Fs G X
 ·exact Cb G X
 ·exact Ft G X
 ·exact Cc G X
 ·exact Fu G X
 ·exact Cd G X
 ·exact Fv G X
 ·exact Ce G X
 ·exact Fw G X
end Go.h6
end
section
namespace Go.h6
open Go.Ab Go.hd
variable(G:Nat→ai)(X:Nat→List ai→aq→ao)
instance:Inhabited iT:=⟨⟨false,[],.nil⟩⟩
instance:Inhabited aO:=⟨⟨[],0,[],.nil,default,default,default,default,0⟩⟩
def fS(l:List aO)(i:Int):Int:=if dy l≠0 then dy l else if i<0∨(l.length:Int)≤i then 1 else 0
section
variable(l:List aO)(g:cd)(bD:∀a,g≠.bQ a)(br:l.length<9223372036854775806)(b6:∀o,o∈l→mh o)(i:Int)(s:aq)
include bD br b6
theorem apX:az au G X 73 [bP l g,I i] s=.ok (I (fS l i)) s:=by
 have c:=aK (T:=au) (G:=G) (X:=X) (s:=s.af) (k:=fun e s=>(aH au G X).ah s (fun r s=>(aH au G X).ay r ((aH au G X).aB false [some e] s) (EJ (aH au G X) (bP l g) (I i) s)) (al .neq e (.int .i64 0))) (x0 G X l g bD s.af br b6);have aU:ai.ak s.af.aa (bP l g)=bP l g:=du l bD _;rw[aat,apn,aU];refine c.trans ?_;rw[dC];unfold fS;by_cases h:dy l=0
 ·rw[aM (by simp [h]),bc,if_neg (by simp [h]),Ot,be];by_cases aD:i<0
  ·rw[a7 aD,if_pos (.inl aD)];simp only[ej,cR,ba];exact b1 _ _
  ·rw[aM aD];simp only[de,bg,b2,fG,df];by_cases aG:(l.length:Int)≤i
   ·rw[a7 aG,ba,if_pos (.inr aG)];exact b1 _ _
   ·rw[aM aG,bc,if_neg (by omega),Oq];exact b1 _ _
 ·rw[a7 h,ba,if_pos h];exact b1 _ _
theorem aiw:az au G X 106 [bP l g,I i] s=.ok (I (fS l i)) s:=by
 have aU:ai.ak s.af.aa (bP l g)=bP l g:=du l bD _;rw[P8,agZ,aU];refine(aK (x1 G X l g bD s.af br b6)).trans ?_;rw[bi];unfold fS;by_cases h:dy l=0
 ·rw[a7 h,if_neg (by simp [h])];simp only[dP,be];by_cases aD:i<0
  ·rw[a7 aD,if_pos (.inl aD)];simp only[ej,cR,ba];exact b1 _ _
  ·rw[aM aD];simp only[de,bg,b2,fG,df,cR];by_cases aG:(l.length:Int)≤i
   ·rw[a7 aG,ba,if_pos (.inr aG)];exact b1 _ _
   ·rw[aM aG,bc,if_neg (by omega),wz,h];exact b1 _ _
 ·rw[aM h,if_pos h];simp -implicitDefEqProofs only[fh,eG,df,bc];rw[wz];exact b1 _ _
theorem ZQ:az au G X 43 [bP l g,I i] s=.ok (if fS l i=0 then .cT [I (dg (l.getD i.toNat default).op),I 0] else .cT [I 0,I (fS l i)]) s:=by
 have aU:=du l bD s.af.aa;rw[aal,apf,aU];refine(aK (apX G X l g bD br b6 i s.af)).trans ?_;rw[dC];by_cases h:fS l i=0
 ·rw[aM (by simp [h]),bc,if_pos h,N4];have bk:0≤i∧i<(l.length:Int):=by
   unfold fS at h;split at h
   ·rename_i aG;exact absurd h aG
   ·split at h
    ·cases h
    ·rename_i bz;omega
  obtain⟨n,rfl⟩:=Int.eq_ofNat_of_zero_le bk.1;have bX:n<l.length:=by omega
  have bU:(l.map aO.enc)[n]? =some (l[n]).enc:=by simp [bX]
  have e:=fun(k:a1)=>iw (T:=au) (G:=G) (X:=X) (s:=s.af) (k:=k) 12 _ g .i64 n _ bU
  have r:∀K:a1,(aH au G X).aj s.af K (some 12) (.bM (ai.cells (l[n]).enc))=K (l[n]).enc s.af:=fun K=>rfl
  have u:ai.ak s.af.aa (l[n]).enc=(l[n]).enc:=rfl;rw[e,r,u];refine(aK (E5 G X (l[n]) s.af)).trans ?_
  have:l.getD (n:Int).toNat default=l[n]:=by simp [List.getD,bX]
  rw[this];exact h0 (Child.af s) _ _ _ _ rfl rfl
 ·rw[a7 h,ba,if_neg h];exact h0 (Child.af s) _ _ _ _ rfl rfl
theorem ZR:az au G X 65 [bP l g,I i] s=.ok (if fS l i=0 then .cT [I (dg (l.getD i.toNat default).op),I 0] else .cT [I 0,I (fS l i)]) s:=by
 have aU:=du l bD s.af.aa;rw[aap,apj,aU];refine(aK (aiw G X l g bD br b6 i s.af)).trans ?_;rw[dC];by_cases h:fS l i=0
 ·rw[aM (by simp [h]),bc,if_pos h,Og];have bk:0≤i∧i<(l.length:Int):=by
   unfold fS at h;split at h
   ·rename_i aG;exact absurd h aG
   ·split at h
    ·cases h
    ·rename_i bz;omega
  obtain⟨n,rfl⟩:=Int.eq_ofNat_of_zero_le bk.1;have bX:n<l.length:=by omega
  have bU:(l.map aO.enc)[n]? =some (l[n]).enc:=by simp [bX]
  have e:=fun(k:a1)=>iw (T:=au) (G:=G) (X:=X) (s:=s.af) (k:=k) 12 _ g .i64 n _ bU
  have r:∀K:a1,(aH au G X).aj s.af K none (.bM (List.drop 1 (ai.cells (l[n]).enc)))=K (I (l[n]).op) s.af:=fun K=>rfl
  rw[e,c3,r];refine(aK (E4 G X (l[n]).op s.af)).trans ?_
  have:l.getD (n:Int).toNat default=l[n]:=by simp [List.getD,bX]
  rw[this];exact h0 (Child.af s) _ _ _ _ rfl rfl
 ·rw[a7 h,ba,if_neg h];exact h0 (Child.af s) _ _ _ _ rfl rfl
end
def eT(l:List aO)(a:Int):Nat:=(dg (l.getD a.toNat default).op).toNat
def a4(aF:List (List Int×cd))(as:List Int):List (List Int×cd):=as.map fun a=>aF.getD a.toNat ([],.nil)
def stepT(l:List aO)(x:aO):List Nat:=if x.op=5 then x.args.map (eT l)++[1] else x.args.map (eT l)
def gu(aF:List (List Int×cd))(x:aO):List (List Int×cd):=
 if x.op=5 then[(a4 aF x.args).getD 0 ([],.nil),(a4 aF x.args).getD 0 ([],.nil),(a4 aF x.args).getD 1 ([],.nil)] else a4 aF x.args
def kA(ts:List Nat):Bool:=decide (ts.head?=some 3)
def c6(op:Nat)(c:Bool):List (List Nat×jc):=(fK 400 (eu op c)).getD []
def f8(op:Nat)(c:Bool):List g9:=(j3 400 (fB op c)).getD []
def iJ(l:List aO)(x:aO)(A:cj):cj:={A with env:=qw (ds (decide (x.op=4)) (stepT l x)) ((gu A.aF x).map Prod.fst)}
def fL(l:List aO)(x:aO)(A:cj):cj×List Int:=dS (f8 x.op.toNat (kA (stepT l x))) (cC (c6 x.op.toNat (kA (stepT l x))) (iJ l x A))
def lH(l:List aO)(x:aO)(A:cj):cj:={(fL l x A).1 with aF:=(fL l x A).1.aF++[((fL l x A).2,eR (fL l x A).2)]}
theorem lV(op:Nat)(c:Bool)(aD:1≤op)(aG:op≤16):fK 400 (eu op c)=some (c6 op c)∧j3 400 (fB op c)=some (f8 op c):=by
 have t:∀op,op<17→1≤op→∀c:Bool,(fK 400 (eu op c)).isSome=true∧(j3 400 (fB op c)).isSome=true:=by decide +kernel
 obtain⟨t1,t2⟩:=t op (by omega) aD c;unfold c6 f8;rw[Option.isSome_iff_exists] at t1 t2;obtain⟨a,e⟩:=t1;obtain⟨b,h⟩:=t2;rw[e,h];exact⟨rfl,rfl⟩
theorem lW(op:Nat)(c:Bool)(aD:1≤op)(aG:op≤16):e1 (c6 op c)≤200∧j4 (f8 op c)≤200∧(eu op c).length≤30∧(fB op c).length≤7∧(∀p∈eu op c,p.2.length<1000)∧(∀p∈fB op c,p.length<1000):=by
 have t:∀op,op<17→1≤op→∀c:Bool,e1 (c6 op c)≤200∧j4 (f8 op c)≤200∧(eu op c).length≤30∧(fB op c).length≤7∧(∀p∈eu op c,p.2.length<1000)∧(∀p∈fB op c,p.length<1000):=by decide +kernel
 exact t op (by omega) aD c
def nU(t:Nat):Nat:=if t=3 then 7 else 3
theorem aix(op:Nat)(c:Bool)(aD:1≤op)(aG:op≤16):(f8 op c).length=nU (dg op).toNat:=by
 have t:∀op:Nat,op<17→1≤op→∀c:Bool,(f8 op c).length=nU (dg op).toNat:=by decide +kernel
 exact t op (by omega) aD c
theorem vp:∀(E:List g9) (A:cj),(dS E A).2.length=E.length
 |[],A=>rfl
 |e::l,A=>by rw[dS];simp [vp l]
theorem CU(t:Nat)(h:t=1∨t=2∨t=3):(hy t).length=nU t:=by rcases h with rfl |rfl |rfl <;> rfl
structure gi (F0 F:List bd):Prop where
 len:F0.length≤F.length
 bf:∀(i:Nat) (o:bd),F0[i]? =some o→F[i]? =some o
theorem gi.refl(F:List bd):gi F F:=⟨aX _,fun _ _ h=>h⟩
def nv(ai2:Nat)(F:List bd)(v:ai)(ts:List Nat):Prop:=(v=.aW 1 [] .nil∧ts=[])∨∃t,v=.cw (.l t) 0 ts.length 0 1∧F[t]? =some (.cells (ts.map In))∧0<ts.length∧ai2≤t
structure Mv (ai2:Nat) (S:aq) (g:cd) (n:Nat):Prop where
 b5:gW S g n
 eQ:∀t:Nat,g=cd.bQ (.l t)→ai2≤t
section
variable{S:aq}{F0:List bd}
theorem Mv.app{es:List ai}{g:cd}{v:ai}{bytes:Nat}(h:Mv F0.length S g es.length)(bo:gi F0 S.own)(bG:v.cells=[v])(a9:v.dZ=true)(H:(es.length+1)*bytes≤1099511627776):
  ∃g' dD,Mv F0.length {S with own:=dD} g' (es.length+1)∧gi F0 dD∧(∀(i:Nat) (o:bd),S.own[i]? =some o→(∀n:Nat,o≠bd.tok n)→dD[i]? =some o)∧∀k:a1,(aH au G X).cn S k 1 bytes (some (.l 0)) (.aW 1 es g) (.aW 1 [v] .exact)=k (.aW 1 (es++[v]) g') {S with own:=dD}:=by
 obtain⟨g',b4,gw,hj,I,J,B,K⟩:=qv G X (S:=S) (q:=1) (bytes:=bytes) (es:=es) (new:=[v]) (g:=g) (g2:=.exact) h.b5 (by simp) H (by simp [bG,a9]) (fun a e=>by cases e);have L:b4= {S with own:=b4.own}:=by
  obtain⟨o,u,r⟩:=b4
  have:=B.up;have:=B.ro;simp only at *
  subst_vars
  rfl
 have hold:∀(i:Nat) (o:bd),S.own[i]? =some o→(∀n:Nat,o≠bd.tok n)→b4.own[i]? =some o:=fun i o y bX=>B.own i o y (fun e=>by
  rcases h.b5.inv with⟨bU,_⟩|⟨t,bU,_,M⟩
  ·rw[bU] at e;cases e
  ·rw[bU] at e;injection e with e;injection e with e;subst e;rw[M] at y;injection y with y;exact bX _ y.symm)
 refine⟨g',b4.own,⟨gW.own gw rfl,fun t e=>?_⟩,⟨Nat.le_trans bo.len B.len,fun i o y=>B.own i o (bo.bf i o y) (fun e=>?_)⟩,hold,fun k=>by rw[K];exact congrArg _ L⟩
 ·by_cases bX:g=.nil
  ·have:=J bX;rw[this] at e;injection e with e;injection e with e;rw[←e];exact bo.len
  ·rw[I bX] at e;exact h.eQ t e
 ·have:=h.eQ i e
  have:=(bZ.1 y).1;omega
theorem nv.app{tv:ai}{ts:List Nat}(h:nv F0.length S.own tv ts)(bo:gi F0 S.own)(t:Nat)(J:ts.length<1000):
  ∃y dD,nv F0.length dD y (ts++[t])∧gi F0 dD∧(∀(i n:Nat),S.own[i]? =some (.tok n)→dD[i]? =some (.tok n))∧∀k:a1,(aH au G X).jz S k 1 8 tv (.aW 1 [In t] .exact)=k y {S with own:=dD}:=by
 rcases h with⟨rfl,rfl⟩|⟨i,rfl,aD,aG,bz⟩
 ·refine⟨.cw (.l S.own.length) 0 1 0 1,S.own++[.cells [In t]],.inr ⟨S.own.length,rfl,by simp,by simp,bo.len⟩,⟨by simp;have:=bo.len;omega,fun i o r=>?_⟩,fun i n bk=>?_,fun k=>?_⟩
  ·rw[ev (bZ.1 (bo.bf i o r)).1];exact bo.bf i o r
  ·rw[ev (bZ.1 bk).1];exact bk
  ·rfl
 ·have K:=(bZ.1 aD).1;refine⟨.cw (.l S.own.length) 0 (ts.length+1) 0 1,S.own.set i .gone++[.cells (ts.map In++[In t])],.inr ⟨S.own.length,by simp,by simp,by simp,bo.len⟩,⟨by simp;have:=bo.len;omega,fun m o r=>?_⟩,fun m n hm=>?_,fun k=>?_⟩
  ·have hm:=bo.bf m o r;have u:=(bZ.1 hm).1
   have:=(bZ.1 r).1;rw[ev (by simpa using u),ew (by omega)];exact hm
  ·have u:=(bZ.1 hm).1;rw[ev (by simpa using u),ew (fun e=>by subst e;rw[aD] at hm;cases hm)];exact hm
  ·show kD (gk G (az au G X) bO) S k 1 8 (.cw (.l i) 0 ts.length 0 1) (.aW 1 [In t] .exact)=_;unfold kD;simp only[show dB S (.aW 1 [In t] .exact)=some (1,[In t]) from rfl,aD];have ml:Nat.ble ((ts.length+[In t].length)*8) 1099511627776=true:=dN (by simp;omega);have B:Nat.beq ts.length 0=false:=by
    cases H:Nat.beq ts.length 0
    ·rfl
    ·have:=c2 H;omega
   have I:Nat.beq (ts.map In).length (ts.length*1)=true:=by rw[b2,Nat.mul_one];exact fE _
   rw[ml,B,I];rfl
end
end Go.h6
end
