/- A part of the proof: no condition. -/
import Derived.Test.YtgdnbfijkagodaaGreatDoorA6
import Derived.Test.YtgdnbfijkagodaaGreatDoorA3
import Derived.Test.YtgdnbfijkagodaaGreatDoorA5
import Derived.KernelRfl
set_option linter.unusedSectionVars false
set_option linter.unusedSimpArgs false
set_option linter.unusedVariables false
section
namespace Go.gF
open Go.Ab Go.hV
variable(G:Nat→af)(X:Nat→List af→ah→ai)
abbrev vi(p:Nat×Nat):af:=.agg [I p.1,I p.2]
def mj(i:Nat)(x:az):List (Nat×Nat):=if x.op=1 then[(i,0),(i,1)] else if x.op=2 then[(i,0)] else[]
def je:List az→Nat→List (Nat×Nat)
 |[],_=>[]
 |x::r,i=>mj i x++je r (i+1)
theorem Ir(i:Nat)(x:az):(mj i x).length≤2:=by unfold mj;split<;> (try split)<;> simp
theorem pf:∀l:List (Nat×Nat),af.aX (l.map vi)=true
 |[]=>rfl
 |x::l=>by simp -implicitDefEqProofs only[fc,af.aX,pf l,Bool.and_true];rfl
theorem zR:∀l:List (Nat×Nat),((l.map vi).flatMap af.cells).all af.en=true
 |[]=>rfl
 |x::l=>by simp -implicitDefEqProofs only[fc,List.flatMap_cons,List.all_append,zR l,Bool.and_true];rfl
theorem TJ{S:ah}{k:bd}(l:List (Nat×Nat)):(aQ aF G X).bf S k 2 (l.map vi)=k (.bx 2 (l.map vi) .exact) S:=by
 refine kn 2 _ (pf l) ?_
 induction l with
 |nil=>rfl
 |cons x l e=>simp -implicitDefEqProofs only[fc,List.all_cons,e,Bool.and_true];rfl
theorem tW{α β:Type}(f:α→β)(l:List α):gI (l.map f)=gI l:=by cases l<;> rfl
theorem BW{S:ah}(a b:Nat)(k:bd):(aQ aF G X).iJ [.int .i64 0,.int .i64 0] [(0,1,.int .i64 (a:Int)),(1,1,.int .i64 (b:Int))] S k=k (vi (a,b)) S:=rfl
theorem aay(l:List az)(g:e0)(s:ah)(bU:l.length≤1000):aB aF G X 44 [bc l g] s=.ok (.bx 2 ((je l 0).map vi) (gI (je l 0))) s:=by
 have loop:∀n i:Nat,i+n=l.length→∀(es:List (Nat×Nat)) (ge:e0) (S:ah),Child s S→fj S ge es.length→es.length≤2*i→
   vx (aQ aF G X) (.bx 2 (es.map vi) ge) (bc l g) (.int .i64 (l.length:Int)) (.int .i64 (i:Int)) S=.ok (.bx 2 ((es++je (l.drop i) i).map vi) (gI (es++je (l.drop i) i))) s:=by
  intro n
  induction n with
  |zero=>
   intro i bZ es ge S r b2 he;have e:¬(i:Int)<(l.length:Int):=by omega
   rw[xt,bl,b0 e,eg,G1,lm (by omega)];simp -implicitDefEqProofs only[je,n1]
   have:=mE (S:=S) (sz:=2) (es:=es.map vi) (g:=ge) (by simpa using b2) (pf es);rw[tW] at this;exact fT r _ _ this
  |succ n u=>
   intro i bZ es ge S r b2 he;have e:(i:Int)<(l.length:Int):=by omega
   have y:i<l.length:=by omega
   have H:(l.map az.enc)[i]? =some l[i].enc:=by simp [y]
   have ip:=fun(k:bd)=>EP G X S k 12 _ g .i64 i _ H
   have I:∀x,l[i]=x→l.drop i=x::l.drop (i+1):=fun x a1=>by rw[←a1];exact iy y
   generalize a1:l[i]=x at *;have J:∀(S:ah) (k:bd),(aQ aF G X).aq S k (some 12) (.bk x.enc.cells)=k x.enc S:=fun S k=>bn (T:=aF) (G:=G) (X:=X) (s:=S) (k:=k) 12 x.cs (aC 12)
   have M:∀d,af.ao d x.enc=x.enc:=fun d=>rfl
   have gE:=fun(k:bd) (cs:List af) (h:cs.length=12)=>cX (T:=aF) (G:=G) (X:=X) (s:=S) (k:=k) 12 x.cs cs rfl h x.cells
   have A:=fun S k=>nD G X S k i (by omega)
   have cW:=I x rfl;have B:fj (S.new (.cells x.cs)) ge es.length:=b2.new _;have app:∀new:List (Nat×Nat),new=mj i x→new≠[]→(aQ aF G X).fm (S.new (.cells x.cs)) (fun v S=>sT (aQ aF G X) v (bc l g) (.int .i64 (l.length:Int)) (.int .i64 (i:Int)) S) 2 16 (some (.l 0)) (.bx 2 (es.map vi) ge) (.bx 2 (new.map vi) .exact)=.ok (.bx 2 ((es++je (l.drop i) i).map vi) (gI (es++je (l.drop i) i))) s:=fun new F eu=>by
    have hlen:new.length≤2:=by rw[F];exact Ir i x
    refine zy (by simpa using B) (by simpa using eu) (by simp;omega) (zR new) (fun g' S' N ar aw bS O=>?_);rw[xr,A,←List.map_append]
    have:=u (i+1) (by omega) (es++new) g' S' (O.child (r.new _)) (by simpa using N) (by simp;omega);rw[this,cW];simp -implicitDefEqProofs only[je,F,ll]
   rw[xt,bl,dR e,ek,G0,ip,J,cG,M];refine(gE _ _ rfl).trans ?_;rw[ay,bh,zQ,bO];by_cases ar:x.op=1
   ·have bZ:mj i x=[(i,0),(i,1)]:=by unfold mj;rw[if_pos ar]
    have a:=app _ bZ.symm (by simp);rw[dR ar,ek];refine(BW G X i 0 _).trans ?_;refine(BW G X i 1 _).trans ?_;refine(TJ G X [(i,0),(i,1)]).trans ?_;exact a
   ·rw[b0 ar,eg,bO];by_cases aw:x.op=2
    ·have bZ:mj i x=[(i,0)]:=by unfold mj;rw[if_neg ar,if_pos aw]
     have a:=app _ bZ.symm (by simp);rw[dR aw,ek];refine(BW G X i 0 _).trans ?_;refine(TJ G X [(i,0)]).trans ?_;exact a
    ·have bZ:mj i x=[]:=by unfold mj;rw[if_neg ar,if_neg aw]
     have:=u (i+1) (by omega) es ge (S.new (.cells x.cs)) (r.new _) B (by omega);rw[b0 aw,eg,xr,A,this,cW];simp -implicitDefEqProofs only[je,bZ,List.nil_append]
 rw[Ni,ZM,aI,d0]
 have:=loop l.length 0 (by omega) [] .nil s.ag (.ag s) .nil (by simp);simp -implicitDefEqProofs only[List.map_nil,List.nil_append,bY] at this;exact this
def hW:List az→List az→Bool
 |_,[]=>true
 |pre,x::r=>wf pre x&&hW (pre++[x]) r
def ym(l:List az):Nat:=(l.filter fun x=>jd x.op).length
def f9(l:List az):Int:=bif hW [] l then(if 40<l.length∨5<ym l∨20<(je l 0).length then 111 else 0) else 120
theorem Fb(l:List az)(x:az):ym (l++[x])=ym l+(if jd x.op=true then 1 else 0):=by unfold ym;rw[List.filter_append,fW];congr 1;simp -implicitDefEqProofs only[List.filter_cons,List.filter_nil];split<;> rfl
theorem TK(l:List az):ym l≤l.length:=List.length_filter_le _ _
theorem Ml(l:List az)(g:e0)(b2:∀a,g≠.cP a)(s:ah)(bU:l.length<9223372036854775806)(c0:∀o,o∈l→lc o):aB aF G X 16 [bc l g] s=.ok (I (f9 l)) s:=by
 have fin:∀S,Child s S→Br (aQ aF G X) (bc l g) (I (ym l:Int)) S=.ok (I (if 40<l.length∨5<ym l∨20<(je l 0).length then 111 else 0)) s:=fun S r=>by
  have ab:=TK l;have u:=fun n=>iU (T:=aF) (G:=G) (X:=X) r .i64 n
  rw[GS,aI,d0,b8];by_cases ar:40<l.length
  ·have e:(40:Int)<(l.length:Int):=by omega
   rw[if_pos (.inl ar)];simp -implicitDefEqProofs only[dR e,hi,fH,ek,b7];exact u _
  ·have e:¬(40:Int)<(l.length:Int):=by omega
   simp -implicitDefEqProofs only[b0 e,ee,ew,b8];by_cases aw:5<ym l
   ·have B:(5:Int)<(ym l:Int):=by omega
    rw[if_pos (.inr (.inl aw))];simp -implicitDefEqProofs only[dR B,hi,fH,ek,b7];exact u _
   ·have B:¬(5:Int)<(ym l:Int):=by omega
    have c:=aay G X l g S (by omega);simp -implicitDefEqProofs only[b0 B,ee,ew,hE _ b2];rw[aZ c];simp -implicitDefEqProofs only[aI,d0,b8];by_cases bS:20<(je l 0).length
    ·have F:(20:Int)<((je l 0).length:Int):=by omega
     rw[if_pos (.inr (.inr bS)),dR F,ek];exact u _
    ·have F:¬(20:Int)<((je l 0).length:Int):=by omega
     rw[if_neg (by omega),b0 F,eg,GR];exact u _
 have loop:∀n i:Nat,i+n=l.length→∀S,Child s S→
   vv (aQ aF G X) (bc l g) (I (ym (l.take i):Int)) (bc l g) (.int .i64 (l.length:Int)) (.int .i64 (i:Int)) S=.ok (I (bif hW (l.take i) (l.drop i) then(if 40<l.length∨5<ym l∨20<(je l 0).length then 111 else 0) else 120)) s:=by
  intro n
  induction n with
  |zero=>
   intro i bZ S r;have e:¬(i:Int)<(l.length:Int):=by omega
   rw[xp,bl,b0 e,eg,lm (by omega),iV (by omega),fin S r];rfl
  |succ n O=>
   intro i bZ S r;have e:(i:Int)<(l.length:Int):=by omega
   have A:i<l.length:=by omega
   have U:(l.map az.enc)[i]? =some l[i].enc:=by simp [A]
   have ip:=fun(k:bd)=>EP G X S k 12 _ g .i64 i _ U
   have kI:l[i]∈l:=mW A;have cW:l.drop i=l[i]::l.drop (i+1):=iy A;have eo:l.take (i+1)=l.take i++[l[i]]:=List.take_succ_eq_append_getElem A;generalize a1:l[i]=x at *;have V:∀(S:ah) (k:bd),(aQ aF G X).aq S k (some 12) (.bk x.enc.cells)=k x.enc S:=fun S k=>bn (T:=aF) (G:=G) (X:=X) (s:=S) (k:=k) 12 x.cs (aC 12)
   have Y:∀d,af.ao d x.enc=x.enc:=fun d=>rfl
   have gE:=fun(k:bd) (cs:List af) (h:cs.length=12)=>cX (T:=aF) (G:=G) (X:=X) (s:=S) (k:=k) 12 x.cs cs rfl h x.cells
   have H:=fun S k=>nD G X S k i (by omega)
   have bx:=fun(S:ah) (k:bd)=>Mk G X l b2 (i+1) (by omega) S k
   rw[eo] at bx;have J:=wV b2 l.length (i+1);have ac:(l.take i).length=i:=by simp;omega
   have M1:=aax G X (l.take i) x _ J (S.new (.cells x.cs)) (by omega) (c0 x kI) (fun o Z=>c0 o (List.mem_of_mem_take Z));have M:=fun(k:bd)=>cc (T:=aF) (G:=G) (X:=X) (s:=S) (k:=k) 12 x.cs (aC 12)
   rw[BU] at M;have Gs:=aar G X x (S.new (.cells x.cs));have u:=fun n=>iU (T:=aF) (G:=G) (X:=X) (r.new (.cells x.cs)) .i64 n
   have y:=O (i+1) (by omega) (S.new (.cells x.cs)) (r.new _);rw[eo,Fb] at y;have ad:=TK (l.take i);rw[xp,bl,dR e,ek,GQ,ip,V,cG,Y];refine(gE _ _ rfl).trans ?_;rw[H,bx,hE _ J,aZ M1,c4,cW];simp -implicitDefEqProofs only[hW];cases hw:wf (l.take i) x with
   |false=>rw[hz,ek,gm,cond_false];exact u _
   |true=>
    rw[hK,eg,ey,GP];refine(M _).trans ?_;show(aQ aF G X).bj (S.new (.cells x.cs)) _ 43 [x.enc]=_;rw[aZ Gs];cases N:jd x.op with
    |false=>rw[N] at y;rw[eg,xo,H];exact y
    |true=>
     rw[N] at y;have aa:=fun S k=>nD G X S k (ym (l.take i)) (by omega)
     rw[ek,aa,xo,H];exact y
 rw[Nf,ZJ,aI,d0];exact loop l.length 0 (by omega) s.ag (.ag s)
theorem afY{s:ah}{k:bd}(a b:Bool):(aQ aF G X).aj s k ((oi .bool (.bool a) (.bool b)).map fun b=>.bool (bif true then !b else b))=k (.bool (!(a==b))) s:=rfl
theorem Mm(s:ah)(jk y:Bool)(v1 v2:af)(r u:List Nat)(ar:j5 v1 r)(aw:j5 v2 u)(M:r.length<9223372036854775807):aB aF G X 45 [l5 jk v1,l5 y v2] s=.ok (.bool (decide (jk=y∧r=u))) s:=by
 have A:=fun(S:ah) (k:bd)=>(ar.rd S).len (T:=aF) (G:=G) (X:=X) k S
 have F:=fun(S:ah) (k:bd)=>(aw.rd S).len (T:=aF) (G:=G) (X:=X) k S
 have loop:r.length=u.length→∀n i:Nat,i+n=r.length→vz (aQ aF G X) (.bk [.bool jk,v1]) (.bk [.bool y,v2]) (.int .i64 (i:Int)) s.ag=.ok (.bool (decide (r.drop i=u.drop i))) s:=by
  intro bU n
  induction n with
  |zero=>
   intro i bZ;have e:¬(i:Int)<(r.length:Int):=by omega
   rw[xv,dC,dO,bY,bg,A,bl,b0 e,eg,Hf,aG,lm (by omega),lm (by omega)];rfl
  |succ n H=>
   intro i bZ;have e:(i:Int)<(r.length:Int):=by omega
   have gZ:=fun(k:bd)=>(ar.rd s.ag).get (T:=aF) (G:=G) (X:=X) .i64 i (by omega) k
   have g2:=fun(k:bd)=>(aw.rd s.ag).get (T:=aF) (G:=G) (X:=X) .i64 i (by omega) k
   have I:=fun S k=>nD G X S k i (by omega)
   have dn:r.drop i=r.getD i 0::r.drop (i+1):=by rw[iy (by omega)];simp [List.getD,show i<r.length by omega]
   have J:u.drop i=u.getD i 0::u.drop (i+1):=by rw[iy (by omega)];simp [List.getD,show i<u.length by omega]
   rw[xv,dC,dO,bY,bg,A,bl,dR e,ek,He,dC,dO,bY,bg,gZ,dC,dO,bY,bg,g2,cf];rw[dn,J];by_cases a1:r.getD i 0=u.getD i 0
   ·have B:¬¬((r.getD i 0:Nat):Int)=((u.getD i 0:Nat):Int):=by omega
    rw[b0 B,eg,Hd,I,H (i+1) (by omega),a1];simp -implicitDefEqProofs only[List.cons.injEq,true_and]
   ·have B:¬((r.getD i 0:Nat):Int)=((u.getD i 0:Nat):Int):=by omega
    rw[dR B,ek,aG];simp -implicitDefEqProofs only[List.cons.injEq,a1,false_and,dG]
 rw[Nt,ZX,aH,aH,dC,bY,bg,dC,bY,bg,afY];by_cases cZ:jk=y
 ·subst cZ;rw[show(!(jk==jk))=false from by simp];simp -implicitDefEqProofs only[ee,ew,dC,dO,bY,bg,A,F,cf,true_and];by_cases bU:r.length=u.length
  ·have e:¬¬(r.length:Int)=(u.length:Int):=by omega
   rw[b0 e,eg,Hg]
   have:=loop bU r.length 0 (by omega);simp -implicitDefEqProofs only[bY] at this;exact this
  ·have e:¬(r.length:Int)=(u.length:Int):=by omega
   have h:¬r=u:=fun e=>bU (by rw[e])
   rw[dR e,ek,aG,b0 h]
 ·rw[show(!(jk==y))=true from by simp [cZ]];simp -implicitDefEqProofs only[hi,fH,ek,aG,cZ,false_and,dG,b7]
theorem Mn(s:ah)(a b c d:fV)(e:kA a)(h:kA b)(a0:kA c)(cW:kA d):aB aF G X 17 [pu a b,pu c d] s=.ok (.bool (decide ((a.neg=c.neg∧a.g9=c.g9)∧(b.neg=d.neg∧b.g9=d.g9)))) s:=by
 have r:=Mm G X s.ag a.neg c.neg a.v c.v a.g9 c.g9 e.jA a0.jA e.len;have u:=Mm G X s.ag b.neg d.neg b.v d.v b.g9 d.g9 h.jA cW.jA h.len;rw[Nr,ZV];simp -implicitDefEqProofs only[aH,dC,bY,dO,↓bn,bT,ca,Nat.reduceAdd,Nat.reduceLeDiff,aC,c2,c7,be];rw[aZ r,aZ u];rw[Bool.decide_and (p:=a.neg=c.neg∧a.g9=c.g9)];cases decide (a.neg=c.neg∧a.g9=c.g9) with
 |true=>simp -implicitDefEqProofs only[f5,fH,aG,ey]
 |false=>simp -implicitDefEqProofs only[gP,ew,aG,gm]
def afZ:fV:=⟨false,[],.nil⟩
theorem ku:kA afZ where
 g:=fun a e=>by cases e
 ok:=fun x a1=>absurd a1 rc
 len:=by decide
abbrev eB(n:Nat):af:=I (n:Int)
theorem mK:∀l:List Nat,af.aX (l.map eB)=true
 |[]=>rfl
 |x::l=>by simp -implicitDefEqProofs only[fc,af.aX,mK l,Bool.and_true];rfl
instance:Inhabited fV:=⟨⟨false,[],.nil⟩⟩
instance:Inhabited az:=⟨⟨[],0,[],.nil,default,default,default,default,0⟩⟩
def l6(l:List az)(i:Int):Int:=if f9 l≠0 then f9 l else if i<0∨(l.length:Int)≤i then 1 else 0
section
variable(l:List az)(g:e0)(b2:∀a,g≠.cP a)(bU:l.length<9223372036854775806)(c0:∀o,o∈l→lc o)(i:Int)(s:ah)
include b2 bU c0
theorem BX:aB aF G X 37 [bc l g,I i] s=.ok (I (l6 l i)) s:=by
 have c:=aZ (T:=aF) (G:=G) (X:=X) (s:=s.ag) (k:=fun e s=>(aQ aF G X).aj s (fun r s=>(aQ aF G X).aO r ((aQ aF G X).aW false [some e] s) (Bv (aQ aF G X) (bc l g) (I i) s)) (al .neq e (.int .i64 0))) (Ml G X l g b2 s.ag bU c0);have fS:af.ao s.ag.aa (bc l g)=bc l g:=hE l b2 _;rw[Nj,ZN,fS];refine c.trans ?_;rw[cf];unfold l6;by_cases h:f9 l=0
 ·rw[b0 (by simp [h]),eg,if_neg (by simp [h]),G3,bl];by_cases ar:i<0
  ·rw[dR ar,if_pos (.inl ar)];simp -implicitDefEqProofs only[hi,b7,fH,ek];exact aR _ _
  ·rw[b0 ar];simp -implicitDefEqProofs only[ee,aI,d0,cR,ew];by_cases aw:(l.length:Int)≤i
   ·rw[dR aw,ek,if_pos (.inr aw)];exact aR _ _
   ·rw[b0 aw,eg,if_neg (by omega),G2];exact aR _ _
 ·rw[dR h,ek,if_pos h];exact aR _ _
end
end Go.gF
end
section
namespace Go.gF
open Go.Ab
set_option maxRecDepth 100000
section
variable(G:Nat→af)(X:Nat→List af→ah→ai)
theorem tk{s:ah}{k:bd}(eG:IntKind)(a b:Int)(h:b≠0):(aQ aF G X).aj s k (al .rem (.int eG a) (.int eG b))=k (.int eG (a.tmod b)) s:=by rw[show al .rem (.int eG a) (.int eG b)=some (.int eG (a.tmod b)) from by simp [al,gS,h]];rfl
theorem BY{s:ah}{k:bd}(eG:IntKind)(a b:Int)(h:b≠0):(aQ aF G X).aj s k (al .quo (.int eG a) (.int eG b))=k (.int eG (eG.wrap (a.tdiv b))) s:=by rw[show al .quo (.int eG a) (.int eG b)=some (.int eG (eG.wrap (a.tdiv b))) from by simp [al,gS,h]];rfl
theorem uZ(s:ah)(k:bd)(d eG:IntKind)(n:Int):(aQ aF G X).b6 s k d (.int eG n)=k (.int d (d.wrap n)) s:=rfl
theorem u8_in(n:Nat)(h:n<256):IntKind.wrap .u8 (n:Int)=(n:Int):=by
 have:∀n:Fin 256,IntKind.wrap .u8 ((n:Nat):Int)=((n:Nat):Int):=by decide
 exact this ⟨n,h⟩
end
def q7:List Int:=[1,10,100,1000,10000,100000,1000000,10000000,100000000,1000000000,10000000000,100000000000,1000000000000,10000000000000,100000000000000,1000000000000000,10000000000000000,100000000000000000,1000000000000000000,10000000000000000000]
def jO:List af:=q7.map fun n=>.int .u64 n
section
variable(G:Nat→af)(X:Nat→List af→ah→ai)
theorem Mo{s:ah}{k:bd}(fo:List Nat)(eG:IntKind)(i:Nat)(b:Nat)(h:fo[i]? =some b):(aQ aF G X).hS s k (.str fo) (.int eG (i:Int))=k (.int .u8 b) s:=by show iB (gM G (aB aF G X) bR) s k (.str fo) (.int eG (i:Int))=_;unfold iB;simp -implicitDefEqProofs only[gW,h];rfl
theorem aaz{s:ah}{k:bd}(cs:List af)(n:Nat)(eG:IntKind)(i:Nat)(h:i<n):(aQ aF G X).h5 s k 1 n (.bk cs) (.int eG (i:Int))=k (.bk (cs.drop i)) s:=by show hG (gM G (aB aF G X) bR) s k 1 n (.bk cs) (.int eG (i:Int))=_;unfold hG;simp -implicitDefEqProofs only[gW,show Nat.blt i n=true from by simp [Nat.blt_eq,h],bD,Nat.mul_one];rfl
theorem Is{s:ah}{k:bd}(eG e:IntKind)(a b:Int)(h:0≤b):(aQ aF G X).aj s k (al .shr (.int eG a) (.int e b))=k (.int eG (a.fdiv (2^(min b.toNat eG.bits)))) s:=by rw[show al .shr (.int eG a) (.int e b)=some (.int eG (a.fdiv (2^(min b.toNat eG.bits)))) from by simp [al,mn,Int.not_lt.2 h]];rfl
end
def ha:List Nat:=[0,1,2,2,3,3,3,3,4,4,4,4,4,4,4,4,5,5,5,5,5,5,5,5,5,5,5,5,5,5,5,5,6,6,6,6,6,6,6,6,6,6,6,6,6,6,6,6,6,6,6,6,6,6,6,6,6,6,6,6,6,6,6,6,7,7,7,7,7,7,7,7,7,7,7,7,7,7,7,7,7,7,7,7,7,7,7,7,7,7,7,7,7,7,7,7,7,7,7,7,7,7,7,7,7,7,7,7,7,7,7,7,7,7,7,7,7,7,7,7,7,7,7,7,7,7,7,7,8,8,8,8,8,8,8,8,8,8,8,8,8,8,8,8,8,8,8,8,8,8,8,8,8,8,8,8,8,8,8,8,8,8,8,8,8,8,8,8,8,8,8,8,8,8,8,8,8,8,8,8,8,8,8,8,8,8,8,8,8,8,8,8,8,8,8,8,8,8,8,8,8,8,8,8,8,8,8,8,8,8,8,8,8,8,8,8,8,8,8,8,8,8,8,8,8,8,8,8,8,8,8,8,8,8,8,8,8,8,8,8,8,8,8,8,8,8,8,8,8,8,8,8,8,8,8,8]
def lI:List Nat:=[48,48,48,49,48,50,48,51,48,52,48,53,48,54,48,55,48,56,48,57,49,48,49,49,49,50,49,51,49,52,49,53,49,54,49,55,49,56,49,57,50,48,50,49,50,50,50,51,50,52,50,53,50,54,50,55,50,56,50,57,51,48,51,49,51,50,51,51,51,52,51,53,51,54,51,55,51,56,51,57,52,48,52,49,52,50,52,51,52,52,52,53,52,54,52,55,52,56,52,57,53,48,53,49,53,50,53,51,53,52,53,53,53,54,53,55,53,56,53,57,54,48,54,49,54,50,54,51,54,52,54,53,54,54,54,55,54,56,54,57,55,48,55,49,55,50,55,51,55,52,55,53,55,54,55,55,55,56,55,57,56,48,56,49,56,50,56,51,56,52,56,53,56,54,56,55,56,56,56,57,57,48,57,49,57,50,57,51,57,52,57,53,57,54,57,55,57,56,57,57]
def vL:List Nat:=[48,49,50,51,52,53,54,55,56,57,97,98,99,100,101,102,103,104,105,106,107,108,109,110,111,112,113,114,115,116,117,118,119,120,121,122]
def yn(n:Nat):af:=.int .u8 (n:Int)
theorem xS(b:Nat)(h:b<100):lI[b*2]? =some (48+b/10):=by
 have:∀b:Fin 100,lI[b.val*2]? =some (48+b.val/10):=by decide
 exact this ⟨b,h⟩
theorem xT(b:Nat)(h:b<100):lI[b*2+1]? =some (48+b%10):=by
 have:∀b:Fin 100,lI[b.val*2+1]? =some (48+b.val%10):=by decide
 exact this ⟨b,h⟩
theorem kw{x:Int}(eO:0≤x)(ar:x≤4294967295):IntKind.wrap .u32 x=x:=IntWalk.u32_in x ⟨eO,ar⟩
theorem Fc{i:Nat}(h:i<256):ha[i]? =some (ha.getD i 0):=by have:i<ha.length:=h;simp [List.getD,this]
theorem np(i:Nat):ha.getD i 0≤8:=by
 by_cases h:i<256
 ·have:∀i:Fin 256,ha.getD i 0≤8:=by decide
  exact this ⟨i,h⟩
 ·have:ha.length≤i:=by show 256≤i;omega
  simp [List.getD,List.getElem?_eq_none this]
section
variable(G:Nat→af)(X:Nat→List af→ah→ai)
theorem Mp{s:ah}{k:bd}(fo:List Nat)(k1 pz:IntKind)(l h:Nat)(ar:l≤h)(aw:h≤fo.length):(aQ aF G X).wP (.str fo) (some (.int k1 (l:Int))) (some (.int pz (h:Int))) s k=k (.str ((fo.drop l).take (h-l))) s:=by show hSub (.str fo) (some (.int k1 (l:Int))) (some (.int pz (h:Int))) s k=_;unfold hSub qH;simp -implicitDefEqProofs only[gW,ec ar,ec aw,bz,bD]
theorem tX{s:ah}{k:bd}(i:Int)(b:Nat)(h:∃j:Nat,i=(j:Int)∧lI[j]? =some b):(aQ aF G X).hS s k (.str lI) (.int .u32 i)=k (.int .u8 b) s:=by obtain⟨j,rfl,cL⟩:=h;exact Mo G X lI .u32 j b cL
end
def It(v:Nat):Nat:=if 256≤v then 8+ha.getD (v/256) 0 else ha.getD v 0
def oI(u:Nat):Nat:=if 65536≤u then 16+It (u/65536) else It u
def u0(u:Nat):Nat:=oI u*78913/262144
def hx(u:Nat):Nat:=if u<1000 then 3 else if u<10000 then 4 else if u<100000 then 5 else 6
section
variable(G:Nat→af)(X:Nat→List af→ah→ai)
theorem Mq(v a:Nat)(s:ah)(bX:v<256)(u:a≤24):sU (aQ aF G X) (.int .u64 (v:Int)) (.int .i64 (a:Int)) s.ag=.ok (I ((a+ha.getD v 0:Nat):Int)) s:=by
 have e:=fun(k:bd)=>Mo G X (s:=s.ag) (k:=k) ha .u8 v _ (Fc bX)
 have dn:IntKind.wrap .u8 (v:Int)=(v:Int):=u8_in v bX;have hle:=np v;have h:IntKind.wrap .i64 ((ha.getD v 0:Nat):Int)=((ha.getD v 0:Nat):Int):=e4 _ (by omega) (by omega);have r:IntKind.wrap .i64 ((a:Int)+((ha.getD v 0:Nat):Int))=((a+ha.getD v 0:Nat):Int):=by rw[e4 _ (by omega) (by omega)];omega
 unfold ha at e;rw[Ey];simp -implicitDefEqProofs only[↓uZ,dn,↓e];simp -implicitDefEqProofs only[←ha.eq_1,↓cG,↓cU,↓cb,↓bw,↓aH,↓aK,↓aD,↓aM,↓aS,↓aT,↓aE,↓aN,↓aI,↓aY,↓a3,↓bg,↓dC,↓ay,↓bH,↓ci,↓dc,↓cl,↓cm,↓cj,↓cn,↓co,↓cp,↓cq,↓cr,↓ct,↓bI,↓bJ,↓bK,↓dd,↓de,↓df,↓dg,↓dh,↓di,↓dj,↓dk,↓dl,↓cv,↓cw,↓cx,↓fF,↓f0,↓gq,↓bO,↓cf,↓bl,↓c6,↓b8,↓cR,↓c4,↓dm,↓a4,↓aU,↓a5,↓aR,↓aG,↓a6,↓cX,↓cc,↓ck,↓cy,↓cz,↓cA,↓cB,↓cC,↓cD,↓cE,↓cF,bY,dO,List.cons_append,List.nil_append,b9,decide_eq_false_iff_not,ite_not,↓reduceIte,be,aA,bi,bL,e6,ei,ej,bh,bT,ca,Nat.reduceAdd,List.all_cons,List.all_nil,dA,dr,dF,dV,bz,↓bn,Nat.reduceLeDiff,aC,c2,c7,↓uZ,h,r]
theorem Mr(v a:Nat)(s:ah)(bX:v<65536)(u:a≤16):sV (aQ aF G X) (.int .u64 (v:Int)) (.int .i64 (a:Int)) s.ag=.ok (I ((a+It v:Nat):Int)) s:=by
 unfold It;by_cases h:256≤v
 ·have e:(256:Int)≤(v:Int):=by omega
  have dn:(v:Int).fdiv (2^(min (8:Int).toNat (IntKind.bits .u64)))=((v/256:Nat):Int):=by show(v:Int).fdiv 256=_;rw[Int.fdiv_eq_ediv_of_nonneg _ (by omega)];omega
  have r:IntKind.wrap .i64 ((a:Int)+8)=((a+8:Nat):Int):=by rw[e4 _ (by omega) (by omega)];omega
  have:=Mq G X (v/256) (a+8) s (by omega) (by omega);rw[uQ];simp -implicitDefEqProofs only[↓cG,↓cU,↓cb,↓bw,↓aH,↓aK,↓aD,↓aM,↓aS,↓aT,↓aE,↓aN,↓aI,↓aY,↓a3,↓bg,↓dC,↓ay,↓bH,↓ci,↓dc,↓cl,↓cm,↓cj,↓cn,↓co,↓cp,↓cq,↓cr,↓ct,↓bI,↓bJ,↓bK,↓dd,↓de,↓df,↓dg,↓dh,↓di,↓dj,↓dk,↓dl,↓cv,↓cw,↓cx,↓fF,↓f0,↓gq,↓bO,↓cf,↓bl,↓c6,↓b8,↓cR,↓c4,↓dm,↓a4,↓aU,↓a5,↓aR,↓aG,↓a6,↓cX,↓cc,↓ck,↓cy,↓cz,↓cA,↓cB,↓cC,↓cD,↓cE,↓cF,bY,dO,List.cons_append,List.nil_append,b9,decide_eq_false_iff_not,ite_not,↓reduceIte,be,aA,bi,bL,e6,ei,ej,bh,bT,ca,Nat.reduceAdd,List.all_cons,List.all_nil,dA,dr,dF,dV,bz,↓bn,Nat.reduceLeDiff,aC,c2,c7,eq_true e,dP,↓Is G X _ _ _ _ (show(0:Int)≤8 by omega),dn,r,if_pos h,this];rw[Nat.add_assoc]
 ·have e:¬(256:Int)≤(v:Int):=by omega
  have:=Mq G X v a s (by omega) (by omega);rw[uQ];simp -implicitDefEqProofs only[↓cG,↓cU,↓cb,↓bw,↓aH,↓aK,↓aD,↓aM,↓aS,↓aT,↓aE,↓aN,↓aI,↓aY,↓a3,↓bg,↓dC,↓ay,↓bH,↓ci,↓dc,↓cl,↓cm,↓cj,↓cn,↓co,↓cp,↓cq,↓cr,↓ct,↓bI,↓bJ,↓bK,↓dd,↓de,↓df,↓dg,↓dh,↓di,↓dj,↓dk,↓dl,↓cv,↓cw,↓cx,↓fF,↓f0,↓gq,↓bO,↓cf,↓bl,↓c6,↓b8,↓cR,↓c4,↓dm,↓a4,↓aU,↓a5,↓aR,↓aG,↓a6,↓cX,↓cc,↓ck,↓cy,↓cz,↓cA,↓cB,↓cC,↓cD,↓cE,↓cF,bY,dO,List.cons_append,List.nil_append,b9,decide_eq_false_iff_not,ite_not,↓reduceIte,be,aA,bi,bL,e6,ei,ej,bh,bT,ca,Nat.reduceAdd,List.all_cons,List.all_nil,dA,dr,dF,dV,bz,↓bn,Nat.reduceLeDiff,aC,c2,c7,eq_false e,dG,b5,if_neg h,this]
theorem Fe(u:Nat)(s:ah)(h:u<4294967296):aB aF G X 112 [.int .u64 (u:Int)] s=.ok (I (oI u)) s:=by
 have r:¬(4294967296:Int)≤(u:Int):=by omega
 rw[H6,To];unfold oI;simp -implicitDefEqProofs only[↓cG,↓cU,↓cb,↓bw,↓aH,↓aK,↓aD,↓aM,↓aS,↓aT,↓aE,↓aN,↓aI,↓aY,↓a3,↓bg,↓dC,↓ay,↓bH,↓ci,↓dc,↓cl,↓cm,↓cj,↓cn,↓co,↓cp,↓cq,↓cr,↓ct,↓bI,↓bJ,↓bK,↓dd,↓de,↓df,↓dg,↓dh,↓di,↓dj,↓dk,↓dl,↓cv,↓cw,↓cx,↓fF,↓f0,↓gq,↓bO,↓cf,↓bl,↓c6,↓b8,↓cR,↓c4,↓dm,↓a4,↓aU,↓a5,↓aR,↓aG,↓a6,↓cX,↓cc,↓ck,↓cy,↓cz,↓cA,↓cB,↓cC,↓cD,↓cE,↓cF,bY,dO,List.cons_append,List.nil_append,b9,decide_eq_false_iff_not,ite_not,↓reduceIte,be,aA,bi,bL,e6,ei,ej,bh,bT,ca,Nat.reduceAdd,List.all_cons,List.all_nil,dA,dr,dF,dV,bz,↓bn,Nat.reduceLeDiff,aC,c2,c7,eq_false r,dG,b5,Ez];by_cases aw:65536≤u
 ·have e:(65536:Int)≤(u:Int):=by omega
  have dn:(u:Int).fdiv (2^(min (16:Int).toNat (IntKind.bits .u64)))=((u/65536:Nat):Int):=by show(u:Int).fdiv 65536=_;rw[Int.fdiv_eq_ediv_of_nonneg _ (by omega)];omega
  have y:IntKind.wrap .i64 (0+16)=((16:Nat):Int):=by decide
  have:=Mr G X (u/65536) 16 s (by omega) (by omega);simp -implicitDefEqProofs only[↓cG,↓cU,↓cb,↓bw,↓aH,↓aK,↓aD,↓aM,↓aS,↓aT,↓aE,↓aN,↓aI,↓aY,↓a3,↓bg,↓dC,↓ay,↓bH,↓ci,↓dc,↓cl,↓cm,↓cj,↓cn,↓co,↓cp,↓cq,↓cr,↓ct,↓bI,↓bJ,↓bK,↓dd,↓de,↓df,↓dg,↓dh,↓di,↓dj,↓dk,↓dl,↓cv,↓cw,↓cx,↓fF,↓f0,↓gq,↓bO,↓cf,↓bl,↓c6,↓b8,↓cR,↓c4,↓dm,↓a4,↓aU,↓a5,↓aR,↓aG,↓a6,↓cX,↓cc,↓ck,↓cy,↓cz,↓cA,↓cB,↓cC,↓cD,↓cE,↓cF,bY,dO,List.cons_append,List.nil_append,b9,decide_eq_false_iff_not,ite_not,↓reduceIte,be,aA,bi,bL,e6,ei,ej,bh,bT,ca,Nat.reduceAdd,List.all_cons,List.all_nil,dA,dr,dF,dV,bz,↓bn,Nat.reduceLeDiff,aC,c2,c7,eq_true e,dP,↓Is G X _ _ _ _ (show(0:Int)≤16 by omega),dn,y,if_pos aw,this]
 ·have e:¬(65536:Int)≤(u:Int):=by omega
  have:=Mr G X u 0 s (by omega) (by omega);simp -implicitDefEqProofs only[Int.natCast_zero,bh] at this;simp -implicitDefEqProofs only[↓cG,↓cU,↓cb,↓bw,↓aH,↓aK,↓aD,↓aM,↓aS,↓aT,↓aE,↓aN,↓aI,↓aY,↓a3,↓bg,↓dC,↓ay,↓bH,↓ci,↓dc,↓cl,↓cm,↓cj,↓cn,↓co,↓cp,↓cq,↓cr,↓ct,↓bI,↓bJ,↓bK,↓dd,↓de,↓df,↓dg,↓dh,↓di,↓dj,↓dk,↓dl,↓cv,↓cw,↓cx,↓fF,↓f0,↓gq,↓bO,↓cf,↓bl,↓c6,↓b8,↓cR,↓c4,↓dm,↓a4,↓aU,↓a5,↓aR,↓aG,↓a6,↓cX,↓cc,↓ck,↓cy,↓cz,↓cA,↓cB,↓cC,↓cD,↓cE,↓cF,bY,dO,List.cons_append,List.nil_append,b9,decide_eq_false_iff_not,ite_not,↓reduceIte,be,aA,bi,bL,e6,ei,ej,bh,bT,ca,Nat.reduceAdd,List.all_cons,List.all_nil,dA,dr,dF,dV,bz,↓bn,Nat.reduceLeDiff,aC,c2,c7,eq_false e,dG,b5,if_neg aw,this]
theorem TL(x:Nat)(s:ah)(h:x≤64):aB aF G X 120 [I x] s=.ok (I ((x*78913/262144:Nat):Int)) s:=by
 have dn:IntKind.wrap .i64 ((x:Int)*78913)=((x*78913:Nat):Int):=by rw[e4 _ (by omega) (by omega)];omega
 have e:((x*78913:Nat):Int).fdiv (2^(min (18:Int).toNat (IntKind.bits .i64)))=((x*78913/262144:Nat):Int):=by show((x*78913:Nat):Int).fdiv 262144=_;rw[Int.fdiv_eq_ediv_of_nonneg _ (by omega)];omega
 rw[H7,Tp];simp -implicitDefEqProofs only[↓cG,↓cU,↓cb,↓bw,↓aH,↓aK,↓aD,↓aM,↓aS,↓aT,↓aE,↓aN,↓aI,↓aY,↓a3,↓bg,↓dC,↓ay,↓bH,↓ci,↓dc,↓cl,↓cm,↓cj,↓cn,↓co,↓cp,↓cq,↓cr,↓ct,↓bI,↓bJ,↓bK,↓dd,↓de,↓df,↓dg,↓dh,↓di,↓dj,↓dk,↓dl,↓cv,↓cw,↓cx,↓fF,↓f0,↓gq,↓bO,↓cf,↓bl,↓c6,↓b8,↓cR,↓c4,↓dm,↓a4,↓aU,↓a5,↓aR,↓aG,↓a6,↓cX,↓cc,↓ck,↓cy,↓cz,↓cA,↓cB,↓cC,↓cD,↓cE,↓cF,bY,dO,List.cons_append,List.nil_append,b9,decide_eq_false_iff_not,ite_not,↓reduceIte,be,aA,bi,bL,e6,ei,ej,bh,bT,ca,Nat.reduceAdd,List.all_cons,List.all_nil,dA,dr,dF,dV,bz,↓bn,Nat.reduceLeDiff,aC,c2,c7,dn,↓Is G X _ _ _ _ (show(0:Int)≤18 by omega),e]
theorem TM(b:Bool)(s:ah):aB aF G X 121 [.bool b] s=.ok (I (if b=true then 1 else 0)) s:=by rw[H8,Tq];cases b<;> simp -implicitDefEqProofs only[↓cG,↓cU,↓cb,↓bw,↓aH,↓aK,↓aD,↓aM,↓aS,↓aT,↓aE,↓aN,↓aI,↓aY,↓a3,↓bg,↓dC,↓ay,↓bH,↓ci,↓dc,↓cl,↓cm,↓cj,↓cn,↓co,↓cp,↓cq,↓cr,↓ct,↓bI,↓bJ,↓bK,↓dd,↓de,↓df,↓dg,↓dh,↓di,↓dj,↓dk,↓dl,↓cv,↓cw,↓cx,↓fF,↓f0,↓gq,↓bO,↓cf,↓bl,↓c6,↓b8,↓cR,↓c4,↓dm,↓a4,↓aU,↓a5,↓aR,↓aG,↓a6,↓cX,↓cc,↓ck,↓cy,↓cz,↓cA,↓cB,↓cC,↓cD,↓cE,↓cF,bY,dO,List.cons_append,List.nil_append,b9,decide_eq_false_iff_not,ite_not,↓reduceIte,be,aA,bi,bL,e6,ei,ej,bh,bT,ca,Nat.reduceAdd,List.all_cons,List.all_nil,dA,dr,dF,dV,bz,↓bn,Nat.reduceLeDiff,aC,c2,c7,b5,EA]
def MV(a:Nat):Bool:=
 let L:=if 256≤a then 16+ha.getD (a/256) 0 else 8+ha.getD a 0
 let e:=L*78913/262144
 (Nat.beq e 2&&Nat.blt (256*a+255) 1000)||(Nat.beq e 3&&Nat.blt (256*a+255) 10000)||(Nat.beq e 4&&Nat.ble 1000 (256*a)&&Nat.blt (256*a+255) 100000)||(Nat.beq e 5&&Nat.ble 10000 (256*a)&&Nat.blt (256*a+255) 1000000)
theorem aaA:((List.range 511).all fun a=>MV (a+1))=true:=by kernel_rfl
theorem aaB:((List.range 156).all fun v=>Nat.beq (ha.getD (v+100) 0*78913/262144) 2)=true:=by kernel_rfl
theorem NZ{u:Nat}(ar:100≤u)(aw:u<131072):(u0 u=2∧u<1000)∨(u0 u=3∧u<10000)∨(u0 u=4∧1000≤u∧u<100000)∨(u0 u=5∧10000≤u):=by
 by_cases h:u<256
 ·have:=List.all_eq_true.1 aaB (u-100) (List.mem_range.2 (by omega));rw[show u-100+100=u by omega] at this;refine .inl ⟨?_,by omega⟩;unfold u0 oI It;rw[if_neg (by omega),if_neg (by omega)];exact dq this
 ·have:=List.all_eq_true.1 aaA (u/256-1) (List.mem_range.2 (by omega));rw[show u/256-1+1=u/256 by omega] at this;have y:oI u=if 256≤u/256 then 16+ha.getD (u/256/256) 0 else 8+ha.getD (u/256) 0:=by
   unfold oI It;by_cases bS:65536≤u
   ·rw[if_pos bS,if_neg (show¬256≤u/65536 by omega),if_pos (show 256≤u/256 by omega),show u/65536=u/256/256 by omega]
   ·rw[if_neg bS,if_pos (show 256≤u by omega),if_neg (show¬256≤u/256 by omega)]
  unfold MV at this;simp -implicitDefEqProofs only[←y,Bool.or_eq_true,bo,Nat.blt_eq] at this;unfold u0;rcases this with((⟨e,q⟩|⟨e,q⟩)|⟨⟨e,r⟩,A⟩)|⟨⟨e,r⟩,A⟩
  ·exact .inl ⟨dq e,by omega⟩
  ·exact .inr (.inl ⟨dq e,by omega⟩)
  ·exact .inr (.inr (.inl ⟨dq e,by have:=d9 r;omega,by omega⟩))
  ·exact .inr (.inr (.inr ⟨dq e,by have:=d9 r;omega⟩))
theorem TN(u:Nat):oI u≤64:=by unfold oI It;have ar:=np (u/65536/256);have aw:=np (u/65536);have bS:=np (u/256);have dB:=np u;split<;> split<;> omega
theorem aaC(d8:G 0=.bk jO)(u:Nat)(ar:100≤u)(aw:u<131072)(s:ah):aB aF G X 96 [.int .u64 (u:Int)] s=.ok (I (hx u)) s:=by
 have r:=Fe G X u s.ag (by omega);have h:=TL G X (oI u) s.ag (TN u);have B:(aQ aF G X).bE 0=.bk jO:=d8;have y:=fun b=>TM G X b s.ag
 rw[show oI u*78913/262144=u0 u from rfl] at h;rw[Ny,Z2];simp -implicitDefEqProofs only[B];have key:∀(e p:Nat) (rest:List af),u0 u=e→e<20→jO.drop e=.int .u64 (p:Int)::rest→hx u=e+(if p≤u then 1 else 0)→
   (aQ aF G X).bj s.ag (fun F s=>(aQ aF G X).bj s (fun v6 s=>(aQ aF G X).h5 s (fun v10 s=>(aQ aF G X).aq s (fun v11 s=>(aQ aF G X).aj s (fun NS s=>(aQ aF G X).bj s (fun H s=>(aQ aF G X).aj s (fun aaD s=>(aQ aF G X).aW false [some aaD] s) (al .add v6 H)) 121 [(af.ao s.aa NS)]) (al .geq (.int .u64 (u:Int)) v11)) none v10) 1 20 (.bk jO) v6) 120 [(af.ao s.aa F)]) 112 [(af.ao s.ag.aa (.int .u64 (u:Int)))]=.ok (I (hx u)) s:=fun e p rest he J cW cZ=>by
  rw[he] at h;have A:=fun(k:bd)=>aaz G X (s:=s.ag) (k:=k) jO 20 .i64 e J
  have M:IntKind.wrap .i64 ((e:Int)+1)=((e+1:Nat):Int):=by rw[e4 _ (by omega) (by omega)];omega
  have jK:IntKind.wrap .i64 ((e:Int)+0)=(e:Int):=by rw[e4 _ (by omega) (by omega)];omega
  by_cases a0:p≤u
  ·have c:(p:Int)≤(u:Int):=by omega
   rw[cZ,if_pos a0];simp -implicitDefEqProofs only[↓cG,↓cU,↓cb,↓bw,↓aH,↓aK,↓aD,↓aM,↓aS,↓aT,↓aE,↓aN,↓aI,↓aY,↓a3,↓bg,↓dC,↓ay,↓bH,↓ci,↓dc,↓cl,↓cm,↓cj,↓cn,↓co,↓cp,↓cq,↓cr,↓ct,↓bI,↓bJ,↓bK,↓dd,↓de,↓df,↓dg,↓dh,↓di,↓dj,↓dk,↓dl,↓cv,↓cw,↓cx,↓fF,↓f0,↓gq,↓bO,↓cf,↓bl,↓c6,↓b8,↓cR,↓c4,↓dm,↓a4,↓aU,↓a5,↓aR,↓aG,↓a6,↓cX,↓cc,↓ck,↓cy,↓cz,↓cA,↓cB,↓cC,↓cD,↓cE,↓cF,bY,dO,List.cons_append,List.nil_append,b9,decide_eq_false_iff_not,ite_not,↓reduceIte,be,aA,bi,bL,e6,ei,ej,bh,bT,ca,Nat.reduceAdd,List.all_cons,List.all_nil,dA,dr,dF,dV,bz,↓bn,Nat.reduceLeDiff,aC,c2,c7,aZ r,aZ h,↓A,cW,eq_true c,dP,aZ (y _),if_true,M]
  ·have c:¬(p:Int)≤(u:Int):=by omega
   rw[cZ,if_neg a0];simp -implicitDefEqProofs only[↓cG,↓cU,↓cb,↓bw,↓aH,↓aK,↓aD,↓aM,↓aS,↓aT,↓aE,↓aN,↓aI,↓aY,↓a3,↓bg,↓dC,↓ay,↓bH,↓ci,↓dc,↓cl,↓cm,↓cj,↓cn,↓co,↓cp,↓cq,↓cr,↓ct,↓bI,↓bJ,↓bK,↓dd,↓de,↓df,↓dg,↓dh,↓di,↓dj,↓dk,↓dl,↓cv,↓cw,↓cx,↓fF,↓f0,↓gq,↓bO,↓cf,↓bl,↓c6,↓b8,↓cR,↓c4,↓dm,↓a4,↓aU,↓a5,↓aR,↓aG,↓a6,↓cX,↓cc,↓ck,↓cy,↓cz,↓cA,↓cB,↓cC,↓cD,↓cE,↓cF,bY,dO,List.cons_append,List.nil_append,b9,decide_eq_false_iff_not,ite_not,↓reduceIte,be,aA,bi,bL,e6,ei,ej,bh,bT,ca,Nat.reduceAdd,List.all_cons,List.all_nil,dA,dr,dF,dV,bz,↓bn,Nat.reduceLeDiff,aC,c2,c7,aZ r,aZ h,↓A,cW,eq_false c,dG,b5,aZ (y _),if_false,jK,Nat.add_zero]
 rcases NZ ar aw with⟨e,q⟩|⟨e,q⟩|⟨e,N,O⟩|⟨e,q⟩
 ·exact key 2 100 _ e (by omega) rfl (by unfold hx;rw[if_pos q,if_pos ar])
 ·exact key 3 1000 _ e (by omega) rfl (by unfold hx;split<;> split<;> omega)
 ·exact key 4 10000 _ e (by omega) rfl (by unfold hx;rw[if_neg (by omega)];split<;> split<;> omega)
 ·exact key 5 100000 _ e (by omega) rfl (by unfold hx;rw[if_neg (by omega),if_neg (by omega)];split<;> split<;> omega)
end
abbrev rM(cs:List af)(U R:List (List b4)):ah:={own:=[.cells cs],up:=U,ro:=R}
theorem aaE(cs:List af)(U R:List (List b4)):(rM cs U R).ag.get (.g (U.length+R.length) 0)=some (.cells cs):=by
 simp -implicitDefEqProofs only[ah.get,ah.aa,ah.ag,bT];rw[if_neg (by omega),if_pos (by omega)]
 have:U.length+1+R.length-1-(U.length+R.length)=0:=by omega
 rw[this];rfl
theorem aaF(cs e:List af)(U R:List (List b4)):(rM cs U R).ag.set (.g (U.length+R.length) 0) (.cells e)=some (rM e U R).ag:=by
 simp -implicitDefEqProofs only[ah.set,ah.aa,ah.ag,bT];rw[if_neg (by omega),if_pos ⟨by omega,by omega⟩]
 have:U.length+1+R.length-1-(U.length+R.length)=0:=by omega
 rw[this];rfl
section
variable(G:Nat→af)(X:Nat→List af→ah→ai)
theorem rE{k:bd}{cs:List af}{U R:List (List b4)}{o:Nat}{n:Int}(e:o<cs.length):(aQ aF G X).bm (rM cs U R).ag k 1 (.ref (.g (U.length+R.length) 0) o) (.int .u8 n)=k .dead (rM (cs.set o (.int .u8 n)) U R).ag:=by
 rw[jZ];simp -implicitDefEqProofs only[fh,af.e9,af.cells,bT,ca,bh,e7,bz,bD];unfold h9;simp -implicitDefEqProofs only[aaE];have eo:(rM cs U R).ag.gL (.g (U.length+R.length) 0) [.int .u8 n]=true:=by simp [ah.gL,af.aX,af.bb]
 simp -implicitDefEqProofs only[bT,ca,bh,show Nat.ble (o+1) cs.length=true from ec e,eo,List.all_cons,dA,List.all_nil,bz,bD];show(match (rM cs U R).ag.set (.g (U.length+R.length) 0) (.cells (dE cs o [.int .u8 n])) with |some s=>k .dead s|none=>.fail)=_;rw[aaF];rfl
theorem abr(cs:List af)(U R:List (List b4)):(aQ aF G X).aW false [] (rM cs U R).ag=.ok (.ed []) (rM cs U R):=rfl
theorem af0{k:bd}{S:ah}{D n:Nat}(i:Nat)(h:i<n):(aQ aF G X).bV S k 1 (.cH (.g D 0) 1 n 23 1) (.int .i64 (i:Int))=k (.ref (.g D 0) (i+1)) S:=by have:=gY (T:=aF) (G:=G) (X:=X) (S:=S) (k:=k) (.g D 0) 1 n 23 1 .i64 i h;rw[this,Nat.mul_one,Nat.add_comm]
abbrev Ff(n:Nat):af:=.int .u32 (n:Int)
variable{cs:List af}{U R:List (List b4)}{n:Nat}(a0:cs.length=24)
include a0
theorem Ms(x:Nat)(a1:x<10)(cZ:0<n):pa (aQ aF G X) (.cH (.g (U.length+R.length) 0) 1 n 23 1) (I (1:Nat)) (Ff x) (rM cs U R).ag=.ok (.ed []) (rM (cs.set 1 (yn (48+x))) U R):=by
 have e:IntKind.wrap .u32 (48+(x:Int))=((48+x:Nat):Int):=by rw[kw (by omega) (by omega)];omega
 have h:IntKind.wrap .u8 ((48+x:Nat):Int)=((48+x:Nat):Int):=u8_in _ (by omega);have i0:∀(k:bd) (S:ah),(aQ aF G X).bV S k 1 (.cH (.g (U.length+R.length) 0) 1 n 23 1) (.int .i64 0)=k (.ref (.g (U.length+R.length) 0) 1) S:=fun k S=>af0 G X 0 cZ
 have r:(0:Int)<((1:Nat):Int):=by omega
 rw[xw];simp -implicitDefEqProofs only[↓cG,↓cU,↓cb,↓bw,↓aH,↓aK,↓aD,↓aM,↓aS,↓aT,↓aE,↓aN,↓aI,↓aY,↓a3,↓bg,↓dC,↓ay,↓bH,↓ci,↓dc,↓cl,↓cm,↓cj,↓cn,↓co,↓cp,↓cq,↓cr,↓ct,↓bI,↓bJ,↓bK,↓dd,↓de,↓df,↓dg,↓dh,↓di,↓dj,↓dk,↓dl,↓cv,↓cw,↓cx,↓fF,↓f0,↓gq,↓bO,↓cf,↓bl,↓c6,↓b8,↓cR,↓c4,↓dm,↓a4,↓aU,↓a5,↓aR,↓aG,↓a6,↓cX,↓cc,↓ck,↓cy,↓cz,↓cA,↓cB,↓cC,↓cD,↓cE,↓cF,bY,dO,List.cons_append,List.nil_append,b9,decide_eq_false_iff_not,ite_not,↓reduceIte,be,aA,bi,bL,e6,ei,ej,bh,bT,ca,Nat.reduceAdd,List.all_cons,List.all_nil,dA,dr,dF,dV,bz,↓bn,Nat.reduceLeDiff,aC,c2,c7,eq_true r,dP,e,↓uZ,h,↓i0];rw[rE G X (by omega)];simp -implicitDefEqProofs only[abr];rfl
omit a0 in
theorem Mt(x:Nat):pa (aQ aF G X) (.cH (.g (U.length+R.length) 0) 1 n 23 1) (I (0:Nat)) (Ff x) (rM cs U R).ag=.ok (.ed []) (rM cs U R):=by
 have e:¬(0:Int)<((0:Nat):Int):=by omega
 rw[xw];simp -implicitDefEqProofs only[↓cG,↓cU,↓cb,↓bw,↓aH,↓aK,↓aD,↓aM,↓aS,↓aT,↓aE,↓aN,↓aI,↓aY,↓a3,↓bg,↓dC,↓ay,↓bH,↓ci,↓dc,↓cl,↓cm,↓cj,↓cn,↓co,↓cp,↓cq,↓cr,↓ct,↓bI,↓bJ,↓bK,↓dd,↓de,↓df,↓dg,↓dh,↓di,↓dj,↓dk,↓dl,↓cv,↓cw,↓cx,↓fF,↓f0,↓gq,↓bO,↓cf,↓bl,↓c6,↓b8,↓cR,↓c4,↓dm,↓a4,↓aU,↓a5,↓aR,↓aG,↓a6,↓cX,↓cc,↓ck,↓cy,↓cz,↓cA,↓cB,↓cC,↓cD,↓cE,↓cF,bY,dO,List.cons_append,List.nil_append,b9,decide_eq_false_iff_not,ite_not,↓reduceIte,be,aA,bi,bL,e6,ei,ej,bh,bT,ca,Nat.reduceAdd,List.all_cons,List.all_nil,dA,dr,dF,dV,bz,↓bn,Nat.reduceLeDiff,aC,c2,c7,eq_false e,dG,b5,abr]
theorem Mu(p x:Nat)(fS:p+2≤n)(H:p≤2)(a1:x<4294967296):pb (aQ aF G X) (.cH (.g (U.length+R.length) 0) 1 n 23 1) (I ((p+2:Nat):Int)) (Ff x) (rM cs U R).ag =
  pa (aQ aF G X) (.cH (.g (U.length+R.length) 0) 1 n 23 1) (I (p:Nat)) (Ff (x/100)) (rM ((cs.set (p+2) (yn (48+x%100%10))).set (p+1) (yn (48+x%100/10))) U R).ag:=by
 have h:IntKind.wrap .u32 ((x:Int).tdiv 100)=((x/100:Nat):Int):=by rw[Int.tdiv_eq_ediv_of_nonneg (by omega),kw (by omega) (by omega)];omega
 have r:(x:Int).tmod 100=((x%100:Nat):Int):=by rw[Int.tmod_eq_emod_of_nonneg (by omega)];omega
 have u:IntKind.wrap .u32 (((x%100:Nat):Int)*2)=((x%100*2:Nat):Int):=by rw[kw (by omega) (by omega)];omega
 have y:IntKind.wrap .u32 (((x%100*2:Nat):Int)+1)=((x%100*2+1:Nat):Int):=by rw[kw (by omega) (by omega)];omega
 have A:IntKind.wrap .i64 (((p+2:Nat):Int)-1)=((p+1:Nat):Int):=by rw[e4 _ (by omega) (by omega)];omega
 have B:IntKind.wrap .i64 (((p+2:Nat):Int)-2)=(p:Int):=by rw[e4 _ (by omega) (by omega)];omega
 have e:(100:Int)≠0:=by omega
 have F:(2:Int)≤((p+2:Nat):Int):=by omega
 have hN:=fun(s:ah) (k:bd)=>tX G X (s:=s) (k:=k) ((x%100*2:Nat):Int) _ ⟨_,rfl,xS (x%100) (by omega)⟩
 have s1:=fun(s:ah) (k:bd)=>tX G X (s:=s) (k:=k) ((x%100*2+1:Nat):Int) _ ⟨_,rfl,xT (x%100) (by omega)⟩
 have i1:=fun(k:bd) (S:ah)=>af0 G X (k:=k) (S:=S) (D:=U.length+R.length) (n:=n) (p+1) (by omega)
 have i2:=fun(k:bd) (S:ah)=>af0 G X (k:=k) (S:=S) (D:=U.length+R.length) (n:=n) p (by omega)
 unfold lI at hN s1;rw[xx];simp -implicitDefEqProofs only[↓cG,↓cU,↓cb,↓bw,↓aH,↓aK,↓aD,↓aM,↓aS,↓aT,↓aE,↓aN,↓aI,↓aY,↓a3,↓bg,↓dC,↓ay,↓bH,↓ci,↓dc,↓cl,↓cm,↓cj,↓cn,↓co,↓cp,↓cq,↓cr,↓ct,↓bI,↓bJ,↓bK,↓dd,↓de,↓df,↓dg,↓dh,↓di,↓dj,↓dk,↓dl,↓cv,↓cw,↓cx,↓fF,↓f0,↓gq,↓bO,↓cf,↓bl,↓c6,↓b8,↓cR,↓c4,↓dm,↓a4,↓aU,↓a5,↓aR,↓aG,↓a6,↓cX,↓cc,↓ck,↓cy,↓cz,↓cA,↓cB,↓cC,↓cD,↓cE,↓cF,bY,dO,List.cons_append,List.nil_append,b9,decide_eq_false_iff_not,ite_not,↓reduceIte,be,aA,bi,bL,e6,ei,ej,bh,bT,ca,Nat.reduceAdd,List.all_cons,List.all_nil,dA,dr,dF,dV,bz,↓bn,Nat.reduceLeDiff,aC,c2,c7,eq_true F,dP,↓tk G X _ _ _ e,↓BY G X _ _ _ e,h,r,u,y,A,B,↓hN,↓s1,↓i1,↓i2];rw[rE G X (by omega),rE G X (by rw[List.length_set];omega)];rfl
omit a0 in
theorem Mv(p x:Nat)(fS:p<2):pb (aQ aF G X) (.cH (.g (U.length+R.length) 0) 1 n 23 1) (I (p:Nat)) (Ff x) (rM cs U R).ag=pa (aQ aF G X) (.cH (.g (U.length+R.length) 0) 1 n 23 1) (I (p:Nat)) (Ff x) (rM cs U R).ag:=by
 have e:¬(2:Int)≤(p:Int):=by omega
 rw[xx];simp -implicitDefEqProofs only[↓cG,↓cU,↓cb,↓bw,↓aH,↓aK,↓aD,↓aM,↓aS,↓aT,↓aE,↓aN,↓aI,↓aY,↓a3,↓bg,↓dC,↓ay,↓bH,↓ci,↓dc,↓cl,↓cm,↓cj,↓cn,↓co,↓cp,↓cq,↓cr,↓ct,↓bI,↓bJ,↓bK,↓dd,↓de,↓df,↓dg,↓dh,↓di,↓dj,↓dk,↓dl,↓cv,↓cw,↓cx,↓fF,↓f0,↓gq,↓bO,↓cf,↓bl,↓c6,↓b8,↓cR,↓c4,↓dm,↓a4,↓aU,↓a5,↓aR,↓aG,↓a6,↓cX,↓cc,↓ck,↓cy,↓cz,↓cA,↓cB,↓cC,↓cD,↓cE,↓cF,bY,dO,List.cons_append,List.nil_append,b9,decide_eq_false_iff_not,ite_not,↓reduceIte,be,aA,bi,bL,e6,ei,ej,bh,bT,ca,Nat.reduceAdd,List.all_cons,List.all_nil,dA,dr,dF,dV,bz,↓bn,Nat.reduceLeDiff,aC,c2,c7,eq_false e,dG,b5]
theorem BZ(p u:Nat)(fS:p+4≤n)(aa:p≤3)(hu:u<4294967296):vA (aQ aF G X) (.cH (.g (U.length+R.length) 0) 1 n 23 1) (.int .u64 (u:Int)) (I ((p+4:Nat):Int)) (rM cs U R).ag =
  pb (aQ aF G X) (.cH (.g (U.length+R.length) 0) 1 n 23 1) (I (p:Nat)) (Ff (u/10000)) (rM ((((cs.set (p+4) (yn (48+u%10000%100%10))).set (p+3) (yn (48+u%10000%100/10))).set (p+2) (yn (48+u%10000/100%10))).set (p+1) (yn (48+u%10000/100/10))) U R).ag:=by
 have dn:IntKind.wrap .u32 (u:Int)=(u:Int):=kw (by omega) (by omega);have e:(u:Int).tmod 10000=((u%10000:Nat):Int):=by rw[Int.tmod_eq_emod_of_nonneg (by omega)];omega
 have A:IntKind.wrap .u32 ((u:Int).tdiv 10000)=((u/10000:Nat):Int):=by rw[Int.tdiv_eq_ediv_of_nonneg (by omega),kw (by omega) (by omega)];omega
 obtain⟨t,eo,mx⟩:∃t,t=u%10000∧t<10000:=⟨_,rfl,by omega⟩;rw[←eo] at e;rw[←eo];have B:IntKind.wrap .u32 ((t:Int).tdiv 100)=((t/100:Nat):Int):=by rw[Int.tdiv_eq_ediv_of_nonneg (by omega),kw (by omega) (by omega)];omega
 have F:IntKind.wrap .u32 (((t/100:Nat):Int)*2)=((t/100*2:Nat):Int):=by rw[kw (by omega) (by omega)];omega
 have H:(t:Int).tmod 100=((t%100:Nat):Int):=by rw[Int.tmod_eq_emod_of_nonneg (by omega)];omega
 have J:IntKind.wrap .u32 (((t%100:Nat):Int)*2)=((t%100*2:Nat):Int):=by rw[kw (by omega) (by omega)];omega
 have M:IntKind.wrap .u32 (((t%100*2:Nat):Int)+1)=((t%100*2+1:Nat):Int):=by rw[kw (by omega) (by omega)];omega
 have N:IntKind.wrap .u32 (((t/100*2:Nat):Int)+1)=((t/100*2+1:Nat):Int):=by rw[kw (by omega) (by omega)];omega
 have O:IntKind.wrap .i64 (((p+4:Nat):Int)-1)=((p+3:Nat):Int):=by rw[e4 _ (by omega) (by omega)];omega
 have V:IntKind.wrap .i64 (((p+4:Nat):Int)-2)=((p+2:Nat):Int):=by rw[e4 _ (by omega) (by omega)];omega
 have Y:IntKind.wrap .i64 (((p+4:Nat):Int)-3)=((p+1:Nat):Int):=by rw[e4 _ (by omega) (by omega)];omega
 have Z:IntKind.wrap .i64 (((p+4:Nat):Int)-4)=(p:Int):=by rw[e4 _ (by omega) (by omega)];omega
 have h:(10000:Int)≠0:=by omega
 have r:(100:Int)≠0:=by omega
 have ls:(4:Int)≤((p+4:Nat):Int):=by omega
 have hN:=fun(s:ah) (k:bd)=>tX G X (s:=s) (k:=k) ((t%100*2:Nat):Int) _ ⟨_,rfl,xS (t%100) (by omega)⟩
 have s1:=fun(s:ah) (k:bd)=>tX G X (s:=s) (k:=k) ((t%100*2+1:Nat):Int) _ ⟨_,rfl,xT (t%100) (by omega)⟩
 have s2:=fun(s:ah) (k:bd)=>tX G X (s:=s) (k:=k) ((t/100*2:Nat):Int) _ ⟨_,rfl,xS (t/100) (by omega)⟩
 have y:=fun(s:ah) (k:bd)=>tX G X (s:=s) (k:=k) ((t/100*2+1:Nat):Int) _ ⟨_,rfl,xT (t/100) (by omega)⟩
 have i1:=fun(k:bd) (S:ah)=>af0 G X (k:=k) (S:=S) (D:=U.length+R.length) (n:=n) (p+3) (by omega)
 have i2:=fun(k:bd) (S:ah)=>af0 G X (k:=k) (S:=S) (D:=U.length+R.length) (n:=n) (p+2) (by omega)
 have i3:=fun(k:bd) (S:ah)=>af0 G X (k:=k) (S:=S) (D:=U.length+R.length) (n:=n) (p+1) (by omega)
 have i4:=fun(k:bd) (S:ah)=>af0 G X (k:=k) (S:=S) (D:=U.length+R.length) (n:=n) p (by omega)
 unfold lI at hN s1 s2 y;rw[xy];simp -implicitDefEqProofs only[↓cG,↓cU,↓cb,↓bw,↓aH,↓aK,↓aD,↓aM,↓aS,↓aT,↓aE,↓aN,↓aI,↓aY,↓a3,↓bg,↓dC,↓ay,↓bH,↓ci,↓dc,↓cl,↓cm,↓cj,↓cn,↓co,↓cp,↓cq,↓cr,↓ct,↓bI,↓bJ,↓bK,↓dd,↓de,↓df,↓dg,↓dh,↓di,↓dj,↓dk,↓dl,↓cv,↓cw,↓cx,↓fF,↓f0,↓gq,↓bO,↓cf,↓bl,↓c6,↓b8,↓cR,↓c4,↓dm,↓a4,↓aU,↓a5,↓aR,↓aG,↓a6,↓cX,↓cc,↓ck,↓cy,↓cz,↓cA,↓cB,↓cC,↓cD,↓cE,↓cF,bY,dO,List.cons_append,List.nil_append,b9,decide_eq_false_iff_not,ite_not,↓reduceIte,be,aA,bi,bL,e6,ei,ej,bh,bT,ca,Nat.reduceAdd,List.all_cons,List.all_nil,dA,dr,dF,dV,bz,↓bn,Nat.reduceLeDiff,aC,c2,c7,↓uZ,dn,eq_true ls,dP,↓tk G X _ _ _ h,↓tk G X _ _ _ r,↓BY G X _ _ _ h,↓BY G X _ _ _ r,e,A,B,F,H,J,M,N,O,V,Y,Z,↓hN,↓s1,↓s2,↓y,↓i1,↓i2,↓i3,↓i4];rw[rE G X (by omega),rE G X (by rw[List.length_set];omega),rE G X (by rw[List.length_set,List.length_set];omega),rE G X (by rw[List.length_set,List.length_set,List.length_set];omega)];rfl
omit a0 in
theorem aaG(p u:Nat)(fS:p<4)(hu:u<4294967296):vA (aQ aF G X) (.cH (.g (U.length+R.length) 0) 1 n 23 1) (.int .u64 (u:Int)) (I (p:Nat)) (rM cs U R).ag=pb (aQ aF G X) (.cH (.g (U.length+R.length) 0) 1 n 23 1) (I (p:Nat)) (Ff u) (rM cs U R).ag:=by
 have dn:IntKind.wrap .u32 (u:Int)=(u:Int):=kw (by omega) (by omega);have ls:¬(4:Int)≤(p:Int):=by omega
 rw[xy];simp -implicitDefEqProofs only[↓cG,↓cU,↓cb,↓bw,↓aH,↓aK,↓aD,↓aM,↓aS,↓aT,↓aE,↓aN,↓aI,↓aY,↓a3,↓bg,↓dC,↓ay,↓bH,↓ci,↓dc,↓cl,↓cm,↓cj,↓cn,↓co,↓cp,↓cq,↓cr,↓ct,↓bI,↓bJ,↓bK,↓dd,↓de,↓df,↓dg,↓dh,↓di,↓dj,↓dk,↓dl,↓cv,↓cw,↓cx,↓fF,↓f0,↓gq,↓bO,↓cf,↓bl,↓c6,↓b8,↓cR,↓c4,↓dm,↓a4,↓aU,↓a5,↓aR,↓aG,↓a6,↓cX,↓cc,↓ck,↓cy,↓cz,↓cA,↓cB,↓cC,↓cD,↓cE,↓cF,bY,dO,List.cons_append,List.nil_append,b9,decide_eq_false_iff_not,ite_not,↓reduceIte,be,aA,bi,bL,e6,ei,ej,bh,bT,ca,Nat.reduceAdd,List.all_cons,List.all_nil,dA,dr,dF,dV,bz,↓bn,Nat.reduceLeDiff,aC,c2,c7,↓uZ,dn,eq_false ls,dG,b5]
end
def pv(u:Nat):List Nat:=
 if u<1000 then[48+u/100,48+u%100/10,48+u%100%10]
 else if u<10000 then[48+u%10000/100/10,48+u%10000/100%10,48+u%10000%100/10,48+u%10000%100%10]
 else if u<100000 then[48+u/10000,48+u%10000/100/10,48+u%10000/100%10,48+u%10000%100/10,48+u%10000%100%10]
 else[48+u/10000%100/10,48+u/10000%100%10,48+u%10000/100/10,48+u%10000/100%10,48+u%10000%100/10,48+u%10000%100%10]
theorem qA(u:Nat):(pv u).length=hx u:=by
 unfold pv hx;by_cases ar:u<1000
 ·rw[if_pos ar,if_pos ar];rfl
 ·by_cases aw:u<10000
  ·rw[if_neg ar,if_neg ar,if_pos aw,if_pos aw];rfl
  ·by_cases bS:u<100000
   ·rw[if_neg ar,if_neg ar,if_neg aw,if_neg aw,if_pos bS,if_pos bS];rfl
   ·rw[if_neg ar,if_neg ar,if_neg aw,if_neg aw,if_neg bS,if_neg bS];rfl
def tl(u:Nat):List af:=yn 0::(pv u).map yn++List.replicate (23-hx u) (yn 0)
section
variable(G:Nat→af)(X:Nat→List af→ah→ai)
theorem aaH(u:Nat)(ar:100≤u)(aw:u<131072)(U R:List (List b4)):aB aF G X 97 [.cH (.g (U.length+R.length) 0) 1 (hx u) 23 1,.int .u64 (u:Int)] (rM (List.replicate 24 (yn 0)) U R)=.ok (.ed []) (rM (tl u) U R):=by
 have A:¬(8:Int)≤((hx u:Nat):Int):=by unfold hx;split<;> (try split)<;> (try split)<;> omega
 rw[Nz,Z3];simp -implicitDefEqProofs only[↓cG,↓cU,↓cb,↓bw,↓aH,↓aK,↓aD,↓aM,↓aS,↓aT,↓aE,↓aN,↓aI,↓aY,↓a3,↓bg,↓dC,↓ay,↓bH,↓ci,↓dc,↓cl,↓cm,↓cj,↓cn,↓co,↓cp,↓cq,↓cr,↓ct,↓bI,↓bJ,↓bK,↓dd,↓de,↓df,↓dg,↓dh,↓di,↓dj,↓dk,↓dl,↓cv,↓cw,↓cx,↓fF,↓f0,↓gq,↓bO,↓cf,↓bl,↓c6,↓b8,↓cR,↓c4,↓dm,↓a4,↓aU,↓a5,↓aR,↓aG,↓a6,↓cX,↓cc,↓ck,↓cy,↓cz,↓cA,↓cB,↓cC,↓cD,↓cE,↓cF,bY,dO,List.cons_append,List.nil_append,b9,decide_eq_false_iff_not,ite_not,↓reduceIte,be,aA,bi,bL,e6,ei,ej,bh,bT,ca,Nat.reduceAdd,List.all_cons,List.all_nil,dA,dr,dF,dV,bz,↓bn,Nat.reduceLeDiff,aC,c2,c7,Hl,eq_false A,dG,b5];unfold tl pv;by_cases h:u<1000
 ·have e:hx u=3:=by unfold hx;rw[if_pos h]
  rw[if_pos h,e,aaG G X 3 u (by omega) (by omega)];refine(Mu G X (by simp) 1 u (by omega) (by omega) (by omega)).trans ?_;exact Ms G X (by simp) (u/100) (by omega) (by omega)
 ·by_cases r:u<10000
  ·have e:hx u=4:=by unfold hx;rw[if_neg h,if_pos r]
   rw[if_neg h,if_pos r,e];refine(BZ G X (by simp) 0 u (by omega) (by omega) (by omega)).trans ?_;rw[Mv G X 0 _ (by omega),Mt];rfl
  ·by_cases y:u<100000
   ·have e:hx u=5:=by unfold hx;rw[if_neg h,if_neg r,if_pos y]
    rw[if_neg h,if_neg r,if_pos y,e];refine(BZ G X (by simp) 1 u (by omega) (by omega) (by omega)).trans ?_;rw[Mv G X 1 _ (by omega)];exact Ms G X (by simp) (u/10000) (by omega) (by omega)
   ·have e:hx u=6:=by unfold hx;rw[if_neg h,if_neg r,if_neg y]
    rw[if_neg h,if_neg r,if_neg y,e];refine(BZ G X (by simp) 2 u (by omega) (by omega) (by omega)).trans ?_;refine(Mu G X (by simp) 0 (u/10000) (by omega) (by omega) (by omega)).trans ?_;rw[Mt];rfl
end
def eZ(u:Nat):List Nat:=if u<10 then[48+u] else if u<100 then[48+u/10,48+u%10] else pv u
def abt(l:List Nat):Nat:=l.foldl (fun a d=>a*10+(d-48)) 0
theorem xU{u:Nat}(h:u<131072):abt (eZ u)=u:=by
 unfold eZ pv abt;split
 ·simp -implicitDefEqProofs only[List.foldl];omega
 ·split
  ·simp -implicitDefEqProofs only[List.foldl];omega
  ·split
   ·simp -implicitDefEqProofs only[List.foldl];omega
   ·split
    ·simp -implicitDefEqProofs only[List.foldl];omega
    ·split
     ·simp -implicitDefEqProofs only[List.foldl];omega
     ·simp -implicitDefEqProofs only[List.foldl];omega
theorem N0{u v:Nat}(hu:u<131072)(bX:v<131072)(h:eZ u=eZ v):u=v:=by rw[←xU hu,←xU bX,h]
theorem Iu{u:Nat}(h:u<131072):∀b,b∈pv u→b<256:=by
 intro b e;unfold pv at e;split at e
 ·simp at e;omega
 ·split at e
  ·simp at e;omega
  ·split at e
   ·simp at e;omega
   ·simp at e;omega
theorem N1{u:Nat}(h:u<131072):(eZ u).length≤6:=by
 unfold eZ;split
 ·simp
 ·split
  ·simp
  ·rw[qA];unfold hx;split<;> (try split)<;> (try split)<;> omega
section
variable(G:Nat→af)(X:Nat→List af→ah→ai)
theorem TO(u:Nat)(h:u<10):(vL.drop u).take (u+1-u)=eZ u:=by
 have:∀u:Fin 10,(vL.drop u.val).take (u.val+1-u.val)=eZ u.val:=by decide
 exact this ⟨u,h⟩
theorem aaI(u:Nat)(ar:10≤u)(h:u<100):(lI.drop (u*2)).take (u*2+2-u*2)=eZ u:=by
 have:∀u:Fin 100,10≤u.val→(lI.drop (u.val*2)).take (u.val*2+2-u.val*2)=eZ u.val:=by decide
 exact this ⟨u,h⟩ ar
theorem aaJ(u:Nat)(h:u<100)(s:ah):aB aF G X 95 [.int .i64 (u:Int)] s=.ok (.str (eZ u)) s:=by
 rw[Nx,Z1];have e:IntKind.wrap .i64 ((u:Int)+1)=((u+1:Nat):Int):=by rw[e4 _ (by omega) (by omega)];omega
 have r:IntKind.wrap .i64 ((u:Int)*2)=((u*2:Nat):Int):=by rw[e4 _ (by omega) (by omega)];omega
 have y:IntKind.wrap .i64 (((u*2:Nat):Int)+2)=((u*2+2:Nat):Int):=by rw[e4 _ (by omega) (by omega)];omega
 by_cases ar:u<10
 ·have c:(u:Int)<10:=by omega
  have ba:=fun(s:ah) (k:bd)=>Mp G X (s:=s) (k:=k) vL .i64 .i64 u (u+1) (by omega) (by show u+1≤36;omega)
  rw[TO u ar] at ba;unfold vL at ba;simp -implicitDefEqProofs only[↓cG,↓cU,↓cb,↓bw,↓aH,↓aK,↓aD,↓aM,↓aS,↓aT,↓aE,↓aN,↓aI,↓aY,↓a3,↓bg,↓dC,↓ay,↓bH,↓ci,↓dc,↓cl,↓cm,↓cj,↓cn,↓co,↓cp,↓cq,↓cr,↓ct,↓bI,↓bJ,↓bK,↓dd,↓de,↓df,↓dg,↓dh,↓di,↓dj,↓dk,↓dl,↓cv,↓cw,↓cx,↓fF,↓f0,↓gq,↓bO,↓cf,↓bl,↓c6,↓b8,↓cR,↓c4,↓dm,↓a4,↓aU,↓a5,↓aR,↓aG,↓a6,↓cX,↓cc,↓ck,↓cy,↓cz,↓cA,↓cB,↓cC,↓cD,↓cE,↓cF,bY,dO,List.cons_append,List.nil_append,b9,decide_eq_false_iff_not,ite_not,↓reduceIte,be,aA,bi,bL,e6,ei,ej,bh,bT,ca,Nat.reduceAdd,List.all_cons,List.all_nil,dA,dr,dF,dV,bz,↓bn,Nat.reduceLeDiff,aC,c2,c7,eq_true c,dP,e,↓ba]
 ·have c:¬(u:Int)<10:=by omega
  have ba:=fun(s:ah) (k:bd)=>Mp G X (s:=s) (k:=k) lI .i64 .i64 (u*2) (u*2+2) (by omega) (by show u*2+2≤200;omega)
  rw[aaI u (by omega) h] at ba;unfold lI at ba;simp -implicitDefEqProofs only[↓cG,↓cU,↓cb,↓bw,↓aH,↓aK,↓aD,↓aM,↓aS,↓aT,↓aE,↓aN,↓aI,↓aY,↓a3,↓bg,↓dC,↓ay,↓bH,↓ci,↓dc,↓cl,↓cm,↓cj,↓cn,↓co,↓cp,↓cq,↓cr,↓ct,↓bI,↓bJ,↓bK,↓dd,↓de,↓df,↓dg,↓dh,↓di,↓dj,↓dk,↓dl,↓cv,↓cw,↓cx,↓fF,↓f0,↓gq,↓bO,↓cf,↓bl,↓c6,↓b8,↓cR,↓c4,↓dm,↓a4,↓aU,↓a5,↓aR,↓aG,↓a6,↓cX,↓cc,↓ck,↓cy,↓cz,↓cA,↓cB,↓cC,↓cD,↓cE,↓cF,bY,dO,List.cons_append,List.nil_append,b9,decide_eq_false_iff_not,ite_not,↓reduceIte,be,aA,bi,bL,e6,ei,ej,bh,bT,ca,Nat.reduceAdd,List.all_cons,List.all_nil,dA,dr,dF,dV,bz,↓bn,Nat.reduceLeDiff,aC,c2,c7,eq_false c,dG,b5,Hk,r,y,↓ba]
theorem af1(s:ah)(k:bd)(n:Nat)(h:n≤23):(aQ aF G X).mS 1 24 (.ref (.l 0) 0) (some (.int .i64 1)) (some (.int .i64 ((n+1:Nat):Int))) none s k=k (.cH (.l 0) 1 n 23 1) s:=by show ss 1 24 (.ref (.l 0) 0) (some (.int .i64 ((1:Nat):Int))) (some (.int .i64 ((n+1:Nat):Int))) none s k=_;unfold ss qH;simp -implicitDefEqProofs only[gW,ec (show 1≤n+1 by omega),ec (show n+1≤24 by omega),show Nat.ble 24 24=true from rfl,bz,bD];rw[if_neg (by omega),show 0+1*1=1 from rfl,show n+1-1=n by omega]
theorem tm:∀(l:List Nat) (r:List af),chunk 1 l.length (l.map yn++r)=l.map yn
 |[],_=>rfl
 |x::l,r=>by simp -implicitDefEqProofs only[bT,chunk,fc,List.cons_append];show mX 1 (yn x::(l.map yn++r))::chunk 1 l.length (l.map yn++r)=_;rw[tm l r];rfl
theorem q8:∀(l:List Nat),af.aX (l.map yn)=true
 |[]=>rfl
 |x::l=>by simp -implicitDefEqProofs only[fc,af.aX,q8 l,Bool.and_true];rfl
theorem q9:∀(l:List Nat),(∀b,b∈l→b<256)→iz (l.map yn)=some l
 |[],_=>rfl
 |x::l,h=>by have a1:=h x List.mem_cons_self;simp -implicitDefEqProofs only[fc];show iz (.int .u8 (x:Int)::l.map yn)=_;unfold iz;rw[q9 l (fun b e=>h b (List.mem_cons_of_mem _ e))];simp;omega
theorem Fg(u:Nat)(U R:List (List b4))(cZ:hx u≤23):dw (rM (tl u) U R) (.cH (.l 0) 1 (hx u) 23 1)=some (1,(pv u).map yn):=by
 have cW:(tl u).drop 1=(pv u).map yn++List.replicate (23-hx u) (yn 0):=rfl;have bU:(tl u).length=24:=by simp [tl,qA];omega
 show(let es:=chunk 1 (hx u) ((tl u).drop 1);if af.aX es&&Nat.ble (1+hx u*1) (tl u).length&& !Nat.beq 1 0 then some (1,es) else none)=_;simp -implicitDefEqProofs only[cW,←qA,tm,q8,bU];rw[if_pos]
 have:Nat.ble (1+(pv u).length*1) 24=true:=ec (by rw[qA];omega);rw[this];rfl
theorem aaK(d8:G 0=.bk jO)(u:Nat)(h:u<131072)(s:ah):aB aF G X 77 [.int .i64 (u:Int),.int .i64 10] s=.ok (.str (eZ u)) s:=by
 rw[Nw,Z0];have t10:(10:Int)=10:=rfl;have r:(0:Int)≤(u:Int):=by omega
 by_cases y:u<100
 ·have c:(u:Int)<100:=by omega
  have H:=aaJ G X u y s.ag;simp -implicitDefEqProofs only[↓cG,↓cU,↓cb,↓bw,↓aH,↓aK,↓aD,↓aM,↓aS,↓aT,↓aE,↓aN,↓aI,↓aY,↓a3,↓bg,↓dC,↓ay,↓bH,↓ci,↓dc,↓cl,↓cm,↓cj,↓cn,↓co,↓cp,↓cq,↓cr,↓ct,↓bI,↓bJ,↓bK,↓dd,↓de,↓df,↓dg,↓dh,↓di,↓dj,↓dk,↓dl,↓cv,↓cw,↓cx,↓fF,↓f0,↓gq,↓bO,↓cf,↓bl,↓c6,↓b8,↓cR,↓c4,↓dm,↓a4,↓aU,↓a5,↓aR,↓aG,↓a6,↓cX,↓cc,↓ck,↓cy,↓cz,↓cA,↓cB,↓cC,↓cD,↓cE,↓cF,bY,dO,List.cons_append,List.nil_append,b9,decide_eq_false_iff_not,ite_not,↓reduceIte,be,aA,bi,bL,e6,ei,ej,bh,bT,ca,Nat.reduceAdd,List.all_cons,List.all_nil,dA,dr,dF,dV,bz,↓bn,Nat.reduceLeDiff,aC,c2,c7,eq_true t10,eq_true r,eq_true c,dP,aZ H]
 ·have c:¬(u:Int)<100:=by omega
  have A:¬(u:Int)<0:=by omega
  have cZ:hx u≤6:=by unfold hx;split<;> (try split)<;> (try split)<;> omega
  have w:IntKind.wrap .u64 (u:Int)=(u:Int):=IntWalk.u64_in _ ⟨by omega,by omega⟩;have B:IntKind.wrap .i64 (1+((hx u:Nat):Int))=((hx u+1:Nat):Int):=by rw[e4 _ (by omega) (by omega)];omega
  have I:=fun s=>aaC G X d8 u (by omega) h s
  have J:=aaH G X u (by omega) h (s.own::s.up) s.ro;have F:=fun(s:ah) (k:bd)=>af1 G X s k (hx u) (by omega)
  have e:eZ u=pv u:=by unfold eZ;rw[if_neg (by omega),if_neg y]
  rw[e];simp -implicitDefEqProofs only[↓cG,↓cU,↓cb,↓bw,↓aH,↓aK,↓aD,↓aM,↓aS,↓aT,↓aE,↓aN,↓aI,↓aY,↓a3,↓bg,↓dC,↓ay,↓bH,↓ci,↓dc,↓cl,↓cm,↓cj,↓cn,↓co,↓cp,↓cq,↓cr,↓ct,↓bI,↓bJ,↓bK,↓dd,↓de,↓df,↓dg,↓dh,↓di,↓dj,↓dk,↓dl,↓cv,↓cw,↓cx,↓fF,↓f0,↓gq,↓bO,↓cf,↓bl,↓c6,↓b8,↓cR,↓c4,↓dm,↓a4,↓aU,↓a5,↓aR,↓aG,↓a6,↓cX,↓cc,↓ck,↓cy,↓cz,↓cA,↓cB,↓cC,↓cD,↓cE,↓cF,bY,dO,List.cons_append,List.nil_append,b9,decide_eq_false_iff_not,ite_not,↓reduceIte,be,aA,bi,bL,e6,ei,ej,bh,bT,ca,Nat.reduceAdd,List.all_cons,List.all_nil,dA,dr,dF,dV,bz,↓bn,Nat.reduceLeDiff,aC,c2,c7,eq_true t10,eq_true r,eq_false c,dP,dG,b5,Hj,↓uZ,w,eq_false A,Hi];refine(aZ (I _)).trans ?_;simp -implicitDefEqProofs only[↓cG,↓cU,↓cb,↓bw,↓aH,↓aK,↓aD,↓aM,↓aS,↓aT,↓aE,↓aN,↓aI,↓aY,↓a3,↓bg,↓dC,↓ay,↓bH,↓ci,↓dc,↓cl,↓cm,↓cj,↓cn,↓co,↓cp,↓cq,↓cr,↓ct,↓bI,↓bJ,↓bK,↓dd,↓de,↓df,↓dg,↓dh,↓di,↓dj,↓dk,↓dl,↓cv,↓cw,↓cx,↓fF,↓f0,↓gq,↓bO,↓cf,↓bl,↓c6,↓b8,↓cR,↓c4,↓dm,↓a4,↓aU,↓a5,↓aR,↓aG,↓a6,↓cX,↓cc,↓ck,↓cy,↓cz,↓cA,↓cB,↓cC,↓cD,↓cE,↓cF,bY,dO,List.cons_append,List.nil_append,b9,decide_eq_false_iff_not,ite_not,↓reduceIte,be,aA,bi,bL,e6,ei,ej,bh,bT,ca,Nat.reduceAdd,List.all_cons,List.all_nil,dA,dr,dF,dV,bz,↓bn,Nat.reduceLeDiff,aC,c2,c7,B];refine(F _ _).trans ?_;refine(nQ J rfl).trans ?_;simp -implicitDefEqProofs only[↓cG,↓cU,↓cb,↓bw,↓aH,↓aK,↓aD,↓aM,↓aS,↓aT,↓aE,↓aN,↓aI,↓aY,↓a3,↓bg,↓dC,↓ay,↓bH,↓ci,↓dc,↓cl,↓cm,↓cj,↓cn,↓co,↓cp,↓cq,↓cr,↓ct,↓bI,↓bJ,↓bK,↓dd,↓de,↓df,↓dg,↓dh,↓di,↓dj,↓dk,↓dl,↓cv,↓cw,↓cx,↓fF,↓f0,↓gq,↓bO,↓cf,↓bl,↓c6,↓b8,↓cR,↓c4,↓dm,↓a4,↓aU,↓a5,↓aR,↓aG,↓a6,↓cX,↓cc,↓ck,↓cy,↓cz,↓cA,↓cB,↓cC,↓cD,↓cE,↓cF,bY,dO,List.cons_append,List.nil_append,b9,decide_eq_false_iff_not,ite_not,↓reduceIte,be,aA,bi,bL,e6,ei,ej,bh,bT,ca,Nat.reduceAdd,List.all_cons,List.all_nil,dA,dr,dF,dV,bz,↓bn,Nat.reduceLeDiff,aC,c2,c7,eq_false A,dG,b5,Hh,B];refine(F _ _).trans ?_;show g3 (gM G (aB aF G X) bR) (rM (tl u) (s.own::s.up) s.ro) _ (.cH (.l 0) 1 (hx u) 23 1)=_;unfold g3;simp -implicitDefEqProofs only[Fg u _ _ (show hx u≤23 by omega),q9 _ (Iu h),ep,rL];rfl
theorem aaL(d8:G 0=.bk jO)(u:Nat)(h:u<131072)(s:ah):aB aF G X 19 [.int .i64 (u:Int)] s=.ok (.str (eZ u)) s:=by
 have e:=fun s=>aaK G X d8 u h s
 have r:∀s,aB aF G X 47 [.int .i64 (u:Int)] s=.ok (.str (eZ u)) s:=fun s=>by rw[Nv,ZZ];simp -implicitDefEqProofs only[↓cG,↓cU,↓cb,↓bw,↓aH,↓aK,↓aD,↓aM,↓aS,↓aT,↓aE,↓aN,↓aI,↓aY,↓a3,↓bg,↓dC,↓ay,↓bH,↓ci,↓dc,↓cl,↓cm,↓cj,↓cn,↓co,↓cp,↓cq,↓cr,↓ct,↓bI,↓bJ,↓bK,↓dd,↓de,↓df,↓dg,↓dh,↓di,↓dj,↓dk,↓dl,↓cv,↓cw,↓cx,↓fF,↓f0,↓gq,↓bO,↓cf,↓bl,↓c6,↓b8,↓cR,↓c4,↓dm,↓a4,↓aU,↓a5,↓aR,↓aG,↓a6,↓cX,↓cc,↓ck,↓cy,↓cz,↓cA,↓cB,↓cC,↓cD,↓cE,↓cF,bY,dO,List.cons_append,List.nil_append,b9,decide_eq_false_iff_not,ite_not,↓reduceIte,be,aA,bi,bL,e6,ei,ej,bh,bT,ca,Nat.reduceAdd,List.all_cons,List.all_nil,dA,dr,dF,dV,bz,↓bn,Nat.reduceLeDiff,aC,c2,c7,aZ (e _)]
 rw[Nu,ZY];simp -implicitDefEqProofs only[↓cG,↓cU,↓cb,↓bw,↓aH,↓aK,↓aD,↓aM,↓aS,↓aT,↓aE,↓aN,↓aI,↓aY,↓a3,↓bg,↓dC,↓ay,↓bH,↓ci,↓dc,↓cl,↓cm,↓cj,↓cn,↓co,↓cp,↓cq,↓cr,↓ct,↓bI,↓bJ,↓bK,↓dd,↓de,↓df,↓dg,↓dh,↓di,↓dj,↓dk,↓dl,↓cv,↓cw,↓cx,↓fF,↓f0,↓gq,↓bO,↓cf,↓bl,↓c6,↓b8,↓cR,↓c4,↓dm,↓a4,↓aU,↓a5,↓aR,↓aG,↓a6,↓cX,↓cc,↓ck,↓cy,↓cz,↓cA,↓cB,↓cC,↓cD,↓cE,↓cF,bY,dO,List.cons_append,List.nil_append,b9,decide_eq_false_iff_not,ite_not,↓reduceIte,be,aA,bi,bL,e6,ei,ej,bh,bT,ca,Nat.reduceAdd,List.all_cons,List.all_nil,dA,dr,dF,dV,bz,↓bn,Nat.reduceLeDiff,aC,c2,c7,aZ (r _)]
end
end Go.gF
end
section
namespace Go.gF
open Go.Ab Go.hV
theorem zS:∀(p e:List az) (x:az) (q:List az),hW e (p++x::q)=true→wf (e++p) x=true
 |[],e,x,q,h=>by rw[List.nil_append,hW,bo] at h;rw[n1];exact h.1
 |y::p,e,x,q,h=>by
  rw[List.cons_append,hW,bo] at h
  have:=zS p (e++[y]) x q h.2
  rwa [ll] at this
theorem TP(op:Int):hJ op=0∨hJ op=1∨hJ op=2∨hJ op=3:=by
 unfold hJ;split
 ·exact .inr (.inl rfl)
 ·split
  ·exact .inr (.inr (.inl rfl))
  ·split
   ·exact .inr (.inr (.inr rfl))
   ·exact .inl rfl
theorem TQ{l pre rest:List az}(bU:l=pre++rest)(hw:hW [] l=true):∀o∈pre,hJ o.op≠0:=by intro o e;obtain⟨p,q,r⟩:=List.append_of_mem e;have h:=zS p [] o (q++rest) (by rw[←List.cons_append,←ll,←r,←bU];exact hw);unfold wf at h;simp -implicitDefEqProofs only[bo,b9] at h;exact h.1.1.1
end Go.gF
end
section
namespace Go.gF
open Go.Ab
def gQ(x n:Int):Int:=(if x<0 then -(x+1) else x)%n
theorem lJ{x n:Int}(h:0<n):0≤gQ x n∧gQ x n<n:=⟨Int.emod_nonneg _ (by omega),Int.emod_lt_of_pos _ h⟩
def nq(want r:Int):Bool:=decide (r=want)||(decide (want=0)&&decide (r≠1))
def jP(want:Int):List az→Nat→List Int
 |[],_=>[]
 |x::l,i=>if nq want (hJ x.op)=true then(i:Int)::jP want l (i+1) else jP want l (i+1)
def k9(l:List az)(want n:Int):Int:=if(jP want l 0).length=0 then -1 else(jP want l 0).getD (gQ n (jP want l 0).length).toNat 0
theorem zT(want:Int):∀(l:List az) (i:Nat) (a:Int),a∈jP want l i→∃(j:Nat) (x:az),a=((i+j:Nat):Int)∧l[j]? =some x∧nq want (hJ x.op)=true
 |[],_,a,h=>by cases h
 |x::l,i,a,h=>by
  have rest:a∈jP want l (i+1)→∃(j:Nat) (kT:az),a=((i+j:Nat):Int)∧(x::l)[j]? =some kT∧nq want (hJ kT.op)=true:=fun h=>by obtain⟨j,y,ar,aw,bS⟩:=zT want l (i+1) a h;exact⟨j+1,y,by omega,by simpa using aw,bS⟩
  unfold jP at h;split at h
  ·rename_i bA;rcases List.mem_cons.1 h with rfl |h
   ·exact⟨0,x,by omega,rfl,bA⟩
   ·exact rest h
  ·exact rest h
section
variable(G:Nat→af)(X:Nat→List af→ah→ai)
theorem qB(x n:Int)(cZ:0<n)(a1: -9223372036854775808≤x∧x≤9223372036854775807)(s:ah):aB aF G X 14 [I x,I n] s=.ok (I (gQ x n)) s:=by
 have eu:n≠0:=by omega
 rw[NB,Z5];unfold gQ;by_cases h:x<0
 ·have r:IntKind.wrap .i64 (x+1)=x+1:=e4 _ (by omega) (by omega);have u:IntKind.wrap .i64 (0-(x+1))= -(x+1):=by rw[e4 _ (by omega) (by omega)];omega
  have e:(-(x+1)).tmod n=(-(x+1))%n:=Int.tmod_eq_emod_of_nonneg (by omega);rw[if_pos h];simp -implicitDefEqProofs only[↓cG,↓cU,↓cb,↓bw,↓aH,↓aK,↓aD,↓aM,↓aS,↓aT,↓aE,↓aN,↓aI,↓aY,↓a3,↓bg,↓dC,↓ay,↓bH,↓ci,↓dc,↓cl,↓cm,↓cj,↓cn,↓co,↓cp,↓cq,↓cr,↓ct,↓bI,↓bJ,↓bK,↓dd,↓de,↓df,↓dg,↓dh,↓di,↓dj,↓dk,↓dl,↓cv,↓cw,↓cx,↓fF,↓f0,↓gq,↓bO,↓cf,↓bl,↓c6,↓b8,↓cR,↓c4,↓dm,↓a4,↓aU,↓a5,↓aR,↓aG,↓a6,↓cX,↓cc,↓ck,↓cy,↓cz,↓cA,↓cB,↓cC,↓cD,↓cE,↓cF,bY,dO,List.cons_append,List.nil_append,b9,decide_eq_false_iff_not,ite_not,↓reduceIte,be,aA,bi,bL,e6,ei,ej,bh,bT,ca,Nat.reduceAdd,List.all_cons,List.all_nil,dA,dr,dF,dV,bz,↓bn,Nat.reduceLeDiff,aC,c2,c7,eq_true h,dP,r,u,xB,↓tk G X _ _ _ eu,e]
 ·have e:x.tmod n=x%n:=Int.tmod_eq_emod_of_nonneg (by omega);rw[if_neg h];simp -implicitDefEqProofs only[↓cG,↓cU,↓cb,↓bw,↓aH,↓aK,↓aD,↓aM,↓aS,↓aT,↓aE,↓aN,↓aI,↓aY,↓a3,↓bg,↓dC,↓ay,↓bH,↓ci,↓dc,↓cl,↓cm,↓cj,↓cn,↓co,↓cp,↓cq,↓cr,↓ct,↓bI,↓bJ,↓bK,↓dd,↓de,↓df,↓dg,↓dh,↓di,↓dj,↓dk,↓dl,↓cv,↓cw,↓cx,↓fF,↓f0,↓gq,↓bO,↓cf,↓bl,↓c6,↓b8,↓cR,↓c4,↓dm,↓a4,↓aU,↓a5,↓aR,↓aG,↓a6,↓cX,↓cc,↓ck,↓cy,↓cz,↓cA,↓cB,↓cC,↓cD,↓cE,↓cF,bY,dO,List.cons_append,List.nil_append,b9,decide_eq_false_iff_not,ite_not,↓reduceIte,be,aA,bi,bL,e6,ei,ej,bh,bT,ca,Nat.reduceAdd,List.all_cons,List.all_nil,dA,dr,dF,dV,bz,↓bn,Nat.reduceLeDiff,aC,c2,c7,eq_false h,dG,b5,xB,↓tk G X _ _ _ eu,e]
end
section
variable(G:Nat→af)(X:Nat→List af→ah→ai)
def xV(F:List Int)(n:Int):Int:=if F.length=0 then -1 else F.getD (gQ n F.length).toNat 0
theorem Iv(F:List Int)(g':e0)(n:Int)(cZ: -9223372036854775808≤n∧n≤9223372036854775807)(iC:F.length≤1000)(s S:ah)(h:Child s S):BF (aQ aF G X) (I n) (.bx 1 (F.map I) g') S=.ok (I (xV F n)) s:=by
 have e:=fun n=>iU (T:=aF) (G:=G) (X:=X) h .i64 n
 rw[Hu,aI,d0,bO];unfold xV;by_cases eO:F.length=0
 ·rw[dR (by omega),ek,if_pos eO];exact e _
 ·have fS:(0:Int)<(F.length:Int):=by omega
  have aV:=lJ (x:=n) fS;have tR:=qB G X n F.length fS cZ S;have r:(gQ n F.length).toNat<F.length:=by omega
  have a1:(F.map I)[(gQ n F.length).toNat]? =some (I (F.getD (gQ n F.length).toNat 0)):=by simp [gb,eb r,List.getD_eq_getElem?_getD]
  have u:=fun(k:bd)=>I4 (T:=aF) (G:=G) (X:=X) (s:=S) (k:=k) 1 _ g' .i64 (gQ n F.length) _ aV.1 a1
  rw[b0 (by omega),eg,if_neg eO,Ht,aI,d0,aA,aA,aZ tR,u];exact(bg _ []).trans (e _)
theorem Iw(l:List az)(g:e0)(want n:Int)(cZ: -9223372036854775808≤n∧n≤9223372036854775807)(bU:l.length≤1000)(s:ah):∀(rest pre:List az) (acc:List Int) (g':e0) (S:ah),l=pre++rest→acc.length≤pre.length→Child s S→fj S g' acc.length→
  vD (aQ aF G X) (bc l g) (I want) (I n) (.bx 1 (acc.map I) g') (.int .i64 (pre.length:Int)) S=.ok (I (xV (acc++jP want rest pre.length) n)) s:=by
 intro rest
 induction rest with
 |nil=>
  intro pre acc g' S h B r b2;have e:(l.map az.enc).length=l.length:=d0 ..;have F:pre.length=l.length:=by rw[h];simp
  rw[xD,aI,e,bl,b0 (by omega),eg,Iv G X acc g' n cZ (by omega) s S r];simp [jP]
 |cons x rest u=>
  intro pre acc g' S h B r b2;have e:(l.map az.enc).length=l.length:=d0 ..;have F:pre.length<l.length:=by rw[h];simp
  have ex:(l.map az.enc)[pre.length]? =some x.enc:=by rw[h];simp
  have H:=fun(k:bd)=>EP G X S k 12 _ g .i64 pre.length _ ex
  have J:∀K:bd,(aQ aF G X).aq S K none (.bk (x.enc.cells.drop 1))=K (I x.op) S:=fun K=>rfl
  have AZ:=Mg G X x.op S;have hex:∀K:bd,(aQ aF G X).b1 S K 0 (pt x.op)=K (i6 (gB x.op) (tj x.op)) S:=fun K=>nh _ _
  have M:∀K:bd,(aQ aF G X).b1 S K 1 (pt x.op)=K (I (hJ x.op)) S:=fun K=>ni _ _ _
  have N:∀K:bd,(aQ aF G X).b1 S K 2 (pt x.op)=K (.bool (jd x.op)) S:=fun K=>tO _ _ _ _
  have y:=fun S k=>nD G X S k pre.length (by omega)
  have no:nq want (hJ x.op)=false→s0 (aQ aF G X) (bc l g) (I want) (I n) (.bx 1 (acc.map I) g') (.int .i64 (pre.length:Int)) S=.ok (I (xV (acc++jP want (x::rest) pre.length) n)) s:=fun bA=>by
   rw[xC,y]
   have:=u (pre++[x]) acc g' S (by rw[h];simp) (by simp;omega) r b2;rw[fW,List.length_singleton] at this;rw[this];simp [jP,bA]
  have A:nq want (hJ x.op)=true→(aQ aF G X).bf S (fun O s=>(aQ aF G X).fm s (fun U s=>s0 (aQ aF G X) (bc l g) (I want) (I n) U (.int .i64 (pre.length:Int)) s) 1 8 (some (.l 0)) (.bx 1 (acc.map I) g') O) 1 [.int .i64 (pre.length:Int)]=.ok (I (xV (acc++jP want (x::rest) pre.length) n)) s:=fun bA=>by
   rw[zx];refine zy (new:=[I (pre.length:Int)]) (by simpa using b2) (by simp) (by simp;omega) rfl (fun g2 V Y ar aw bS Z=>?_);rw[xC,y]
   have:=u (pre++[x]) (acc++[(pre.length:Int)]) g2 V (by rw[h];simp) (by simp;omega) (Z.child r) (by simpa using Y);rw[fW,List.length_singleton] at this;rw[List.map_append] at this;refine this.trans ?_;simp [jP,bA]
  rw[xD,aI,e,bl,dR (by omega),ek,Hs,H,dC,J,aA,aZ AZ,hex,M,N,bO];by_cases ar:hJ x.op=want
  ·rw[dR ar];simp -implicitDefEqProofs only[hi,fH,ek,b7];exact A (by simp [nq,ar])
  ·rw[b0 ar];simp -implicitDefEqProofs only[ee,bO];by_cases aw:want=0
   ·simp -implicitDefEqProofs only[dR aw,f5,cf];by_cases bS:hJ x.op=1
    ·simp -implicitDefEqProofs only[b0 (show¬¬hJ x.op=1 by omega),fH,ew,eg];exact no (by simp [nq,ar,aw,bS])
    ·simp -implicitDefEqProofs only[dR bS,fH,ew,ek];exact A (by simp [nq,aw,bS])
   ·simp -implicitDefEqProofs only[b0 aw,gP,b7,ew,eg];exact no (by simp [nq,ar,aw])
theorem aaM(l:List az)(g:e0)(want n:Int)(cZ: -9223372036854775808≤n∧n≤9223372036854775807)(bU:l.length≤1000)(s:ah):aB aF G X 35 [bc l g,I want,I n] s=.ok (I (k9 l want n)) s:=by
 rw[NC,Z6]
 have:=Iw G X l g want n cZ bU s l [] [] .nil s.ag rfl (aC _) (Child.ag s) .nil;exact this
end
end Go.gF
end
section
namespace Go.gF
open Go.Ab Go.hV
set_option maxRecDepth 1000000
abbrev N2:ah:={own:=[],up:=[],ro:=[]}
def N3:List af→Option (List Nat)
 |[]=>some []
 |.int .u32 n::l=>if 0≤n∧n<4294967296 then(N3 l).map (n.toNat:: ·) else none
 |_::_=>none
def aaN(m:List Nat):e0→Bool
 |.cP _=>false
 |.nil=>m.isEmpty
 |_=>true
structure fV.FI (n:fV):Prop where
 nil:n.g=.nil→n.g9=[]
 len:n.g9.length≤100000
def af2(r:ai):Bool:=
 match r with
 |.ok (.ed [.agg [.bool TR,.bx 1 e tQ,.bool jk,.bx 1 zA gZ],.int .i64 0]) _=>
  match N3 e,N3 zA with
  |some a,some b=>aaN a tQ&&aaN b gZ&&Nat.ble a.length 1000&&Nat.ble b.length 1000&&nW TR jk a b
  |_,_=>false
 |_=>false
structure af3 (v:af) (g6 bP:fV):Prop where
 v:v=.agg [.bool g6.neg,g6.v,.bool bP.neg,bP.v]
 CT:kA g6
 gH:kA bP
 valid:jr g6 bP=true
 TR:g6.FI
 jk:bP.FI
theorem xW:∀{m:List af} {a:List Nat},N3 m=some a→m=a.map U∧dU a
 |[],a,h=>by simp only[N3,bt] at h;subst h;exact⟨rfl,fun x a1=>by cases a1⟩
 |e::m,a,h=>by
  unfold N3 at h;split at h
  ·rename_i r;cases r
  ·rename_i n l r;cases r;split at h
   ·rename_i cZ;obtain⟨l',ar,aw⟩:=Option.map_eq_some_iff.1 h;subst aw;obtain⟨bS,dB⟩:=xW ar;refine⟨?_,fun x a1=>?_⟩
    ·rw[fc,←bS];simp [U,Int.toNat_of_nonneg cZ.1]
    ·rcases List.mem_cons.1 a1 with rfl |a1
     ·rw[lk];omega
     ·exact dB x a1
   ·cases h
  ·cases h
theorem Mw{m:List Nat}{g:e0}(h:aaN m g=true):∀a,g≠.cP a:=fun a e=>by subst e;cases h
theorem Mx{m:List Nat}{g:e0}(h:aaN m g=true):g=.nil→m=[]:=fun e=>by subst e;exact List.isEmpty_iff.1 h
theorem TS{r:ai}(h:af2 r=true):∃v s' g6 bP,r=.ok (.ed [v,.int .i64 0]) s'∧af3 v g6 bP:=by
 unfold af2 at h;split at h
 ·rename_i TR I tQ jk zA gZ s';split at h
  ·rename_i a b e u;simp only[bo] at h;obtain⟨⟨⟨⟨ar,aw⟩,bS⟩,dB⟩,y⟩:=h;obtain⟨A,B⟩:=xW e;obtain⟨F,H⟩:=xW u;have J:=d9 bS;have M:=d9 dB;exact⟨_,s',⟨TR,a,tQ⟩,⟨jk,b,gZ⟩,rfl,by rw[A,F];rfl,⟨Mw ar,B,by show a.length<_;omega⟩,⟨Mw aw,H,by show b.length<_;omega⟩,y,⟨Mx ar,by show a.length≤_;omega⟩,⟨Mx aw,by show b.length≤_;omega⟩⟩
  ·cases h
 ·cases h
section
variable(G:Nat→af)(X:Nat→List af→ah→ai)
noncomputable def hj(a:Nat):Bool:=(List.range 4).all fun b=>af2 (call a2.full aF G X 200 46 [I ((a:Int)-16),I ((b:Int)+1)] N2)
end
end Go.gF
end
