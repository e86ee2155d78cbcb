/- A part of the proof: no condition. -/
import Derived.Test.YtgdnbfijkagodaaGreatDoorA6
import Derived.Test.YtgdnbfijkagodaaGreatDoorA3
import Derived.Test.YtgdnbfijkagodaaGreatDoorA5
import Derived.KernelRfl
set_option linter.unusedSectionVars false
set_option linter.unusedSimpArgs false
set_option linter.unusedVariables false
section
namespace Go.gR
open Go.Ab Go.hO
variable(G:Nat→ae)(X:Nat→List ae→ag→ah)
abbrev tI(p:Nat×Nat):ae:=.agg [I p.1,I p.2]
def mA(i:Nat)(x:a5):List (Nat×Nat):=if x.op=1 then[(i,0),(i,1)] else if x.op=2 then[(i,0)] else[]
def jN:List a5→Nat→List (Nat×Nat)
 |[],_=>[]
 |x::r,i=>mA i x++jN r (i+1)
theorem E2(i:Nat)(x:a5):(mA i x).length≤2:=by unfold mA;split<;> (try split)<;> simp
theorem og:∀l:List (Nat×Nat),ae.a7 (l.map tI)=true
 |[]=>rfl
 |x::l=>by simp -implicitDefEqProofs only[gd,ae.a7,og l,Bool.and_true];rfl
theorem xT:∀l:List (Nat×Nat),((l.map tI).flatMap ae.cells).all ae.eG=true
 |[]=>rfl
 |x::l=>by simp -implicitDefEqProofs only[gd,List.flatMap_cons,List.all_append,xT l,Bool.and_true];rfl
theorem Om{S:ag}{k:be}(l:List (Nat×Nat)):(a0 aR G X).a6 S k 2 (l.map tI)=k (.cr 2 (l.map tI) .exact) S:=by
 refine nc 2 _ (og l) ?_
 induction l with
 |nil=>rfl
 |cons x l e=>simp -implicitDefEqProofs only[gd,List.all_cons,e,Bool.and_true];rfl
theorem sE{α β:Type}(f:α→β)(l:List α):gp (l.map f)=gp l:=by cases l<;> rfl
theorem zr{S:ag}(a b:Nat)(k:be):(a0 aR G X).hq [.int .i64 0,.int .i64 0] [(0,1,.int .i64 (a:Int)),(1,1,.int .i64 (b:Int))] S k=k (tI (a,b)) S:=rfl
theorem UT(l:List a5)(g:e2)(s:ag)(bK:l.length≤1000):aP aR G X 44 [b3 l g] s=.ok (.cr 2 ((jN l 0).map tI) (gp (jN l 0))) s:=by
 have loop:∀n i:Nat,i+n=l.length→∀(es:List (Nat×Nat)) (ge:e2) (S:ag),Child s S→gY S ge es.length→es.length≤2*i→
   tX (a0 aR G X) (.cr 2 (es.map tI) ge) (b3 l g) (.int .i64 (l.length:Int)) (.int .i64 (i:Int)) S=.ok (.cr 2 ((es++jN (l.drop i) i).map tI) (gp (es++jN (l.drop i) i))) s:=by
  intro n
  induction n with
  |zero=>
   intro i bY es ge S r cB he;have e:¬(i:Int)<(l.length:Int):=by omega
   rw[vP,br,bR e,ee,DX,l5 (by omega)];simp -implicitDefEqProofs only[jN,uj]
   have:=n5 (S:=S) (sz:=2) (es:=es.map tI) (g:=ge) (by simpa using cB) (og es);rw[sE] at this;exact kl r _ _ this
  |succ n u=>
   intro i bY es ge S r cB he;have e:(i:Int)<(l.length:Int):=by omega
   have y:i<l.length:=by omega
   have H:(l.map a5.enc)[i]? =some l[i].enc:=by simp [y]
   have ip:=fun(k:be)=>Ca G X S k 12 _ g .i64 i _ H
   have I:∀x,l[i]=x→l.drop i=x::l.drop (i+1):=fun x a9=>by rw[←a9];exact jq y
   generalize a9:l[i]=x at *;have J:∀(S:ag) (k:be),(a0 aR G X).ay S k (some 12) (.bP x.enc.cells)=k x.enc S:=fun S k=>bi (T:=aR) (G:=G) (X:=X) (s:=S) (k:=k) 12 x.cs (aB 12)
   have K:∀d,ae.ap d x.enc=x.enc:=fun d=>rfl
   have gP:=fun(k:be) (cs:List ae) (h:cs.length=12)=>cN (T:=aR) (G:=G) (X:=X) (s:=S) (k:=k) 12 x.cs cs rfl h x.cells
   have A:=fun S k=>nh G X S k i (by omega)
   have cR:=I x rfl;have B:gY (S.new (.cells x.cs)) ge es.length:=cB.new _;have app:∀new:List (Nat×Nat),new=mA i x→new≠[]→(a0 aR G X).f8 (S.new (.cells x.cs)) (fun v S=>rM (a0 aR G X) v (b3 l g) (.int .i64 (l.length:Int)) (.int .i64 (i:Int)) S) 2 16 (some (.l 0)) (.cr 2 (es.map tI) ge) (.cr 2 (new.map tI) .exact)=.ok (.cr 2 ((es++jN (l.drop i) i).map tI) (gp (es++jN (l.drop i) i))) s:=fun new F e3=>by
    have hlen:new.length≤2:=by rw[F];exact E2 i x
    refine xC (by simpa using B) (by simpa using e3) (by simp;omega) (xT new) (fun g' S' L ar av bO M=>?_);rw[vO,A,←List.map_append]
    have:=u (i+1) (by omega) (es++new) g' S' (M.child (r.new _)) (by simpa using L) (by simp;omega);rw[this,cR];simp -implicitDefEqProofs only[jN,F,p2]
   rw[vP,br,dH e,d0,DW,ip,J,cI,K];refine(gP _ _ rfl).trans ?_;rw[az,bf,xS,bl];by_cases ar:x.op=1
   ·have bY:mA i x=[(i,0),(i,1)]:=by unfold mA;rw[if_pos ar]
    have a:=app _ bY.symm (by simp);rw[dH ar,d0];refine(zr G X i 0 _).trans ?_;refine(zr G X i 1 _).trans ?_;refine(Om G X [(i,0),(i,1)]).trans ?_;exact a
   ·rw[bR ar,ee,bl];by_cases av:x.op=2
    ·have bY:mA i x=[(i,0)]:=by unfold mA;rw[if_neg ar,if_pos av]
     have a:=app _ bY.symm (by simp);rw[dH av,d0];refine(zr G X i 0 _).trans ?_;refine(Om G X [(i,0)]).trans ?_;exact a
    ·have bY:mA i x=[]:=by unfold mA;rw[if_neg ar,if_neg av]
     have:=u (i+1) (by omega) es ge (S.new (.cells x.cs)) (r.new _) B (by omega);rw[bR av,ee,vO,A,this,cR];simp -implicitDefEqProofs only[jN,bY,List.nil_append]
 rw[IV,Ul,aC,eo]
 have:=loop l.length 0 (by omega) [] .nil s.aj (.aj s) .nil (by simp);simp -implicitDefEqProofs only[List.map_nil,List.nil_append,bW] at this;exact this
def jx:List a5→List a5→Bool
 |_,[]=>true
 |pre,x::r=>wf pre x&&jx (pre++[x]) r
def zw(l:List a5):Nat:=(l.filter fun x=>iD x.op).length
def iv(l:List a5):Int:=bif jx [] l then(if 40<l.length∨5<zw l∨20<(jN l 0).length then 111 else 0) else 120
theorem Cw(l:List a5)(x:a5):zw (l++[x])=zw l+(if iD x.op=true then 1 else 0):=by unfold zw;rw[List.filter_append,gu];congr 1;simp -implicitDefEqProofs only[List.filter_cons,List.filter_nil];split<;> rfl
theorem On(l:List a5):zw l≤l.length:=List.length_filter_le _ _
theorem H7(l:List a5)(g:e2)(cB:∀a,g≠.dt a)(s:ag)(bK:l.length<9223372036854775806)(dd:∀o,o∈l→qo o):aP aR G X 16 [b3 l g] s=.ok (I (iv l)) s:=by
 have fin:∀S,Child s S→y4 (a0 aR G X) (b3 l g) (I (zw l:Int)) S=.ok (I (if 40<l.length∨5<zw l∨20<(jN l 0).length then 111 else 0)) s:=fun S r=>by
  have Z:=On l;have u:=fun n=>ih (T:=aR) (G:=G) (X:=X) r .i64 n
  rw[DO,aC,eo,b5];by_cases ar:40<l.length
  ·have e:(40:Int)<(l.length:Int):=by omega
   rw[if_pos (.inl ar)];simp -implicitDefEqProofs only[dH e,gh,fc,d0,bG];exact u _
  ·have e:¬(40:Int)<(l.length:Int):=by omega
   simp -implicitDefEqProofs only[bR e,eL,eM,b5];by_cases av:5<zw l
   ·have B:(5:Int)<(zw l:Int):=by omega
    rw[if_pos (.inr (.inl av))];simp -implicitDefEqProofs only[dH B,gh,fc,d0,bG];exact u _
   ·have B:¬(5:Int)<(zw l:Int):=by omega
    have c:=UT G X l g S (by omega);simp -implicitDefEqProofs only[bR B,eL,eM,iu _ cB];rw[bd c];simp -implicitDefEqProofs only[aC,eo,b5];by_cases bO:20<(jN l 0).length
    ·have F:(20:Int)<((jN l 0).length:Int):=by omega
     rw[if_pos (.inr (.inr bO)),dH F,d0];exact u _
    ·have F:¬(20:Int)<((jN l 0).length:Int):=by omega
     rw[if_neg (by omega),bR F,ee,DN];exact u _
 have loop:∀n i:Nat,i+n=l.length→∀S,Child s S→
   tV (a0 aR G X) (b3 l g) (I (zw (l.take i):Int)) (b3 l g) (.int .i64 (l.length:Int)) (.int .i64 (i:Int)) S=.ok (I (bif jx (l.take i) (l.drop i) then(if 40<l.length∨5<zw l∨20<(jN l 0).length then 111 else 0) else 120)) s:=by
  intro n
  induction n with
  |zero=>
   intro i bY S r;have e:¬(i:Int)<(l.length:Int):=by omega
   rw[vM,br,bR e,ee,l5 (by omega),jr (by omega),fin S r];rfl
  |succ n M=>
   intro i bY S r;have e:(i:Int)<(l.length:Int):=by omega
   have A:i<l.length:=by omega
   have N:(l.map a5.enc)[i]? =some l[i].enc:=by simp [A]
   have ip:=fun(k:be)=>Ca G X S k 12 _ g .i64 i _ N
   have jo:l[i]∈l:=m0 A;have cR:l.drop i=l[i]::l.drop (i+1):=jq A;have dU:l.take (i+1)=l.take i++[l[i]]:=List.take_succ_eq_append_getElem A;generalize a9:l[i]=x at *;have O:∀(S:ag) (k:be),(a0 aR G X).ay S k (some 12) (.bP x.enc.cells)=k x.enc S:=fun S k=>bi (T:=aR) (G:=G) (X:=X) (s:=S) (k:=k) 12 x.cs (aB 12)
   have U:∀d,ae.ap d x.enc=x.enc:=fun d=>rfl
   have gP:=fun(k:be) (cs:List ae) (h:cs.length=12)=>cN (T:=aR) (G:=G) (X:=X) (s:=S) (k:=k) 12 x.cs cs rfl h x.cells
   have H:=fun S k=>nh G X S k i (by omega)
   have cr:=fun(S:ag) (k:be)=>H6 G X l cB (i+1) (by omega) S k
   rw[dU] at cr;have J:=vn cB l.length (i+1);have aa:(l.take i).length=i:=by simp;omega
   have X0:=US G X (l.take i) x _ J (S.new (.cells x.cs)) (by omega) (dd x jo) (fun o V=>dd o (List.mem_of_mem_take V));have K:=fun(k:be)=>bV (T:=aR) (G:=G) (X:=X) (s:=S) (k:=k) 12 x.cs (aB 12)
   rw[ug] at K;have Dr:=UN G X x (S.new (.cells x.cs));have u:=fun n=>ih (T:=aR) (G:=G) (X:=X) (r.new (.cells x.cs)) .i64 n
   have y:=M (i+1) (by omega) (S.new (.cells x.cs)) (r.new _);rw[dU,Cw] at y;have ab:=On (l.take i);rw[vM,br,dH e,d0,DM,ip,O,cI,U];refine(gP _ _ rfl).trans ?_;rw[H,cr,iu _ J,bd X0,cS,cR];simp -implicitDefEqProofs only[jx];cases hw:wf (l.take i) x with
   |false=>rw[g1,d0,fx,cond_false];exact u _
   |true=>
    rw[g3,ee,er,DL];refine(K _).trans ?_;show(a0 aR G X).bA (S.new (.cells x.cs)) _ 43 [x.enc]=_;rw[bd Dr];cases L:iD x.op with
    |false=>rw[L] at y;rw[ee,vL,H];exact y
    |true=>
     rw[L] at y;have Y:=fun S k=>nh G X S k (zw (l.take i)) (by omega)
     rw[d0,Y,vL,H];exact y
 rw[IR,Uh,aC,eo];exact loop l.length 0 (by omega) s.aj (.aj s)
def Z6:hV:=⟨false,[],.nil⟩
theorem jT:oz Z6 where
 g:=fun a e=>by cases e
 ok:=fun x a9=>absurd a9 p3
 len:=by decide
instance:Inhabited hV:=⟨⟨false,[],.nil⟩⟩
instance:Inhabited a5:=⟨⟨[],0,[],.nil,default,default,default,default,0⟩⟩
def jO(l:List a5)(i:Int):Int:=if iv l≠0 then iv l else if i<0∨(l.length:Int)≤i then 1 else 0
section
variable(l:List a5)(g:e2)(cB:∀a,g≠.dt a)(bK:l.length<9223372036854775806)(dd:∀o,o∈l→qo o)(i:Int)(s:ag)
include cB bK dd
theorem UU:aP aR G X 37 [b3 l g,I i] s=.ok (I (jO l i)) s:=by
 have c:=bd (T:=aR) (G:=G) (X:=X) (s:=s.aj) (k:=fun e s=>(a0 aR G X).ai s (fun r s=>(a0 aR G X).aK r ((a0 aR G X).a4 false [some e] s) (y8 (a0 aR G X) (b3 l g) (I i) s)) (al .neq e (.int .i64 0))) (H7 G X l g cB s.aj bK dd);have fp:ae.ap s.aj.aa (b3 l g)=b3 l g:=iu l cB _;rw[IW,Um,fp];refine c.trans ?_;rw[cF];unfold jO;by_cases h:iv l=0
 ·rw[bR (by simp [h]),ee,if_neg (by simp [h]),DZ,br];by_cases ar:i<0
  ·rw[dH ar,if_pos (.inl ar)];simp -implicitDefEqProofs only[gh,bG,fc,d0];exact aJ _ _
  ·rw[bR ar];simp -implicitDefEqProofs only[eL,aC,eo,cA,eM];by_cases av:(l.length:Int)≤i
   ·rw[dH av,d0,if_pos (.inr av)];exact aJ _ _
   ·rw[bR av,ee,if_neg (by omega),DY];exact aJ _ _
 ·rw[dH h,d0,if_pos h];exact aJ _ _
theorem H8:aP aR G X 20 [b3 l g,I i] s=.ok (if jO l i=0 then .eb [I (fE (l.getD i.toNat default).op),I 0] else .eb [I 0,I (jO l i)]) s:=by
 have fp:=iu l cB s.aj.aa;rw[IS,Ui,fp];refine(bd (UU G X l g cB bK dd i s.aj)).trans ?_;rw[cF];by_cases h:jO l i=0
 ·rw[bR (by simp [h]),ee,if_pos h,DP];have bY:0≤i∧i<(l.length:Int):=by
   unfold jO at h;split at h
   ·rename_i av;exact absurd h av
   ·split at h
    ·cases h
    ·rename_i bO;omega
  obtain⟨n,rfl⟩:=Int.eq_ofNat_of_zero_le bY.1;have dk:n<l.length:=by omega
  have dM:(l.map a5.enc)[n]? =some (l[n]).enc:=by simp [dk]
  have e:=fun(k:be)=>mq (T:=aR) (G:=G) (X:=X) (s:=s.aj) (k:=k) 12 _ g .i64 n _ dM
  have r:∀K:be,(a0 aR G X).ay s.aj K (some 12) (.bP (ae.cells (l[n]).enc))=K (l[n]).enc s.aj:=fun K=>rfl
  have u:ae.ap s.aj.aa (l[n]).enc=(l[n]).enc:=rfl;rw[e,r,u];refine(bd (zp G X (l[n]) s.aj)).trans ?_
  have:l.getD (n:Int).toNat default=l[n]:=by simp [List.getD,dk]
  rw[this];exact km (Child.aj s) _ _ _ _ rfl rfl
 ·rw[dH h,d0,if_neg h];exact km (Child.aj s) _ _ _ _ rfl rfl
end
end Go.gR
end
section
namespace Go.gR
open Go.Ab
set_option maxRecDepth 100000
section
variable(G:Nat→ae)(X:Nat→List ae→ag→ah)
theorem r2{s:ag}{k:be}(ek:IntKind)(a b:Int)(h:b≠0):(a0 aR G X).ai s k (al .rem (.int ek a) (.int ek b))=k (.int ek (a.tmod b)) s:=by rw[show al .rem (.int ek a) (.int ek b)=some (.int ek (a.tmod b)) from by simp [al,gj,h]];rfl
theorem zs{s:ag}{k:be}(ek:IntKind)(a b:Int)(h:b≠0):(a0 aR G X).ai s k (al .quo (.int ek a) (.int ek b))=k (.int ek (ek.wrap (a.tdiv b))) s:=by rw[show al .quo (.int ek a) (.int ek b)=some (.int ek (ek.wrap (a.tdiv b))) from by simp [al,gj,h]];rfl
theorem xU(s:ag)(k:be)(d ek:IntKind)(n:Int):(a0 aR G X).b4 s k d (.int ek n)=k (.int d (d.wrap n)) s:=rfl
theorem u8_in(n:Nat)(h:n<256):IntKind.wrap .u8 (n:Int)=(n:Int):=by
 have:∀n:Fin 256,IntKind.wrap .u8 ((n:Nat):Int)=((n:Nat):Int):=by decide
 exact this ⟨n,h⟩
end
def pY:List Int:=[1,10,100,1000,10000,100000,1000000,10000000,100000000,1000000000,10000000000,100000000000,1000000000000,10000000000000,100000000000000,1000000000000000,10000000000000000,100000000000000000,1000000000000000000,10000000000000000000]
def iN:List ae:=pY.map fun n=>.int .u64 n
section
variable(G:Nat→ae)(X:Nat→List ae→ag→ah)
theorem H9{s:ag}{k:be}(fb:List Nat)(ek:IntKind)(i:Nat)(b:Nat)(h:fb[i]? =some b):(a0 aR G X).hk s k (.str fb) (.int ek (i:Int))=k (.int .u8 b) s:=by show h0 (gz G (aP aR G X) bL) s k (.str fb) (.int ek (i:Int))=_;unfold h0;simp -implicitDefEqProofs only[g5,h];rfl
theorem UW{s:ag}{k:be}(cs:List ae)(n:Nat)(ek:IntKind)(i:Nat)(h:i<n):(a0 aR G X).l2 s k 1 n (.bP cs) (.int ek (i:Int))=k (.bP (cs.drop i)) s:=by show hH (gz G (aP aR G X) bL) s k 1 n (.bP cs) (.int ek (i:Int))=_;unfold hH;simp -implicitDefEqProofs only[g5,show Nat.blt i n=true from by simp [Nat.blt_eq,h],bX,Nat.mul_one];rfl
theorem E3{s:ag}{k:be}(ek e:IntKind)(a b:Int)(h:0≤b):(a0 aR G X).ai s k (al .shr (.int ek a) (.int e b))=k (.int ek (a.fdiv (2^(min b.toNat ek.bits)))) s:=by rw[show al .shr (.int ek a) (.int e b)=some (.int ek (a.fdiv (2^(min b.toNat ek.bits)))) from by simp [al,lA,Int.not_lt.2 h]];rfl
end
def gG:List Nat:=[0,1,2,2,3,3,3,3,4,4,4,4,4,4,4,4,5,5,5,5,5,5,5,5,5,5,5,5,5,5,5,5,6,6,6,6,6,6,6,6,6,6,6,6,6,6,6,6,6,6,6,6,6,6,6,6,6,6,6,6,6,6,6,6,7,7,7,7,7,7,7,7,7,7,7,7,7,7,7,7,7,7,7,7,7,7,7,7,7,7,7,7,7,7,7,7,7,7,7,7,7,7,7,7,7,7,7,7,7,7,7,7,7,7,7,7,7,7,7,7,7,7,7,7,7,7,7,7,8,8,8,8,8,8,8,8,8,8,8,8,8,8,8,8,8,8,8,8,8,8,8,8,8,8,8,8,8,8,8,8,8,8,8,8,8,8,8,8,8,8,8,8,8,8,8,8,8,8,8,8,8,8,8,8,8,8,8,8,8,8,8,8,8,8,8,8,8,8,8,8,8,8,8,8,8,8,8,8,8,8,8,8,8,8,8,8,8,8,8,8,8,8,8,8,8,8,8,8,8,8,8,8,8,8,8,8,8,8,8,8,8,8,8,8,8,8,8,8,8,8,8,8,8,8,8,8]
def kY:List Nat:=[48,48,48,49,48,50,48,51,48,52,48,53,48,54,48,55,48,56,48,57,49,48,49,49,49,50,49,51,49,52,49,53,49,54,49,55,49,56,49,57,50,48,50,49,50,50,50,51,50,52,50,53,50,54,50,55,50,56,50,57,51,48,51,49,51,50,51,51,51,52,51,53,51,54,51,55,51,56,51,57,52,48,52,49,52,50,52,51,52,52,52,53,52,54,52,55,52,56,52,57,53,48,53,49,53,50,53,51,53,52,53,53,53,54,53,55,53,56,53,57,54,48,54,49,54,50,54,51,54,52,54,53,54,54,54,55,54,56,54,57,55,48,55,49,55,50,55,51,55,52,55,53,55,54,55,55,55,56,55,57,56,48,56,49,56,50,56,51,56,52,56,53,56,54,56,55,56,56,56,57,57,48,57,49,57,50,57,51,57,52,57,53,57,54,57,55,57,56,57,57]
def uh:List Nat:=[48,49,50,51,52,53,54,55,56,57,97,98,99,100,101,102,103,104,105,106,107,108,109,110,111,112,113,114,115,116,117,118,119,120,121,122]
def wo(n:Nat):ae:=.int .u8 (n:Int)
theorem wa(b:Nat)(h:b<100):kY[b*2]? =some (48+b/10):=by
 have:∀b:Fin 100,kY[b.val*2]? =some (48+b.val/10):=by decide
 exact this ⟨b,h⟩
theorem wb(b:Nat)(h:b<100):kY[b*2+1]? =some (48+b%10):=by
 have:∀b:Fin 100,kY[b.val*2+1]? =some (48+b.val%10):=by decide
 exact this ⟨b,h⟩
theorem jV{x:Int}(eJ:0≤x)(ar:x≤4294967295):IntKind.wrap .u32 x=x:=IntWalk.u32_in x ⟨eJ,ar⟩
theorem Cx{i:Nat}(h:i<256):gG[i]? =some (gG.getD i 0):=by have:i<gG.length:=h;simp [List.getD,this]
theorem mB(i:Nat):gG.getD i 0≤8:=by
 by_cases h:i<256
 ·have:∀i:Fin 256,gG.getD i 0≤8:=by decide
  exact this ⟨i,h⟩
 ·have:gG.length≤i:=by show 256≤i;omega
  simp [List.getD,List.getElem?_eq_none this]
section
variable(G:Nat→ae)(X:Nat→List ae→ag→ah)
theorem Ia{s:ag}{k:be}(fb:List Nat)(k1 pI:IntKind)(l h:Nat)(ar:l≤h)(av:h≤fb.length):(a0 aR G X).ve (.str fb) (some (.int k1 (l:Int))) (some (.int pI (h:Int))) s k=k (.str ((fb.drop l).take (h-l))) s:=by show hSub (.str fb) (some (.int k1 (l:Int))) (some (.int pI (h:Int))) s k=_;unfold hSub pA;simp -implicitDefEqProofs only[g5,eN ar,eN av,bC,bX]
theorem sF{s:ag}{k:be}(i:Int)(b:Nat)(h:∃j:Nat,i=(j:Int)∧kY[j]? =some b):(a0 aR G X).hk s k (.str kY) (.int .u32 i)=k (.int .u8 b) s:=by obtain⟨j,rfl,df⟩:=h;exact H9 G X kY .u32 j b df
end
def E4(v:Nat):Nat:=if 256≤v then 8+gG.getD (v/256) 0 else gG.getD v 0
def pZ(u:Nat):Nat:=if 65536≤u then 16+E4 (u/65536) else E4 u
def tu(u:Nat):Nat:=pZ u*78913/262144
def g0(u:Nat):Nat:=if u<1000 then 3 else if u<10000 then 4 else if u<100000 then 5 else 6
section
variable(G:Nat→ae)(X:Nat→List ae→ag→ah)
theorem Ib(v a:Nat)(s:ag)(bJ:v<256)(u:a≤24):rN (a0 aR G X) (.int .u64 (v:Int)) (.int .i64 (a:Int)) s.aj=.ok (I ((a+gG.getD v 0:Nat):Int)) s:=by
 have e:=fun(k:be)=>H9 G X (s:=s.aj) (k:=k) gG .u8 v _ (Cx bJ)
 have dM:IntKind.wrap .u8 (v:Int)=(v:Int):=u8_in v bJ;have hle:=mB v;have h:IntKind.wrap .i64 ((gG.getD v 0:Nat):Int)=((gG.getD v 0:Nat):Int):=eK _ (by omega) (by omega);have r:IntKind.wrap .i64 ((a:Int)+((gG.getD v 0:Nat):Int))=((a+gG.getD v 0:Nat):Int):=by rw[eK _ (by omega) (by omega)];omega
 unfold gG at e;rw[B2];simp -implicitDefEqProofs only[↓xU,dM,↓e];simp -implicitDefEqProofs only[←gG.eq_1,↓cI,↓cM,↓bU,↓bk,↓aA,↓aD,↓aw,↓aE,↓aM,↓aN,↓ax,↓aF,↓aC,↓aT,↓aW,↓bc,↓dI,↓az,↓bs,↓b0,↓c1,↓b7,↓b8,↓b1,↓b9,↓ca,↓cb,↓cc,↓cd,↓cf,↓bu,↓bw,↓bx,↓c2,↓c3,↓c4,↓c5,↓c6,↓c7,↓c8,↓c9,↓da,↓cg,↓ch,↓ci,↓fl,↓fA,↓fP,↓bl,↓cF,↓br,↓cX,↓b5,↓cA,↓cS,↓db,↓aX,↓aO,↓aY,↓aJ,↓aH,↓aZ,↓cN,↓bV,↓b2,↓cj,↓ck,↓cl,↓cm,↓cn,↓co,↓cp,↓cq,bW,dQ,List.cons_append,List.nil_append,b6,decide_eq_false_iff_not,ite_not,↓reduceIte,a8,aG,ba,bz,eS,d8,d9,bf,bT,cx,Nat.reduceAdd,List.all_cons,List.all_nil,ds,dg,du,dO,bC,↓bi,Nat.reduceLeDiff,aB,cT,cW,↓xU,h,r]
theorem Ic(v a:Nat)(s:ag)(bJ:v<65536)(u:a≤16):rO (a0 aR G X) (.int .u64 (v:Int)) (.int .i64 (a:Int)) s.aj=.ok (I ((a+E4 v:Nat):Int)) s:=by
 unfold E4;by_cases h:256≤v
 ·have e:(256:Int)≤(v:Int):=by omega
  have dM:(v:Int).fdiv (2^(min (8:Int).toNat (IntKind.bits .u64)))=((v/256:Nat):Int):=by show(v:Int).fdiv 256=_;rw[Int.fdiv_eq_ediv_of_nonneg _ (by omega)];omega
  have r:IntKind.wrap .i64 ((a:Int)+8)=((a+8:Nat):Int):=by rw[eK _ (by omega) (by omega)];omega
  have:=Ib G X (v/256) (a+8) s (by omega) (by omega);rw[tm];simp -implicitDefEqProofs only[↓cI,↓cM,↓bU,↓bk,↓aA,↓aD,↓aw,↓aE,↓aM,↓aN,↓ax,↓aF,↓aC,↓aT,↓aW,↓bc,↓dI,↓az,↓bs,↓b0,↓c1,↓b7,↓b8,↓b1,↓b9,↓ca,↓cb,↓cc,↓cd,↓cf,↓bu,↓bw,↓bx,↓c2,↓c3,↓c4,↓c5,↓c6,↓c7,↓c8,↓c9,↓da,↓cg,↓ch,↓ci,↓fl,↓fA,↓fP,↓bl,↓cF,↓br,↓cX,↓b5,↓cA,↓cS,↓db,↓aX,↓aO,↓aY,↓aJ,↓aH,↓aZ,↓cN,↓bV,↓b2,↓cj,↓ck,↓cl,↓cm,↓cn,↓co,↓cp,↓cq,bW,dQ,List.cons_append,List.nil_append,b6,decide_eq_false_iff_not,ite_not,↓reduceIte,a8,aG,ba,bz,eS,d8,d9,bf,bT,cx,Nat.reduceAdd,List.all_cons,List.all_nil,ds,dg,du,dO,bC,↓bi,Nat.reduceLeDiff,aB,cT,cW,eq_true e,dF,↓E3 G X _ _ _ _ (show(0:Int)≤8 by omega),dM,r,if_pos h,this];rw[Nat.add_assoc]
 ·have e:¬(256:Int)≤(v:Int):=by omega
  have:=Ib G X v a s (by omega) (by omega);rw[tm];simp -implicitDefEqProofs only[↓cI,↓cM,↓bU,↓bk,↓aA,↓aD,↓aw,↓aE,↓aM,↓aN,↓ax,↓aF,↓aC,↓aT,↓aW,↓bc,↓dI,↓az,↓bs,↓b0,↓c1,↓b7,↓b8,↓b1,↓b9,↓ca,↓cb,↓cc,↓cd,↓cf,↓bu,↓bw,↓bx,↓c2,↓c3,↓c4,↓c5,↓c6,↓c7,↓c8,↓c9,↓da,↓cg,↓ch,↓ci,↓fl,↓fA,↓fP,↓bl,↓cF,↓br,↓cX,↓b5,↓cA,↓cS,↓db,↓aX,↓aO,↓aY,↓aJ,↓aH,↓aZ,↓cN,↓bV,↓b2,↓cj,↓ck,↓cl,↓cm,↓cn,↓co,↓cp,↓cq,bW,dQ,List.cons_append,List.nil_append,b6,decide_eq_false_iff_not,ite_not,↓reduceIte,a8,aG,ba,bz,eS,d8,d9,bf,bT,cx,Nat.reduceAdd,List.all_cons,List.all_nil,ds,dg,du,dO,bC,↓bi,Nat.reduceLeDiff,aB,cT,cW,eq_false e,dw,bS,if_neg h,this]
theorem Oo(u:Nat)(s:ag)(h:u<4294967296):aP aR G X 112 [.int .u64 (u:Int)] s=.ok (I (pZ u)) s:=by
 have r:¬(4294967296:Int)≤(u:Int):=by omega
 rw[EL,N3];unfold pZ;simp -implicitDefEqProofs only[↓cI,↓cM,↓bU,↓bk,↓aA,↓aD,↓aw,↓aE,↓aM,↓aN,↓ax,↓aF,↓aC,↓aT,↓aW,↓bc,↓dI,↓az,↓bs,↓b0,↓c1,↓b7,↓b8,↓b1,↓b9,↓ca,↓cb,↓cc,↓cd,↓cf,↓bu,↓bw,↓bx,↓c2,↓c3,↓c4,↓c5,↓c6,↓c7,↓c8,↓c9,↓da,↓cg,↓ch,↓ci,↓fl,↓fA,↓fP,↓bl,↓cF,↓br,↓cX,↓b5,↓cA,↓cS,↓db,↓aX,↓aO,↓aY,↓aJ,↓aH,↓aZ,↓cN,↓bV,↓b2,↓cj,↓ck,↓cl,↓cm,↓cn,↓co,↓cp,↓cq,bW,dQ,List.cons_append,List.nil_append,b6,decide_eq_false_iff_not,ite_not,↓reduceIte,a8,aG,ba,bz,eS,d8,d9,bf,bT,cx,Nat.reduceAdd,List.all_cons,List.all_nil,ds,dg,du,dO,bC,↓bi,Nat.reduceLeDiff,aB,cT,cW,eq_false r,dw,bS,B3];by_cases av:65536≤u
 ·have e:(65536:Int)≤(u:Int):=by omega
  have dM:(u:Int).fdiv (2^(min (16:Int).toNat (IntKind.bits .u64)))=((u/65536:Nat):Int):=by show(u:Int).fdiv 65536=_;rw[Int.fdiv_eq_ediv_of_nonneg _ (by omega)];omega
  have y:IntKind.wrap .i64 (0+16)=((16:Nat):Int):=by decide
  have:=Ic G X (u/65536) 16 s (by omega) (by omega);simp -implicitDefEqProofs only[↓cI,↓cM,↓bU,↓bk,↓aA,↓aD,↓aw,↓aE,↓aM,↓aN,↓ax,↓aF,↓aC,↓aT,↓aW,↓bc,↓dI,↓az,↓bs,↓b0,↓c1,↓b7,↓b8,↓b1,↓b9,↓ca,↓cb,↓cc,↓cd,↓cf,↓bu,↓bw,↓bx,↓c2,↓c3,↓c4,↓c5,↓c6,↓c7,↓c8,↓c9,↓da,↓cg,↓ch,↓ci,↓fl,↓fA,↓fP,↓bl,↓cF,↓br,↓cX,↓b5,↓cA,↓cS,↓db,↓aX,↓aO,↓aY,↓aJ,↓aH,↓aZ,↓cN,↓bV,↓b2,↓cj,↓ck,↓cl,↓cm,↓cn,↓co,↓cp,↓cq,bW,dQ,List.cons_append,List.nil_append,b6,decide_eq_false_iff_not,ite_not,↓reduceIte,a8,aG,ba,bz,eS,d8,d9,bf,bT,cx,Nat.reduceAdd,List.all_cons,List.all_nil,ds,dg,du,dO,bC,↓bi,Nat.reduceLeDiff,aB,cT,cW,eq_true e,dF,↓E3 G X _ _ _ _ (show(0:Int)≤16 by omega),dM,y,if_pos av,this]
 ·have e:¬(65536:Int)≤(u:Int):=by omega
  have:=Ic G X u 0 s (by omega) (by omega);simp -implicitDefEqProofs only[Int.natCast_zero,bf] at this;simp -implicitDefEqProofs only[↓cI,↓cM,↓bU,↓bk,↓aA,↓aD,↓aw,↓aE,↓aM,↓aN,↓ax,↓aF,↓aC,↓aT,↓aW,↓bc,↓dI,↓az,↓bs,↓b0,↓c1,↓b7,↓b8,↓b1,↓b9,↓ca,↓cb,↓cc,↓cd,↓cf,↓bu,↓bw,↓bx,↓c2,↓c3,↓c4,↓c5,↓c6,↓c7,↓c8,↓c9,↓da,↓cg,↓ch,↓ci,↓fl,↓fA,↓fP,↓bl,↓cF,↓br,↓cX,↓b5,↓cA,↓cS,↓db,↓aX,↓aO,↓aY,↓aJ,↓aH,↓aZ,↓cN,↓bV,↓b2,↓cj,↓ck,↓cl,↓cm,↓cn,↓co,↓cp,↓cq,bW,dQ,List.cons_append,List.nil_append,b6,decide_eq_false_iff_not,ite_not,↓reduceIte,a8,aG,ba,bz,eS,d8,d9,bf,bT,cx,Nat.reduceAdd,List.all_cons,List.all_nil,ds,dg,du,dO,bC,↓bi,Nat.reduceLeDiff,aB,cT,cW,eq_false e,dw,bS,if_neg av,this]
theorem Oq(x:Nat)(s:ag)(h:x≤64):aP aR G X 120 [I x] s=.ok (I ((x*78913/262144:Nat):Int)) s:=by
 have dM:IntKind.wrap .i64 ((x:Int)*78913)=((x*78913:Nat):Int):=by rw[eK _ (by omega) (by omega)];omega
 have e:((x*78913:Nat):Int).fdiv (2^(min (18:Int).toNat (IntKind.bits .i64)))=((x*78913/262144:Nat):Int):=by show((x*78913:Nat):Int).fdiv 262144=_;rw[Int.fdiv_eq_ediv_of_nonneg _ (by omega)];omega
 rw[EM,N4];simp -implicitDefEqProofs only[↓cI,↓cM,↓bU,↓bk,↓aA,↓aD,↓aw,↓aE,↓aM,↓aN,↓ax,↓aF,↓aC,↓aT,↓aW,↓bc,↓dI,↓az,↓bs,↓b0,↓c1,↓b7,↓b8,↓b1,↓b9,↓ca,↓cb,↓cc,↓cd,↓cf,↓bu,↓bw,↓bx,↓c2,↓c3,↓c4,↓c5,↓c6,↓c7,↓c8,↓c9,↓da,↓cg,↓ch,↓ci,↓fl,↓fA,↓fP,↓bl,↓cF,↓br,↓cX,↓b5,↓cA,↓cS,↓db,↓aX,↓aO,↓aY,↓aJ,↓aH,↓aZ,↓cN,↓bV,↓b2,↓cj,↓ck,↓cl,↓cm,↓cn,↓co,↓cp,↓cq,bW,dQ,List.cons_append,List.nil_append,b6,decide_eq_false_iff_not,ite_not,↓reduceIte,a8,aG,ba,bz,eS,d8,d9,bf,bT,cx,Nat.reduceAdd,List.all_cons,List.all_nil,ds,dg,du,dO,bC,↓bi,Nat.reduceLeDiff,aB,cT,cW,dM,↓E3 G X _ _ _ _ (show(0:Int)≤18 by omega),e]
theorem Ot(b:Bool)(s:ag):aP aR G X 121 [.bool b] s=.ok (I (if b=true then 1 else 0)) s:=by rw[EN,N5];cases b<;> simp -implicitDefEqProofs only[↓cI,↓cM,↓bU,↓bk,↓aA,↓aD,↓aw,↓aE,↓aM,↓aN,↓ax,↓aF,↓aC,↓aT,↓aW,↓bc,↓dI,↓az,↓bs,↓b0,↓c1,↓b7,↓b8,↓b1,↓b9,↓ca,↓cb,↓cc,↓cd,↓cf,↓bu,↓bw,↓bx,↓c2,↓c3,↓c4,↓c5,↓c6,↓c7,↓c8,↓c9,↓da,↓cg,↓ch,↓ci,↓fl,↓fA,↓fP,↓bl,↓cF,↓br,↓cX,↓b5,↓cA,↓cS,↓db,↓aX,↓aO,↓aY,↓aJ,↓aH,↓aZ,↓cN,↓bV,↓b2,↓cj,↓ck,↓cl,↓cm,↓cn,↓co,↓cp,↓cq,bW,dQ,List.cons_append,List.nil_append,b6,decide_eq_false_iff_not,ite_not,↓reduceIte,a8,aG,ba,bz,eS,d8,d9,bf,bT,cx,Nat.reduceAdd,List.all_cons,List.all_nil,ds,dg,du,dO,bC,↓bi,Nat.reduceLeDiff,aB,cT,cW,bS,B4]
def Iz(a:Nat):Bool:=
 let L:=if 256≤a then 16+gG.getD (a/256) 0 else 8+gG.getD a 0
 let e:=L*78913/262144
 (Nat.beq e 2&&Nat.blt (256*a+255) 1000)||(Nat.beq e 3&&Nat.blt (256*a+255) 10000)||(Nat.beq e 4&&Nat.ble 1000 (256*a)&&Nat.blt (256*a+255) 100000)||(Nat.beq e 5&&Nat.ble 10000 (256*a)&&Nat.blt (256*a+255) 1000000)
theorem UX:((List.range 511).all fun a=>Iz (a+1))=true:=by kernel_rfl
theorem UY:((List.range 156).all fun v=>Nat.beq (gG.getD (v+100) 0*78913/262144) 2)=true:=by kernel_rfl
theorem Jo{u:Nat}(ar:100≤u)(av:u<131072):(tu u=2∧u<1000)∨(tu u=3∧u<10000)∨(tu u=4∧1000≤u∧u<100000)∨(tu u=5∧10000≤u):=by
 by_cases h:u<256
 ·have:=List.all_eq_true.1 UY (u-100) (List.mem_range.2 (by omega));rw[show u-100+100=u by omega] at this;refine .inl ⟨?_,by omega⟩;unfold tu pZ E4;rw[if_neg (by omega),if_neg (by omega)];exact dj this
 ·have:=List.all_eq_true.1 UX (u/256-1) (List.mem_range.2 (by omega));rw[show u/256-1+1=u/256 by omega] at this;have n2:pZ u=if 256≤u/256 then 16+gG.getD (u/256/256) 0 else 8+gG.getD (u/256) 0:=by
   unfold pZ E4;by_cases bO:65536≤u
   ·rw[if_pos bO,if_neg (show¬256≤u/65536 by omega),if_pos (show 256≤u/256 by omega),show u/65536=u/256/256 by omega]
   ·rw[if_neg bO,if_pos (show 256≤u by omega),if_neg (show¬256≤u/256 by omega)]
  unfold Iz at this;simp -implicitDefEqProofs only[←n2,Bool.or_eq_true,bm,Nat.blt_eq] at this;unfold tu;rcases this with((⟨e,q⟩|⟨e,q⟩)|⟨⟨e,r⟩,y⟩)|⟨⟨e,r⟩,y⟩
  ·exact .inl ⟨dj e,by omega⟩
  ·exact .inr (.inl ⟨dj e,by omega⟩)
  ·exact .inr (.inr (.inl ⟨dj e,by have:=dW r;omega,by omega⟩))
  ·exact .inr (.inr (.inr ⟨dj e,by have:=dW r;omega⟩))
theorem Ou(u:Nat):pZ u≤64:=by unfold pZ E4;have ar:=mB (u/65536/256);have av:=mB (u/65536);have bO:=mB (u/256);have dD:=mB u;split<;> split<;> omega
theorem UZ(dS:G 0=.bP iN)(u:Nat)(ar:100≤u)(av:u<131072)(s:ag):aP aR G X 96 [.int .u64 (u:Int)] s=.ok (I (g0 u)) s:=by
 have r:=Oo G X u s.aj (by omega);have h:=Oq G X (pZ u) s.aj (Ou u);have B:(a0 aR G X).bp 0=.bP iN:=dS;have y:=fun b=>Ot G X b s.aj
 rw[show pZ u*78913/262144=tu u from rfl] at h;rw[I9,Uz];simp -implicitDefEqProofs only[B];have key:∀(e p:Nat) (rest:List ae),tu u=e→e<20→iN.drop e=.int .u64 (p:Int)::rest→g0 u=e+(if p≤u then 1 else 0)→
   (a0 aR G X).bA s.aj (fun F s=>(a0 aR G X).bA s (fun v6 s=>(a0 aR G X).l2 s (fun v10 s=>(a0 aR G X).ay s (fun v11 s=>(a0 aR G X).ai s (fun H s=>(a0 aR G X).bA s (fun J s=>(a0 aR G X).ai s (fun K s=>(a0 aR G X).a4 false [some K] s) (al .add v6 J)) 121 [(ae.ap s.aa H)]) (al .geq (.int .u64 (u:Int)) v11)) none v10) 1 20 (.bP iN) v6) 120 [(ae.ap s.aa F)]) 112 [(ae.ap s.aj.aa (.int .u64 (u:Int)))]=.ok (I (g0 u)) s:=fun e p rest he L cR dk=>by
  rw[he] at h;have A:=fun(k:be)=>UW G X (s:=s.aj) (k:=k) iN 20 .i64 e L
  have M:IntKind.wrap .i64 ((e:Int)+1)=((e+1:Nat):Int):=by rw[eK _ (by omega) (by omega)];omega
  have jb:IntKind.wrap .i64 ((e:Int)+0)=(e:Int):=by rw[eK _ (by omega) (by omega)];omega
  by_cases a1:p≤u
  ·have c:(p:Int)≤(u:Int):=by omega
   rw[dk,if_pos a1];simp -implicitDefEqProofs only[↓cI,↓cM,↓bU,↓bk,↓aA,↓aD,↓aw,↓aE,↓aM,↓aN,↓ax,↓aF,↓aC,↓aT,↓aW,↓bc,↓dI,↓az,↓bs,↓b0,↓c1,↓b7,↓b8,↓b1,↓b9,↓ca,↓cb,↓cc,↓cd,↓cf,↓bu,↓bw,↓bx,↓c2,↓c3,↓c4,↓c5,↓c6,↓c7,↓c8,↓c9,↓da,↓cg,↓ch,↓ci,↓fl,↓fA,↓fP,↓bl,↓cF,↓br,↓cX,↓b5,↓cA,↓cS,↓db,↓aX,↓aO,↓aY,↓aJ,↓aH,↓aZ,↓cN,↓bV,↓b2,↓cj,↓ck,↓cl,↓cm,↓cn,↓co,↓cp,↓cq,bW,dQ,List.cons_append,List.nil_append,b6,decide_eq_false_iff_not,ite_not,↓reduceIte,a8,aG,ba,bz,eS,d8,d9,bf,bT,cx,Nat.reduceAdd,List.all_cons,List.all_nil,ds,dg,du,dO,bC,↓bi,Nat.reduceLeDiff,aB,cT,cW,bd r,bd h,↓A,cR,eq_true c,dF,bd (y _),if_true,M]
  ·have c:¬(p:Int)≤(u:Int):=by omega
   rw[dk,if_neg a1];simp -implicitDefEqProofs only[↓cI,↓cM,↓bU,↓bk,↓aA,↓aD,↓aw,↓aE,↓aM,↓aN,↓ax,↓aF,↓aC,↓aT,↓aW,↓bc,↓dI,↓az,↓bs,↓b0,↓c1,↓b7,↓b8,↓b1,↓b9,↓ca,↓cb,↓cc,↓cd,↓cf,↓bu,↓bw,↓bx,↓c2,↓c3,↓c4,↓c5,↓c6,↓c7,↓c8,↓c9,↓da,↓cg,↓ch,↓ci,↓fl,↓fA,↓fP,↓bl,↓cF,↓br,↓cX,↓b5,↓cA,↓cS,↓db,↓aX,↓aO,↓aY,↓aJ,↓aH,↓aZ,↓cN,↓bV,↓b2,↓cj,↓ck,↓cl,↓cm,↓cn,↓co,↓cp,↓cq,bW,dQ,List.cons_append,List.nil_append,b6,decide_eq_false_iff_not,ite_not,↓reduceIte,a8,aG,ba,bz,eS,d8,d9,bf,bT,cx,Nat.reduceAdd,List.all_cons,List.all_nil,ds,dg,du,dO,bC,↓bi,Nat.reduceLeDiff,aB,cT,cW,bd r,bd h,↓A,cR,eq_false c,dw,bS,bd (y _),if_false,jb,Nat.add_zero]
 rcases Jo ar av with⟨e,q⟩|⟨e,q⟩|⟨e,N,O⟩|⟨e,q⟩
 ·exact key 2 100 _ e (by omega) rfl (by unfold g0;rw[if_pos q,if_pos ar])
 ·exact key 3 1000 _ e (by omega) rfl (by unfold g0;split<;> split<;> omega)
 ·exact key 4 10000 _ e (by omega) rfl (by unfold g0;rw[if_neg (by omega)];split<;> split<;> omega)
 ·exact key 5 100000 _ e (by omega) rfl (by unfold g0;rw[if_neg (by omega),if_neg (by omega)];split<;> split<;> omega)
end
abbrev qv(cs:List ae)(U R:List (List dp)):ag:={own:=[.cells cs],up:=U,ro:=R}
theorem U1(cs:List ae)(U R:List (List dp)):(qv cs U R).aj.get (.g (U.length+R.length) 0)=some (.cells cs):=by
 simp -implicitDefEqProofs only[ag.get,ag.aa,ag.aj,bT];rw[if_neg (by omega),if_pos (by omega)]
 have:U.length+1+R.length-1-(U.length+R.length)=0:=by omega
 rw[this];rfl
theorem U2(cs e:List ae)(U R:List (List dp)):(qv cs U R).aj.set (.g (U.length+R.length) 0) (.cells e)=some (qv e U R).aj:=by
 simp -implicitDefEqProofs only[ag.set,ag.aa,ag.aj,bT];rw[if_neg (by omega),if_pos ⟨by omega,by omega⟩]
 have:U.length+1+R.length-1-(U.length+R.length)=0:=by omega
 rw[this];rfl
section
variable(G:Nat→ae)(X:Nat→List ae→ag→ah)
theorem qq{k:be}{cs:List ae}{U R:List (List dp)}{o:Nat}{n:Int}(e:o<cs.length):(a0 aR G X).cC (qv cs U R).aj k 1 (.ref (.g (U.length+R.length) 0) o) (.int .u8 n)=k .dead (qv (cs.set o (.int .u8 n)) U R).aj:=by
 rw[kT];simp -implicitDefEqProofs only[fh,ae.ff,ae.cells,bT,cx,bf,gf,bC,bX];unfold ii;simp -implicitDefEqProofs only[U1];have dU:(qv cs U R).aj.ho (.g (U.length+R.length) 0) [.int .u8 n]=true:=by simp [ag.ho,ae.a7,ae.bb]
 simp -implicitDefEqProofs only[bT,cx,bf,show Nat.ble (o+1) cs.length=true from eN e,dU,List.all_cons,ds,List.all_nil,bC,bX];show(match (qv cs U R).aj.set (.g (U.length+R.length) 0) (.cells (dN cs o [.int .u8 n])) with |some s=>k .dead s|none=>.fail)=_;rw[U2];rfl
theorem VE(cs:List ae)(U R:List (List dp)):(a0 aR G X).a4 false [] (qv cs U R).aj=.ok (.eb []) (qv cs U R):=rfl
theorem Z7{k:be}{S:ag}{D n:Nat}(i:Nat)(h:i<n):(a0 aR G X).cL S k 1 (.cZ (.g D 0) 1 n 23 1) (.int .i64 (i:Int))=k (.ref (.g D 0) (i+1)) S:=by have:=kU (T:=aR) (G:=G) (X:=X) (S:=S) (k:=k) (.g D 0) 1 n 23 1 .i64 i h;rw[this,Nat.mul_one,Nat.add_comm]
abbrev Cy(n:Nat):ae:=.int .u32 (n:Int)
variable{cs:List ae}{U R:List (List dp)}{n:Nat}(a1:cs.length=24)
include a1
theorem Ie(x:Nat)(a9:x<10)(dk:0<n):oa (a0 aR G X) (.cZ (.g (U.length+R.length) 0) 1 n 23 1) (I (1:Nat)) (Cy x) (qv cs U R).aj=.ok (.eb []) (qv (cs.set 1 (wo (48+x))) U R):=by
 have e:IntKind.wrap .u32 (48+(x:Int))=((48+x:Nat):Int):=by rw[jV (by omega) (by omega)];omega
 have h:IntKind.wrap .u8 ((48+x:Nat):Int)=((48+x:Nat):Int):=u8_in _ (by omega);have i0:∀(k:be) (S:ag),(a0 aR G X).cL S k 1 (.cZ (.g (U.length+R.length) 0) 1 n 23 1) (.int .i64 0)=k (.ref (.g (U.length+R.length) 0) 1) S:=fun k S=>Z7 G X 0 dk
 have r:(0:Int)<((1:Nat):Int):=by omega
 rw[vR];simp -implicitDefEqProofs only[↓cI,↓cM,↓bU,↓bk,↓aA,↓aD,↓aw,↓aE,↓aM,↓aN,↓ax,↓aF,↓aC,↓aT,↓aW,↓bc,↓dI,↓az,↓bs,↓b0,↓c1,↓b7,↓b8,↓b1,↓b9,↓ca,↓cb,↓cc,↓cd,↓cf,↓bu,↓bw,↓bx,↓c2,↓c3,↓c4,↓c5,↓c6,↓c7,↓c8,↓c9,↓da,↓cg,↓ch,↓ci,↓fl,↓fA,↓fP,↓bl,↓cF,↓br,↓cX,↓b5,↓cA,↓cS,↓db,↓aX,↓aO,↓aY,↓aJ,↓aH,↓aZ,↓cN,↓bV,↓b2,↓cj,↓ck,↓cl,↓cm,↓cn,↓co,↓cp,↓cq,bW,dQ,List.cons_append,List.nil_append,b6,decide_eq_false_iff_not,ite_not,↓reduceIte,a8,aG,ba,bz,eS,d8,d9,bf,bT,cx,Nat.reduceAdd,List.all_cons,List.all_nil,ds,dg,du,dO,bC,↓bi,Nat.reduceLeDiff,aB,cT,cW,eq_true r,dF,e,↓xU,h,↓i0];rw[qq G X (by omega)];simp -implicitDefEqProofs only[VE];rfl
omit a1 in
theorem If(x:Nat):oa (a0 aR G X) (.cZ (.g (U.length+R.length) 0) 1 n 23 1) (I (0:Nat)) (Cy x) (qv cs U R).aj=.ok (.eb []) (qv cs U R):=by
 have e:¬(0:Int)<((0:Nat):Int):=by omega
 rw[vR];simp -implicitDefEqProofs only[↓cI,↓cM,↓bU,↓bk,↓aA,↓aD,↓aw,↓aE,↓aM,↓aN,↓ax,↓aF,↓aC,↓aT,↓aW,↓bc,↓dI,↓az,↓bs,↓b0,↓c1,↓b7,↓b8,↓b1,↓b9,↓ca,↓cb,↓cc,↓cd,↓cf,↓bu,↓bw,↓bx,↓c2,↓c3,↓c4,↓c5,↓c6,↓c7,↓c8,↓c9,↓da,↓cg,↓ch,↓ci,↓fl,↓fA,↓fP,↓bl,↓cF,↓br,↓cX,↓b5,↓cA,↓cS,↓db,↓aX,↓aO,↓aY,↓aJ,↓aH,↓aZ,↓cN,↓bV,↓b2,↓cj,↓ck,↓cl,↓cm,↓cn,↓co,↓cp,↓cq,bW,dQ,List.cons_append,List.nil_append,b6,decide_eq_false_iff_not,ite_not,↓reduceIte,a8,aG,ba,bz,eS,d8,d9,bf,bT,cx,Nat.reduceAdd,List.all_cons,List.all_nil,ds,dg,du,dO,bC,↓bi,Nat.reduceLeDiff,aB,cT,cW,eq_false e,dw,bS,VE]
theorem Ig(p x:Nat)(fp:p+2≤n)(H:p≤2)(a9:x<4294967296):ob (a0 aR G X) (.cZ (.g (U.length+R.length) 0) 1 n 23 1) (I ((p+2:Nat):Int)) (Cy x) (qv cs U R).aj =
  oa (a0 aR G X) (.cZ (.g (U.length+R.length) 0) 1 n 23 1) (I (p:Nat)) (Cy (x/100)) (qv ((cs.set (p+2) (wo (48+x%100%10))).set (p+1) (wo (48+x%100/10))) U R).aj:=by
 have h:IntKind.wrap .u32 ((x:Int).tdiv 100)=((x/100:Nat):Int):=by rw[Int.tdiv_eq_ediv_of_nonneg (by omega),jV (by omega) (by omega)];omega
 have r:(x:Int).tmod 100=((x%100:Nat):Int):=by rw[Int.tmod_eq_emod_of_nonneg (by omega)];omega
 have u:IntKind.wrap .u32 (((x%100:Nat):Int)*2)=((x%100*2:Nat):Int):=by rw[jV (by omega) (by omega)];omega
 have y:IntKind.wrap .u32 (((x%100*2:Nat):Int)+1)=((x%100*2+1:Nat):Int):=by rw[jV (by omega) (by omega)];omega
 have A:IntKind.wrap .i64 (((p+2:Nat):Int)-1)=((p+1:Nat):Int):=by rw[eK _ (by omega) (by omega)];omega
 have B:IntKind.wrap .i64 (((p+2:Nat):Int)-2)=(p:Int):=by rw[eK _ (by omega) (by omega)];omega
 have e:(100:Int)≠0:=by omega
 have F:(2:Int)≤((p+2:Nat):Int):=by omega
 have hA:=fun(s:ag) (k:be)=>sF G X (s:=s) (k:=k) ((x%100*2:Nat):Int) _ ⟨_,rfl,wa (x%100) (by omega)⟩
 have s1:=fun(s:ag) (k:be)=>sF G X (s:=s) (k:=k) ((x%100*2+1:Nat):Int) _ ⟨_,rfl,wb (x%100) (by omega)⟩
 have i1:=fun(k:be) (S:ag)=>Z7 G X (k:=k) (S:=S) (D:=U.length+R.length) (n:=n) (p+1) (by omega)
 have i2:=fun(k:be) (S:ag)=>Z7 G X (k:=k) (S:=S) (D:=U.length+R.length) (n:=n) p (by omega)
 unfold kY at hA s1;rw[vS];simp -implicitDefEqProofs only[↓cI,↓cM,↓bU,↓bk,↓aA,↓aD,↓aw,↓aE,↓aM,↓aN,↓ax,↓aF,↓aC,↓aT,↓aW,↓bc,↓dI,↓az,↓bs,↓b0,↓c1,↓b7,↓b8,↓b1,↓b9,↓ca,↓cb,↓cc,↓cd,↓cf,↓bu,↓bw,↓bx,↓c2,↓c3,↓c4,↓c5,↓c6,↓c7,↓c8,↓c9,↓da,↓cg,↓ch,↓ci,↓fl,↓fA,↓fP,↓bl,↓cF,↓br,↓cX,↓b5,↓cA,↓cS,↓db,↓aX,↓aO,↓aY,↓aJ,↓aH,↓aZ,↓cN,↓bV,↓b2,↓cj,↓ck,↓cl,↓cm,↓cn,↓co,↓cp,↓cq,bW,dQ,List.cons_append,List.nil_append,b6,decide_eq_false_iff_not,ite_not,↓reduceIte,a8,aG,ba,bz,eS,d8,d9,bf,bT,cx,Nat.reduceAdd,List.all_cons,List.all_nil,ds,dg,du,dO,bC,↓bi,Nat.reduceLeDiff,aB,cT,cW,eq_true F,dF,↓r2 G X _ _ _ e,↓zs G X _ _ _ e,h,r,u,y,A,B,↓hA,↓s1,↓i1,↓i2];rw[qq G X (by omega),qq G X (by rw[List.length_set];omega)];rfl
omit a1 in
theorem Ih(p x:Nat)(fp:p<2):ob (a0 aR G X) (.cZ (.g (U.length+R.length) 0) 1 n 23 1) (I (p:Nat)) (Cy x) (qv cs U R).aj=oa (a0 aR G X) (.cZ (.g (U.length+R.length) 0) 1 n 23 1) (I (p:Nat)) (Cy x) (qv cs U R).aj:=by
 have e:¬(2:Int)≤(p:Int):=by omega
 rw[vS];simp -implicitDefEqProofs only[↓cI,↓cM,↓bU,↓bk,↓aA,↓aD,↓aw,↓aE,↓aM,↓aN,↓ax,↓aF,↓aC,↓aT,↓aW,↓bc,↓dI,↓az,↓bs,↓b0,↓c1,↓b7,↓b8,↓b1,↓b9,↓ca,↓cb,↓cc,↓cd,↓cf,↓bu,↓bw,↓bx,↓c2,↓c3,↓c4,↓c5,↓c6,↓c7,↓c8,↓c9,↓da,↓cg,↓ch,↓ci,↓fl,↓fA,↓fP,↓bl,↓cF,↓br,↓cX,↓b5,↓cA,↓cS,↓db,↓aX,↓aO,↓aY,↓aJ,↓aH,↓aZ,↓cN,↓bV,↓b2,↓cj,↓ck,↓cl,↓cm,↓cn,↓co,↓cp,↓cq,bW,dQ,List.cons_append,List.nil_append,b6,decide_eq_false_iff_not,ite_not,↓reduceIte,a8,aG,ba,bz,eS,d8,d9,bf,bT,cx,Nat.reduceAdd,List.all_cons,List.all_nil,ds,dg,du,dO,bC,↓bi,Nat.reduceLeDiff,aB,cT,cW,eq_false e,dw,bS]
theorem zt(p u:Nat)(fp:p+4≤n)(Z:p≤3)(hu:u<4294967296):tZ (a0 aR G X) (.cZ (.g (U.length+R.length) 0) 1 n 23 1) (.int .u64 (u:Int)) (I ((p+4:Nat):Int)) (qv cs U R).aj =
  ob (a0 aR G X) (.cZ (.g (U.length+R.length) 0) 1 n 23 1) (I (p:Nat)) (Cy (u/10000)) (qv ((((cs.set (p+4) (wo (48+u%10000%100%10))).set (p+3) (wo (48+u%10000%100/10))).set (p+2) (wo (48+u%10000/100%10))).set (p+1) (wo (48+u%10000/100/10))) U R).aj:=by
 have dM:IntKind.wrap .u32 (u:Int)=(u:Int):=jV (by omega) (by omega);have e:(u:Int).tmod 10000=((u%10000:Nat):Int):=by rw[Int.tmod_eq_emod_of_nonneg (by omega)];omega
 have A:IntKind.wrap .u32 ((u:Int).tdiv 10000)=((u/10000:Nat):Int):=by rw[Int.tdiv_eq_ediv_of_nonneg (by omega),jV (by omega) (by omega)];omega
 obtain⟨t,dU,lG⟩:∃t,t=u%10000∧t<10000:=⟨_,rfl,by omega⟩;rw[←dU] at e;rw[←dU];have B:IntKind.wrap .u32 ((t:Int).tdiv 100)=((t/100:Nat):Int):=by rw[Int.tdiv_eq_ediv_of_nonneg (by omega),jV (by omega) (by omega)];omega
 have F:IntKind.wrap .u32 (((t/100:Nat):Int)*2)=((t/100*2:Nat):Int):=by rw[jV (by omega) (by omega)];omega
 have H:(t:Int).tmod 100=((t%100:Nat):Int):=by rw[Int.tmod_eq_emod_of_nonneg (by omega)];omega
 have J:IntKind.wrap .u32 (((t%100:Nat):Int)*2)=((t%100*2:Nat):Int):=by rw[jV (by omega) (by omega)];omega
 have K:IntKind.wrap .u32 (((t%100*2:Nat):Int)+1)=((t%100*2+1:Nat):Int):=by rw[jV (by omega) (by omega)];omega
 have L:IntKind.wrap .u32 (((t/100*2:Nat):Int)+1)=((t/100*2+1:Nat):Int):=by rw[jV (by omega) (by omega)];omega
 have M:IntKind.wrap .i64 (((p+4:Nat):Int)-1)=((p+3:Nat):Int):=by rw[eK _ (by omega) (by omega)];omega
 have N:IntKind.wrap .i64 (((p+4:Nat):Int)-2)=((p+2:Nat):Int):=by rw[eK _ (by omega) (by omega)];omega
 have O:IntKind.wrap .i64 (((p+4:Nat):Int)-3)=((p+1:Nat):Int):=by rw[eK _ (by omega) (by omega)];omega
 have V:IntKind.wrap .i64 (((p+4:Nat):Int)-4)=(p:Int):=by rw[eK _ (by omega) (by omega)];omega
 have h:(10000:Int)≠0:=by omega
 have r:(100:Int)≠0:=by omega
 have Y:(4:Int)≤((p+4:Nat):Int):=by omega
 have hA:=fun(s:ag) (k:be)=>sF G X (s:=s) (k:=k) ((t%100*2:Nat):Int) _ ⟨_,rfl,wa (t%100) (by omega)⟩
 have s1:=fun(s:ag) (k:be)=>sF G X (s:=s) (k:=k) ((t%100*2+1:Nat):Int) _ ⟨_,rfl,wb (t%100) (by omega)⟩
 have s2:=fun(s:ag) (k:be)=>sF G X (s:=s) (k:=k) ((t/100*2:Nat):Int) _ ⟨_,rfl,wa (t/100) (by omega)⟩
 have y:=fun(s:ag) (k:be)=>sF G X (s:=s) (k:=k) ((t/100*2+1:Nat):Int) _ ⟨_,rfl,wb (t/100) (by omega)⟩
 have i1:=fun(k:be) (S:ag)=>Z7 G X (k:=k) (S:=S) (D:=U.length+R.length) (n:=n) (p+3) (by omega)
 have i2:=fun(k:be) (S:ag)=>Z7 G X (k:=k) (S:=S) (D:=U.length+R.length) (n:=n) (p+2) (by omega)
 have i3:=fun(k:be) (S:ag)=>Z7 G X (k:=k) (S:=S) (D:=U.length+R.length) (n:=n) (p+1) (by omega)
 have i4:=fun(k:be) (S:ag)=>Z7 G X (k:=k) (S:=S) (D:=U.length+R.length) (n:=n) p (by omega)
 unfold kY at hA s1 s2 y;rw[vT];simp -implicitDefEqProofs only[↓cI,↓cM,↓bU,↓bk,↓aA,↓aD,↓aw,↓aE,↓aM,↓aN,↓ax,↓aF,↓aC,↓aT,↓aW,↓bc,↓dI,↓az,↓bs,↓b0,↓c1,↓b7,↓b8,↓b1,↓b9,↓ca,↓cb,↓cc,↓cd,↓cf,↓bu,↓bw,↓bx,↓c2,↓c3,↓c4,↓c5,↓c6,↓c7,↓c8,↓c9,↓da,↓cg,↓ch,↓ci,↓fl,↓fA,↓fP,↓bl,↓cF,↓br,↓cX,↓b5,↓cA,↓cS,↓db,↓aX,↓aO,↓aY,↓aJ,↓aH,↓aZ,↓cN,↓bV,↓b2,↓cj,↓ck,↓cl,↓cm,↓cn,↓co,↓cp,↓cq,bW,dQ,List.cons_append,List.nil_append,b6,decide_eq_false_iff_not,ite_not,↓reduceIte,a8,aG,ba,bz,eS,d8,d9,bf,bT,cx,Nat.reduceAdd,List.all_cons,List.all_nil,ds,dg,du,dO,bC,↓bi,Nat.reduceLeDiff,aB,cT,cW,↓xU,dM,eq_true Y,dF,↓r2 G X _ _ _ h,↓r2 G X _ _ _ r,↓zs G X _ _ _ h,↓zs G X _ _ _ r,e,A,B,F,H,J,K,L,M,N,O,V,↓hA,↓s1,↓s2,↓y,↓i1,↓i2,↓i3,↓i4];rw[qq G X (by omega),qq G X (by rw[List.length_set];omega),qq G X (by rw[List.length_set,List.length_set];omega),qq G X (by rw[List.length_set,List.length_set,List.length_set];omega)];rfl
omit a1 in
theorem U3(p u:Nat)(fp:p<4)(hu:u<4294967296):tZ (a0 aR G X) (.cZ (.g (U.length+R.length) 0) 1 n 23 1) (.int .u64 (u:Int)) (I (p:Nat)) (qv cs U R).aj=ob (a0 aR G X) (.cZ (.g (U.length+R.length) 0) 1 n 23 1) (I (p:Nat)) (Cy u) (qv cs U R).aj:=by
 have dM:IntKind.wrap .u32 (u:Int)=(u:Int):=jV (by omega) (by omega);have e:¬(4:Int)≤(p:Int):=by omega
 rw[vT];simp -implicitDefEqProofs only[↓cI,↓cM,↓bU,↓bk,↓aA,↓aD,↓aw,↓aE,↓aM,↓aN,↓ax,↓aF,↓aC,↓aT,↓aW,↓bc,↓dI,↓az,↓bs,↓b0,↓c1,↓b7,↓b8,↓b1,↓b9,↓ca,↓cb,↓cc,↓cd,↓cf,↓bu,↓bw,↓bx,↓c2,↓c3,↓c4,↓c5,↓c6,↓c7,↓c8,↓c9,↓da,↓cg,↓ch,↓ci,↓fl,↓fA,↓fP,↓bl,↓cF,↓br,↓cX,↓b5,↓cA,↓cS,↓db,↓aX,↓aO,↓aY,↓aJ,↓aH,↓aZ,↓cN,↓bV,↓b2,↓cj,↓ck,↓cl,↓cm,↓cn,↓co,↓cp,↓cq,bW,dQ,List.cons_append,List.nil_append,b6,decide_eq_false_iff_not,ite_not,↓reduceIte,a8,aG,ba,bz,eS,d8,d9,bf,bT,cx,Nat.reduceAdd,List.all_cons,List.all_nil,ds,dg,du,dO,bC,↓bi,Nat.reduceLeDiff,aB,cT,cW,↓xU,dM,eq_false e,dw,bS]
end
def ow(u:Nat):List Nat:=
 if u<1000 then[48+u/100,48+u%100/10,48+u%100%10]
 else if u<10000 then[48+u%10000/100/10,48+u%10000/100%10,48+u%10000%100/10,48+u%10000%100%10]
 else if u<100000 then[48+u/10000,48+u%10000/100/10,48+u%10000/100%10,48+u%10000%100/10,48+u%10000%100%10]
 else[48+u/10000%100/10,48+u/10000%100%10,48+u%10000/100/10,48+u%10000/100%10,48+u%10000%100/10,48+u%10000%100%10]
theorem pv(u:Nat):(ow u).length=g0 u:=by
 unfold ow g0;by_cases ar:u<1000
 ·rw[if_pos ar,if_pos ar];rfl
 ·by_cases av:u<10000
  ·rw[if_neg ar,if_neg ar,if_pos av,if_pos av];rfl
  ·by_cases bO:u<100000
   ·rw[if_neg ar,if_neg ar,if_neg av,if_neg av,if_pos bO,if_pos bO];rfl
   ·rw[if_neg ar,if_neg ar,if_neg av,if_neg av,if_neg bO,if_neg bO];rfl
def r3(u:Nat):List ae:=wo 0::(ow u).map wo++List.replicate (23-g0 u) (wo 0)
section
variable(G:Nat→ae)(X:Nat→List ae→ag→ah)
theorem U4(u:Nat)(ar:100≤u)(av:u<131072)(U R:List (List dp)):aP aR G X 97 [.cZ (.g (U.length+R.length) 0) 1 (g0 u) 23 1,.int .u64 (u:Int)] (qv (List.replicate 24 (wo 0)) U R)=.ok (.eb []) (qv (r3 u) U R):=by
 have Fu:¬(8:Int)≤((g0 u:Nat):Int):=by unfold g0;split<;> (try split)<;> (try split)<;> omega
 rw[Ja,UA];simp -implicitDefEqProofs only[↓cI,↓cM,↓bU,↓bk,↓aA,↓aD,↓aw,↓aE,↓aM,↓aN,↓ax,↓aF,↓aC,↓aT,↓aW,↓bc,↓dI,↓az,↓bs,↓b0,↓c1,↓b7,↓b8,↓b1,↓b9,↓ca,↓cb,↓cc,↓cd,↓cf,↓bu,↓bw,↓bx,↓c2,↓c3,↓c4,↓c5,↓c6,↓c7,↓c8,↓c9,↓da,↓cg,↓ch,↓ci,↓fl,↓fA,↓fP,↓bl,↓cF,↓br,↓cX,↓b5,↓cA,↓cS,↓db,↓aX,↓aO,↓aY,↓aJ,↓aH,↓aZ,↓cN,↓bV,↓b2,↓cj,↓ck,↓cl,↓cm,↓cn,↓co,↓cp,↓cq,bW,dQ,List.cons_append,List.nil_append,b6,decide_eq_false_iff_not,ite_not,↓reduceIte,a8,aG,ba,bz,eS,d8,d9,bf,bT,cx,Nat.reduceAdd,List.all_cons,List.all_nil,ds,dg,du,dO,bC,↓bi,Nat.reduceLeDiff,aB,cT,cW,Ed,eq_false Fu,dw,bS];unfold r3 ow;by_cases h:u<1000
 ·have e:g0 u=3:=by unfold g0;rw[if_pos h]
  rw[if_pos h,e,U3 G X 3 u (by omega) (by omega)];refine(Ig G X (by simp) 1 u (by omega) (by omega) (by omega)).trans ?_;exact Ie G X (by simp) (u/100) (by omega) (by omega)
 ·by_cases r:u<10000
  ·have e:g0 u=4:=by unfold g0;rw[if_neg h,if_pos r]
   rw[if_neg h,if_pos r,e];refine(zt G X (by simp) 0 u (by omega) (by omega) (by omega)).trans ?_;rw[Ih G X 0 _ (by omega),If];rfl
  ·by_cases y:u<100000
   ·have e:g0 u=5:=by unfold g0;rw[if_neg h,if_neg r,if_pos y]
    rw[if_neg h,if_neg r,if_pos y,e];refine(zt G X (by simp) 1 u (by omega) (by omega) (by omega)).trans ?_;rw[Ih G X 1 _ (by omega)];exact Ie G X (by simp) (u/10000) (by omega) (by omega)
   ·have e:g0 u=6:=by unfold g0;rw[if_neg h,if_neg r,if_neg y]
    rw[if_neg h,if_neg r,if_neg y,e];refine(zt G X (by simp) 2 u (by omega) (by omega) (by omega)).trans ?_;refine(Ig G X (by simp) 0 (u/10000) (by omega) (by omega) (by omega)).trans ?_;rw[If];rfl
end
def eF(u:Nat):List Nat:=if u<10 then[48+u] else if u<100 then[48+u/10,48+u%10] else ow u
def VF(l:List Nat):Nat:=l.foldl (fun a d=>a*10+(d-48)) 0
theorem wc{u:Nat}(h:u<131072):VF (eF u)=u:=by
 unfold eF ow VF;split
 ·simp -implicitDefEqProofs only[List.foldl];omega
 ·split
  ·simp -implicitDefEqProofs only[List.foldl];omega
  ·split
   ·simp -implicitDefEqProofs only[List.foldl];omega
   ·split
    ·simp -implicitDefEqProofs only[List.foldl];omega
    ·split
     ·simp -implicitDefEqProofs only[List.foldl];omega
     ·simp -implicitDefEqProofs only[List.foldl];omega
theorem Jp{u v:Nat}(hu:u<131072)(bJ:v<131072)(h:eF u=eF v):u=v:=by rw[←wc hu,←wc bJ,h]
theorem E5{u:Nat}(h:u<131072):∀b,b∈ow u→b<256:=by
 intro b e;unfold ow at e;split at e
 ·simp at e;omega
 ·split at e
  ·simp at e;omega
  ·split at e
   ·simp at e;omega
   ·simp at e;omega
theorem Jq{u:Nat}(h:u<131072):(eF u).length≤6:=by
 unfold eF;split
 ·simp
 ·split
  ·simp
  ·rw[pv];unfold g0;split<;> (try split)<;> (try split)<;> omega
section
variable(G:Nat→ae)(X:Nat→List ae→ag→ah)
theorem Ov(u:Nat)(h:u<10):(uh.drop u).take (u+1-u)=eF u:=by
 have:∀u:Fin 10,(uh.drop u.val).take (u.val+1-u.val)=eF u.val:=by decide
 exact this ⟨u,h⟩
theorem U5(u:Nat)(ar:10≤u)(h:u<100):(kY.drop (u*2)).take (u*2+2-u*2)=eF u:=by
 have:∀u:Fin 100,10≤u.val→(kY.drop (u.val*2)).take (u.val*2+2-u.val*2)=eF u.val:=by decide
 exact this ⟨u,h⟩ ar
theorem U6(u:Nat)(h:u<100)(s:ag):aP aR G X 95 [.int .i64 (u:Int)] s=.ok (.str (eF u)) s:=by
 rw[I8,Uy];have e:IntKind.wrap .i64 ((u:Int)+1)=((u+1:Nat):Int):=by rw[eK _ (by omega) (by omega)];omega
 have r:IntKind.wrap .i64 ((u:Int)*2)=((u*2:Nat):Int):=by rw[eK _ (by omega) (by omega)];omega
 have y:IntKind.wrap .i64 (((u*2:Nat):Int)+2)=((u*2+2:Nat):Int):=by rw[eK _ (by omega) (by omega)];omega
 by_cases ar:u<10
 ·have c:(u:Int)<10:=by omega
  have a3:=fun(s:ag) (k:be)=>Ia G X (s:=s) (k:=k) uh .i64 .i64 u (u+1) (by omega) (by show u+1≤36;omega)
  rw[Ov u ar] at a3;unfold uh at a3;simp -implicitDefEqProofs only[↓cI,↓cM,↓bU,↓bk,↓aA,↓aD,↓aw,↓aE,↓aM,↓aN,↓ax,↓aF,↓aC,↓aT,↓aW,↓bc,↓dI,↓az,↓bs,↓b0,↓c1,↓b7,↓b8,↓b1,↓b9,↓ca,↓cb,↓cc,↓cd,↓cf,↓bu,↓bw,↓bx,↓c2,↓c3,↓c4,↓c5,↓c6,↓c7,↓c8,↓c9,↓da,↓cg,↓ch,↓ci,↓fl,↓fA,↓fP,↓bl,↓cF,↓br,↓cX,↓b5,↓cA,↓cS,↓db,↓aX,↓aO,↓aY,↓aJ,↓aH,↓aZ,↓cN,↓bV,↓b2,↓cj,↓ck,↓cl,↓cm,↓cn,↓co,↓cp,↓cq,bW,dQ,List.cons_append,List.nil_append,b6,decide_eq_false_iff_not,ite_not,↓reduceIte,a8,aG,ba,bz,eS,d8,d9,bf,bT,cx,Nat.reduceAdd,List.all_cons,List.all_nil,ds,dg,du,dO,bC,↓bi,Nat.reduceLeDiff,aB,cT,cW,eq_true c,dF,e,↓a3]
 ·have c:¬(u:Int)<10:=by omega
  have a3:=fun(s:ag) (k:be)=>Ia G X (s:=s) (k:=k) kY .i64 .i64 (u*2) (u*2+2) (by omega) (by show u*2+2≤200;omega)
  rw[U5 u (by omega) h] at a3;unfold kY at a3;simp -implicitDefEqProofs only[↓cI,↓cM,↓bU,↓bk,↓aA,↓aD,↓aw,↓aE,↓aM,↓aN,↓ax,↓aF,↓aC,↓aT,↓aW,↓bc,↓dI,↓az,↓bs,↓b0,↓c1,↓b7,↓b8,↓b1,↓b9,↓ca,↓cb,↓cc,↓cd,↓cf,↓bu,↓bw,↓bx,↓c2,↓c3,↓c4,↓c5,↓c6,↓c7,↓c8,↓c9,↓da,↓cg,↓ch,↓ci,↓fl,↓fA,↓fP,↓bl,↓cF,↓br,↓cX,↓b5,↓cA,↓cS,↓db,↓aX,↓aO,↓aY,↓aJ,↓aH,↓aZ,↓cN,↓bV,↓b2,↓cj,↓ck,↓cl,↓cm,↓cn,↓co,↓cp,↓cq,bW,dQ,List.cons_append,List.nil_append,b6,decide_eq_false_iff_not,ite_not,↓reduceIte,a8,aG,ba,bz,eS,d8,d9,bf,bT,cx,Nat.reduceAdd,List.all_cons,List.all_nil,ds,dg,du,dO,bC,↓bi,Nat.reduceLeDiff,aB,cT,cW,eq_false c,dw,bS,Ec,r,y,↓a3]
theorem Z8(s:ag)(k:be)(n:Nat)(h:n≤23):(a0 aR G X).l3 1 24 (.ref (.l 0) 0) (some (.int .i64 1)) (some (.int .i64 ((n+1:Nat):Int))) none s k=k (.cZ (.l 0) 1 n 23 1) s:=by show rf 1 24 (.ref (.l 0) 0) (some (.int .i64 ((1:Nat):Int))) (some (.int .i64 ((n+1:Nat):Int))) none s k=_;unfold rf pA;simp -implicitDefEqProofs only[g5,eN (show 1≤n+1 by omega),eN (show n+1≤24 by omega),show Nat.ble 24 24=true from rfl,bC,bX];rw[if_neg (by omega),show 0+1*1=1 from rfl,show n+1-1=n by omega]
theorem r4:∀(l:List Nat) (r:List ae),chunk 1 l.length (l.map wo++r)=l.map wo
 |[],_=>rfl
 |x::l,r=>by simp -implicitDefEqProofs only[bT,chunk,gd,List.cons_append];show nn 1 (wo x::(l.map wo++r))::chunk 1 l.length (l.map wo++r)=_;rw[r4 l r];rfl
theorem p0:∀(l:List Nat),ae.a7 (l.map wo)=true
 |[]=>rfl
 |x::l=>by simp -implicitDefEqProofs only[gd,ae.a7,p0 l,Bool.and_true];rfl
theorem p1:∀(l:List Nat),(∀b,b∈l→b<256)→hY (l.map wo)=some l
 |[],_=>rfl
 |x::l,h=>by have a9:=h x List.mem_cons_self;simp -implicitDefEqProofs only[gd];show hY (.int .u8 (x:Int)::l.map wo)=_;unfold hY;rw[p1 l (fun b e=>h b (List.mem_cons_of_mem _ e))];simp;omega
theorem Cz(u:Nat)(U R:List (List dp))(dk:g0 u≤23):dG (qv (r3 u) U R) (.cZ (.l 0) 1 (g0 u) 23 1)=some (1,(ow u).map wo):=by
 have cR:(r3 u).drop 1=(ow u).map wo++List.replicate (23-g0 u) (wo 0):=rfl;have bK:(r3 u).length=24:=by simp [r3,pv];omega
 show(let es:=chunk 1 (g0 u) ((r3 u).drop 1);if ae.a7 es&&Nat.ble (1+g0 u*1) (r3 u).length&& !Nat.beq 1 0 then some (1,es) else none)=_;simp -implicitDefEqProofs only[cR,←pv,r4,p0,bK];rw[if_pos]
 have:Nat.ble (1+(ow u).length*1) 24=true:=eN (by rw[pv];omega);rw[this];rfl
theorem U7(dS:G 0=.bP iN)(u:Nat)(h:u<131072)(s:ag):aP aR G X 77 [.int .i64 (u:Int),.int .i64 10] s=.ok (.str (eF u)) s:=by
 rw[I7,Ux];have t10:(10:Int)=10:=rfl;have r:(0:Int)≤(u:Int):=by omega
 by_cases y:u<100
 ·have c:(u:Int)<100:=by omega
  have H:=U6 G X u y s.aj;simp -implicitDefEqProofs only[↓cI,↓cM,↓bU,↓bk,↓aA,↓aD,↓aw,↓aE,↓aM,↓aN,↓ax,↓aF,↓aC,↓aT,↓aW,↓bc,↓dI,↓az,↓bs,↓b0,↓c1,↓b7,↓b8,↓b1,↓b9,↓ca,↓cb,↓cc,↓cd,↓cf,↓bu,↓bw,↓bx,↓c2,↓c3,↓c4,↓c5,↓c6,↓c7,↓c8,↓c9,↓da,↓cg,↓ch,↓ci,↓fl,↓fA,↓fP,↓bl,↓cF,↓br,↓cX,↓b5,↓cA,↓cS,↓db,↓aX,↓aO,↓aY,↓aJ,↓aH,↓aZ,↓cN,↓bV,↓b2,↓cj,↓ck,↓cl,↓cm,↓cn,↓co,↓cp,↓cq,bW,dQ,List.cons_append,List.nil_append,b6,decide_eq_false_iff_not,ite_not,↓reduceIte,a8,aG,ba,bz,eS,d8,d9,bf,bT,cx,Nat.reduceAdd,List.all_cons,List.all_nil,ds,dg,du,dO,bC,↓bi,Nat.reduceLeDiff,aB,cT,cW,eq_true t10,eq_true r,eq_true c,dF,bd H]
 ·have c:¬(u:Int)<100:=by omega
  have A:¬(u:Int)<0:=by omega
  have dk:g0 u≤6:=by unfold g0;split<;> (try split)<;> (try split)<;> omega
  have w:IntKind.wrap .u64 (u:Int)=(u:Int):=IntWalk.u64_in _ ⟨by omega,by omega⟩;have B:IntKind.wrap .i64 (1+((g0 u:Nat):Int))=((g0 u+1:Nat):Int):=by rw[eK _ (by omega) (by omega)];omega
  have I:=fun s=>UZ G X dS u (by omega) h s
  have J:=U4 G X u (by omega) h (s.own::s.up) s.ro;have F:=fun(s:ag) (k:be)=>Z8 G X s k (g0 u) (by omega)
  have e:eF u=ow u:=by unfold eF;rw[if_neg (by omega),if_neg y]
  rw[e];simp -implicitDefEqProofs only[↓cI,↓cM,↓bU,↓bk,↓aA,↓aD,↓aw,↓aE,↓aM,↓aN,↓ax,↓aF,↓aC,↓aT,↓aW,↓bc,↓dI,↓az,↓bs,↓b0,↓c1,↓b7,↓b8,↓b1,↓b9,↓ca,↓cb,↓cc,↓cd,↓cf,↓bu,↓bw,↓bx,↓c2,↓c3,↓c4,↓c5,↓c6,↓c7,↓c8,↓c9,↓da,↓cg,↓ch,↓ci,↓fl,↓fA,↓fP,↓bl,↓cF,↓br,↓cX,↓b5,↓cA,↓cS,↓db,↓aX,↓aO,↓aY,↓aJ,↓aH,↓aZ,↓cN,↓bV,↓b2,↓cj,↓ck,↓cl,↓cm,↓cn,↓co,↓cp,↓cq,bW,dQ,List.cons_append,List.nil_append,b6,decide_eq_false_iff_not,ite_not,↓reduceIte,a8,aG,ba,bz,eS,d8,d9,bf,bT,cx,Nat.reduceAdd,List.all_cons,List.all_nil,ds,dg,du,dO,bC,↓bi,Nat.reduceLeDiff,aB,cT,cW,eq_true t10,eq_true r,eq_false c,dF,dw,bS,Eb,↓xU,w,eq_false A,Ea];refine(bd (I _)).trans ?_;simp -implicitDefEqProofs only[↓cI,↓cM,↓bU,↓bk,↓aA,↓aD,↓aw,↓aE,↓aM,↓aN,↓ax,↓aF,↓aC,↓aT,↓aW,↓bc,↓dI,↓az,↓bs,↓b0,↓c1,↓b7,↓b8,↓b1,↓b9,↓ca,↓cb,↓cc,↓cd,↓cf,↓bu,↓bw,↓bx,↓c2,↓c3,↓c4,↓c5,↓c6,↓c7,↓c8,↓c9,↓da,↓cg,↓ch,↓ci,↓fl,↓fA,↓fP,↓bl,↓cF,↓br,↓cX,↓b5,↓cA,↓cS,↓db,↓aX,↓aO,↓aY,↓aJ,↓aH,↓aZ,↓cN,↓bV,↓b2,↓cj,↓ck,↓cl,↓cm,↓cn,↓co,↓cp,↓cq,bW,dQ,List.cons_append,List.nil_append,b6,decide_eq_false_iff_not,ite_not,↓reduceIte,a8,aG,ba,bz,eS,d8,d9,bf,bT,cx,Nat.reduceAdd,List.all_cons,List.all_nil,ds,dg,du,dO,bC,↓bi,Nat.reduceLeDiff,aB,cT,cW,B];refine(F _ _).trans ?_;refine(yG J rfl).trans ?_;simp -implicitDefEqProofs only[↓cI,↓cM,↓bU,↓bk,↓aA,↓aD,↓aw,↓aE,↓aM,↓aN,↓ax,↓aF,↓aC,↓aT,↓aW,↓bc,↓dI,↓az,↓bs,↓b0,↓c1,↓b7,↓b8,↓b1,↓b9,↓ca,↓cb,↓cc,↓cd,↓cf,↓bu,↓bw,↓bx,↓c2,↓c3,↓c4,↓c5,↓c6,↓c7,↓c8,↓c9,↓da,↓cg,↓ch,↓ci,↓fl,↓fA,↓fP,↓bl,↓cF,↓br,↓cX,↓b5,↓cA,↓cS,↓db,↓aX,↓aO,↓aY,↓aJ,↓aH,↓aZ,↓cN,↓bV,↓b2,↓cj,↓ck,↓cl,↓cm,↓cn,↓co,↓cp,↓cq,bW,dQ,List.cons_append,List.nil_append,b6,decide_eq_false_iff_not,ite_not,↓reduceIte,a8,aG,ba,bz,eS,d8,d9,bf,bT,cx,Nat.reduceAdd,List.all_cons,List.all_nil,ds,dg,du,dO,bC,↓bi,Nat.reduceLeDiff,aB,cT,cW,eq_false A,dw,bS,D9,B];refine(F _ _).trans ?_;show gC (gz G (aP aR G X) bL) (qv (r3 u) (s.own::s.up) s.ro) _ (.cZ (.l 0) 1 (g0 u) 23 1)=_;unfold gC;simp -implicitDefEqProofs only[Cz u _ _ (show g0 u≤23 by omega),p1 _ (E5 h),ep,qu];rfl
theorem U8(dS:G 0=.bP iN)(u:Nat)(h:u<131072)(s:ag):aP aR G X 19 [.int .i64 (u:Int)] s=.ok (.str (eF u)) s:=by
 have e:=fun s=>U7 G X dS u h s
 have r:∀s,aP aR G X 47 [.int .i64 (u:Int)] s=.ok (.str (eF u)) s:=fun s=>by rw[I6,Uw];simp -implicitDefEqProofs only[↓cI,↓cM,↓bU,↓bk,↓aA,↓aD,↓aw,↓aE,↓aM,↓aN,↓ax,↓aF,↓aC,↓aT,↓aW,↓bc,↓dI,↓az,↓bs,↓b0,↓c1,↓b7,↓b8,↓b1,↓b9,↓ca,↓cb,↓cc,↓cd,↓cf,↓bu,↓bw,↓bx,↓c2,↓c3,↓c4,↓c5,↓c6,↓c7,↓c8,↓c9,↓da,↓cg,↓ch,↓ci,↓fl,↓fA,↓fP,↓bl,↓cF,↓br,↓cX,↓b5,↓cA,↓cS,↓db,↓aX,↓aO,↓aY,↓aJ,↓aH,↓aZ,↓cN,↓bV,↓b2,↓cj,↓ck,↓cl,↓cm,↓cn,↓co,↓cp,↓cq,bW,dQ,List.cons_append,List.nil_append,b6,decide_eq_false_iff_not,ite_not,↓reduceIte,a8,aG,ba,bz,eS,d8,d9,bf,bT,cx,Nat.reduceAdd,List.all_cons,List.all_nil,ds,dg,du,dO,bC,↓bi,Nat.reduceLeDiff,aB,cT,cW,bd (e _)]
 rw[I5,Uv];simp -implicitDefEqProofs only[↓cI,↓cM,↓bU,↓bk,↓aA,↓aD,↓aw,↓aE,↓aM,↓aN,↓ax,↓aF,↓aC,↓aT,↓aW,↓bc,↓dI,↓az,↓bs,↓b0,↓c1,↓b7,↓b8,↓b1,↓b9,↓ca,↓cb,↓cc,↓cd,↓cf,↓bu,↓bw,↓bx,↓c2,↓c3,↓c4,↓c5,↓c6,↓c7,↓c8,↓c9,↓da,↓cg,↓ch,↓ci,↓fl,↓fA,↓fP,↓bl,↓cF,↓br,↓cX,↓b5,↓cA,↓cS,↓db,↓aX,↓aO,↓aY,↓aJ,↓aH,↓aZ,↓cN,↓bV,↓b2,↓cj,↓ck,↓cl,↓cm,↓cn,↓co,↓cp,↓cq,bW,dQ,List.cons_append,List.nil_append,b6,decide_eq_false_iff_not,ite_not,↓reduceIte,a8,aG,ba,bz,eS,d8,d9,bf,bT,cx,Nat.reduceAdd,List.all_cons,List.all_nil,ds,dg,du,dO,bC,↓bi,Nat.reduceLeDiff,aB,cT,cW,bd (r _)]
end
end Go.gR
end
section
namespace Go.gR
open Go.Ab Go.hO
theorem xV:∀(p e:List a5) (x:a5) (q:List a5),jx e (p++x::q)=true→wf (e++p) x=true
 |[],e,x,q,h=>by rw[List.nil_append,jx,bm] at h;rw[uj];exact h.1
 |y::p,e,x,q,h=>by
  rw[List.cons_append,jx,bm] at h
  have:=xV p (e++[y]) x q h.2
  rwa [p2] at this
theorem CA(op:Int):fE op=0∨fE op=1∨fE op=2∨fE op=3:=by
 unfold fE;split
 ·exact .inr (.inl rfl)
 ·split
  ·exact .inr (.inr (.inl rfl))
  ·split
   ·exact .inr (.inr (.inr rfl))
   ·exact .inl rfl
theorem CB{l pre rest:List a5}(bK:l=pre++rest)(hw:jx [] l=true):∀o∈pre,fE o.op≠0:=by intro o e;obtain⟨p,q,r⟩:=List.append_of_mem e;have h:=xV p [] o (q++rest) (by rw[←List.cons_append,←p2,←r,←bK];exact hw);unfold wf at h;simp -implicitDefEqProofs only[bm,b6] at h;exact h.1.1.1
theorem Jr{l:List a5}(h:iv l=0):jx [] l=true∧l.length≤40:=by
 unfold iv at h;cases hw:jx [] l with
 |false=>rw[hw] at h;simp at h
 |true=>
  rw[hw] at h;simp -implicitDefEqProofs only[bX] at h;split at h
  ·cases h
  ·rename_i ar;exact⟨rfl,by omega⟩
end Go.gR
end
section
namespace Go.gR
open Go.Ab
def f4(x n:Int):Int:=(if x<0 then -(x+1) else x)%n
theorem j7{x n:Int}(h:0<n):0≤f4 x n∧f4 x n<n:=⟨Int.emod_nonneg _ (by omega),Int.emod_lt_of_pos _ h⟩
def mC(want r:Int):Bool:=decide (r=want)||(decide (want=0)&&decide (r≠1))
def jd(want:Int):List a5→Nat→List Int
 |[],_=>[]
 |x::l,i=>if mC want (fE x.op)=true then(i:Int)::jd want l (i+1) else jd want l (i+1)
def ku(l:List a5)(want n:Int):Int:=if(jd want l 0).length=0 then -1 else(jd want l 0).getD (f4 n (jd want l 0).length).toNat 0
theorem xW(want:Int):∀(l:List a5) (i:Nat) (a:Int),a∈jd want l i→∃(j:Nat) (x:a5),a=((i+j:Nat):Int)∧l[j]? =some x∧mC want (fE x.op)=true
 |[],_,a,h=>by cases h
 |x::l,i,a,h=>by
  have rest:a∈jd want l (i+1)→∃(j:Nat) (kw:a5),a=((i+j:Nat):Int)∧(x::l)[j]? =some kw∧mC want (fE kw.op)=true:=fun h=>by obtain⟨j,y,ar,av,bO⟩:=xW want l (i+1) a h;exact⟨j+1,y,by omega,by simpa using av,bO⟩
  unfold jd at h;split at h
  ·rename_i bt;rcases List.mem_cons.1 h with rfl |h
   ·exact⟨0,x,by omega,rfl,bt⟩
   ·exact rest h
  ·exact rest h
section
variable(G:Nat→ae)(X:Nat→List ae→ag→ah)
theorem oh(x n:Int)(dk:0<n)(a9: -9223372036854775808≤x∧x≤9223372036854775807)(s:ag):aP aR G X 14 [I x,I n] s=.ok (I (f4 x n)) s:=by
 have e3:n≠0:=by omega
 rw[Je,UE];unfold f4;by_cases h:x<0
 ·have r:IntKind.wrap .i64 (x+1)=x+1:=eK _ (by omega) (by omega);have u:IntKind.wrap .i64 (0-(x+1))= -(x+1):=by rw[eK _ (by omega) (by omega)];omega
  have e:(-(x+1)).tmod n=(-(x+1))%n:=Int.tmod_eq_emod_of_nonneg (by omega);rw[if_pos h];simp -implicitDefEqProofs only[↓cI,↓cM,↓bU,↓bk,↓aA,↓aD,↓aw,↓aE,↓aM,↓aN,↓ax,↓aF,↓aC,↓aT,↓aW,↓bc,↓dI,↓az,↓bs,↓b0,↓c1,↓b7,↓b8,↓b1,↓b9,↓ca,↓cb,↓cc,↓cd,↓cf,↓bu,↓bw,↓bx,↓c2,↓c3,↓c4,↓c5,↓c6,↓c7,↓c8,↓c9,↓da,↓cg,↓ch,↓ci,↓fl,↓fA,↓fP,↓bl,↓cF,↓br,↓cX,↓b5,↓cA,↓cS,↓db,↓aX,↓aO,↓aY,↓aJ,↓aH,↓aZ,↓cN,↓bV,↓b2,↓cj,↓ck,↓cl,↓cm,↓cn,↓co,↓cp,↓cq,bW,dQ,List.cons_append,List.nil_append,b6,decide_eq_false_iff_not,ite_not,↓reduceIte,a8,aG,ba,bz,eS,d8,d9,bf,bT,cx,Nat.reduceAdd,List.all_cons,List.all_nil,ds,dg,du,dO,bC,↓bi,Nat.reduceLeDiff,aB,cT,cW,eq_true h,dF,r,u,vX,↓r2 G X _ _ _ e3,e]
 ·have e:x.tmod n=x%n:=Int.tmod_eq_emod_of_nonneg (by omega);rw[if_neg h];simp -implicitDefEqProofs only[↓cI,↓cM,↓bU,↓bk,↓aA,↓aD,↓aw,↓aE,↓aM,↓aN,↓ax,↓aF,↓aC,↓aT,↓aW,↓bc,↓dI,↓az,↓bs,↓b0,↓c1,↓b7,↓b8,↓b1,↓b9,↓ca,↓cb,↓cc,↓cd,↓cf,↓bu,↓bw,↓bx,↓c2,↓c3,↓c4,↓c5,↓c6,↓c7,↓c8,↓c9,↓da,↓cg,↓ch,↓ci,↓fl,↓fA,↓fP,↓bl,↓cF,↓br,↓cX,↓b5,↓cA,↓cS,↓db,↓aX,↓aO,↓aY,↓aJ,↓aH,↓aZ,↓cN,↓bV,↓b2,↓cj,↓ck,↓cl,↓cm,↓cn,↓co,↓cp,↓cq,bW,dQ,List.cons_append,List.nil_append,b6,decide_eq_false_iff_not,ite_not,↓reduceIte,a8,aG,ba,bz,eS,d8,d9,bf,bT,cx,Nat.reduceAdd,List.all_cons,List.all_nil,ds,dg,du,dO,bC,↓bi,Nat.reduceLeDiff,aB,cT,cW,eq_false h,dw,bS,vX,↓r2 G X _ _ _ e3,e]
end
section
variable(G:Nat→ae)(X:Nat→List ae→ag→ah)
def we(F:List Int)(n:Int):Int:=if F.length=0 then -1 else F.getD (f4 n F.length).toNat 0
theorem E6(F:List Int)(g':e2)(n:Int)(dk: -9223372036854775808≤n∧n≤9223372036854775807)(h1:F.length≤1000)(s S:ag)(h:Child s S):zk (a0 aR G X) (I n) (.cr 1 (F.map I) g') S=.ok (I (we F n)) s:=by
 have e:=fun n=>ih (T:=aR) (G:=G) (X:=X) h .i64 n
 rw[Ev,aC,eo,bl];unfold we;by_cases eJ:F.length=0
 ·rw[dH (by omega),d0,if_pos eJ];exact e _
 ·have fp:(0:Int)<(F.length:Int):=by omega
  have aQ:=j7 (x:=n) fp;have rs:=oh G X n F.length fp dk S;have r:(f4 n F.length).toNat<F.length:=by omega
  have a9:(F.map I)[(f4 n F.length).toNat]? =some (I (F.getD (f4 n F.length).toNat 0)):=by simp [iJ,eI r,List.getD_eq_getElem?_getD]
  have u:=fun(k:be)=>rk (T:=aR) (G:=G) (X:=X) (s:=S) (k:=k) 1 _ g' .i64 (f4 n F.length) _ aQ.1 a9
  rw[bR (by omega),ee,if_neg eJ,Eu,aC,eo,aG,aG,bd rs,u];exact(bc _ []).trans (e _)
theorem E7(l:List a5)(g:e2)(want n:Int)(dk: -9223372036854775808≤n∧n≤9223372036854775807)(bK:l.length≤1000)(s:ag):∀(rest pre:List a5) (acc:List Int) (g':e2) (S:ag),l=pre++rest→acc.length≤pre.length→Child s S→gY S g' acc.length→
  ua (a0 aR G X) (b3 l g) (I want) (I n) (.cr 1 (acc.map I) g') (.int .i64 (pre.length:Int)) S=.ok (I (we (acc++jd want rest pre.length) n)) s:=by
 intro rest
 induction rest with
 |nil=>
  intro pre acc g' S h B r cB;have e:(l.map a5.enc).length=l.length:=eo ..;have F:pre.length=l.length:=by rw[h];simp
  rw[vZ,aC,e,br,bR (by omega),ee,E6 G X acc g' n dk (by omega) s S r];simp [jd]
 |cons x rest u=>
  intro pre acc g' S h B r cB;have e:(l.map a5.enc).length=l.length:=eo ..;have F:pre.length<l.length:=by rw[h];simp
  have ex:(l.map a5.enc)[pre.length]? =some x.enc:=by rw[h];simp
  have H:=fun(k:be)=>Ca G X S k 12 _ g .i64 pre.length _ ex
  have J:∀K:be,(a0 aR G X).ay S K none (.bP (x.enc.cells.drop 1))=K (I x.op) S:=fun K=>rfl
  have yO:=HZ G X x.op S;have hex:∀K:be,(a0 aR G X).bH S K 0 (mz x.op)=K (fY (gq x.op) (pW x.op)) S:=fun K=>nd _ _
  have L:∀K:be,(a0 aR G X).bH S K 1 (mz x.op)=K (I (fE x.op)) S:=fun K=>nf _ _ _
  have M:∀K:be,(a0 aR G X).bH S K 2 (mz x.op)=K (.bool (iD x.op)) S:=fun K=>sw _ _ _ _
  have y:=fun S k=>nh G X S k pre.length (by omega)
  have no:mC want (fE x.op)=false→rT (a0 aR G X) (b3 l g) (I want) (I n) (.cr 1 (acc.map I) g') (.int .i64 (pre.length:Int)) S=.ok (I (we (acc++jd want (x::rest) pre.length) n)) s:=fun bt=>by
   rw[vY,y]
   have:=u (pre++[x]) acc g' S (by rw[h];simp) (by simp;omega) r cB;rw[gu,List.length_singleton] at this;rw[this];simp [jd,bt]
  have A:mC want (fE x.op)=true→(a0 aR G X).a6 S (fun N s=>(a0 aR G X).f8 s (fun O s=>rT (a0 aR G X) (b3 l g) (I want) (I n) O (.int .i64 (pre.length:Int)) s) 1 8 (some (.l 0)) (.cr 1 (acc.map I) g') N) 1 [.int .i64 (pre.length:Int)]=.ok (I (we (acc++jd want (x::rest) pre.length) n)) s:=fun bt=>by
   rw[ss];refine xC (new:=[I (pre.length:Int)]) (by simpa using cB) (by simp) (by simp;omega) rfl (fun g2 U V ar av bO Y=>?_);rw[vY,y]
   have:=u (pre++[x]) (acc++[(pre.length:Int)]) g2 U (by rw[h];simp) (by simp;omega) (Y.child r) (by simpa using V);rw[gu,List.length_singleton] at this;rw[List.map_append] at this;refine this.trans ?_;simp [jd,bt]
  rw[vZ,aC,e,br,dH (by omega),d0,Et,H,dI,J,aG,bd yO,hex,L,M,bl];by_cases ar:fE x.op=want
  ·rw[dH ar];simp -implicitDefEqProofs only[gh,fc,d0,bG];exact A (by simp [mC,ar])
  ·rw[bR ar];simp -implicitDefEqProofs only[eL,bl];by_cases av:want=0
   ·simp -implicitDefEqProofs only[dH av,fK,cF];by_cases bO:fE x.op=1
    ·simp -implicitDefEqProofs only[bR (show¬¬fE x.op=1 by omega),fc,eM,ee];exact no (by simp [mC,ar,av,bO])
    ·simp -implicitDefEqProofs only[dH bO,fc,eM,d0];exact A (by simp [mC,av,bO])
   ·simp -implicitDefEqProofs only[bR av,gL,bG,eM,ee];exact no (by simp [mC,ar,av])
theorem U9(l:List a5)(g:e2)(want n:Int)(dk: -9223372036854775808≤n∧n≤9223372036854775807)(bK:l.length≤1000)(s:ag):aP aR G X 35 [b3 l g,I want,I n] s=.ok (I (ku l want n)) s:=by
 rw[Jf,UF]
 have:=E7 G X l g want n dk bK s l [] [] .nil s.aj rfl (aB _) (Child.aj s) .nil;exact this
end
end Go.gR
end
section
namespace Go.gR
open Go.Ab Go.hO
set_option maxRecDepth 1000000
abbrev Js:ag:={own:=[],up:=[],ro:=[]}
def Jt:List ae→Option (List Nat)
 |[]=>some []
 |.int .u32 n::l=>if 0≤n∧n<4294967296 then(Jt l).map (n.toNat:: ·) else none
 |_::_=>none
def Va(m:List Nat):e2→Bool
 |.dt _=>false
 |.nil=>m.isEmpty
 |_=>true
structure hV.Ju (n:hV):Prop where
 nil:n.g=.nil→n.pB=[]
 len:n.pB.length≤100000
def Z9(r:ah):Bool:=
 match r with
 |.ok (.eb [.agg [.bool aaa,.cr 1 e vp,.bool ka,.cr 1 Aa hb],.int .i64 0]) _=>
  match Jt e,Jt Aa with
  |some a,some b=>Va a vp&&Va b hb&&Nat.ble a.length 1000&&Nat.ble b.length 1000&&mX aaa ka a b
  |_,_=>false
 |_=>false
structure aab (v:ae) (iw bQ:hV):Prop where
 v:v=.agg [.bool iw.neg,iw.v,.bool bQ.neg,bQ.v]
 Ak:oz iw
 gN:oz bQ
 valid:iQ iw bQ=true
 aaa:iw.Ju
 ka:bQ.Ju
theorem wg:∀{m:List ae} {a:List Nat},Jt m=some a→m=a.map U∧dL a
 |[],a,h=>by simp only[Jt,bj] at h;subst h;exact⟨rfl,fun x a9=>by cases a9⟩
 |e::m,a,h=>by
  unfold Jt at h;split at h
  ·rename_i r;cases r
  ·rename_i n l r;cases r;split at h
   ·rename_i dk;obtain⟨l',ar,av⟩:=Option.map_eq_some_iff.1 h;subst av;obtain⟨bO,dD⟩:=wg ar;refine⟨?_,fun x a9=>?_⟩
    ·rw[gd,←bO];simp [U,Int.toNat_of_nonneg dk.1]
    ·rcases List.mem_cons.1 a9 with rfl |a9
     ·rw[kE];omega
     ·exact dD x a9
   ·cases h
  ·cases h
theorem Ii{m:List Nat}{g:e2}(h:Va m g=true):∀a,g≠.dt a:=fun a e=>by subst e;cases h
theorem Ij{m:List Nat}{g:e2}(h:Va m g=true):g=.nil→m=[]:=fun e=>by subst e;exact List.isEmpty_iff.1 h
theorem Ow{r:ah}(h:Z9 r=true):∃v s' iw bQ,r=.ok (.eb [v,.int .i64 0]) s'∧aab v iw bQ:=by
 unfold Z9 at h;split at h
 ·rename_i aaa I vp ka Aa hb s';split at h
  ·rename_i a b e u;simp only[bm] at h;obtain⟨⟨⟨⟨ar,av⟩,bO⟩,dD⟩,y⟩:=h;obtain⟨A,B⟩:=wg e;obtain⟨F,H⟩:=wg u;have J:=dW bO;have K:=dW dD;exact⟨_,s',⟨aaa,a,vp⟩,⟨ka,b,hb⟩,rfl,by rw[A,F];rfl,⟨Ii ar,B,by show a.length<_;omega⟩,⟨Ii av,H,by show b.length<_;omega⟩,y,⟨Ij ar,by show a.length≤_;omega⟩,⟨Ij av,by show b.length≤_;omega⟩⟩
  ·cases h
 ·cases h
section
variable(G:Nat→ae)(X:Nat→List ae→ag→ah)
noncomputable def gM(a:Nat):Bool:=(List.range 4).all fun b=>Z9 (call aU.full aR G X 200 46 [I ((a:Int)-16),I ((b:Int)+1)] Js)
end
end Go.gR
end
