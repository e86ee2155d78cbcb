/- A part of the proof: no condition. -/
import Derived.Test.YtgdnbfijkagodaaGreatDoorA6
import Derived.Test.YtgdnbfijkagodaaGreatDoorA3
import Derived.Test.YtgdnbfijkagodaaGreatDoorA5
import Derived.KernelRfl
set_option linter.unusedSectionVars false
set_option linter.unusedSimpArgs false
set_option linter.unusedVariables false
section
namespace Go.gl
open Go.Ab Go.hC
variable(G:Nat→ae)(X:Nat→List ae→ag→ah)
abbrev um(p:Nat×Nat):ae:=.agg [I p.1,I p.2]
def mO(i:Nat)(x:aT):List (Nat×Nat):=if x.op=1 then[(i,0),(i,1)] else if x.op=2 then[(i,0)] else[]
def jZ:List aT→Nat→List (Nat×Nat)
 |[],_=>[]
 |x::r,i=>mO i x++jZ r (i+1)
theorem G8(i:Nat)(x:aT):(mO i x).length≤2:=by unfold mO;split<;> (try split)<;> simp
theorem oD:∀l:List (Nat×Nat),ae.aZ (l.map um)=true
 |[]=>rfl
 |x::l=>by simp -implicitDefEqProofs only[fH,ae.aZ,oD l,Bool.and_true];rfl
theorem yW:∀l:List (Nat×Nat),((l.map um).flatMap ae.cells).all ae.eB=true
 |[]=>rfl
 |x::l=>by simp -implicitDefEqProofs only[fH,List.flatMap_cons,List.all_append,yW l,Bool.and_true];rfl
theorem RP{S:ag}{k:bd}(l:List (Nat×Nat)):(aV aL G X).a9 S k 2 (l.map um)=k (.bW 2 (l.map um) .exact) S:=by
 refine jX 2 _ (oD l) ?_
 induction l with
 |nil=>rfl
 |cons x l e=>simp -implicitDefEqProofs only[fH,List.all_cons,e,Bool.and_true];rfl
theorem s9{α β:Type}(f:α→β)(l:List α):gw (l.map f)=gw l:=by cases l<;> rfl
theorem AE{S:ag}(a b:Nat)(k:bd):(aV aL G X).ih [.int .i64 0,.int .i64 0] [(0,1,.int .i64 (a:Int)),(1,1,.int .i64 (b:Int))] S k=k (um (a,b)) S:=rfl
theorem YB(l:List aT)(g:eZ)(s:ag)(bN:l.length≤1000):aA aL G X 44 [bp l g] s=.ok (.bW 2 ((jZ l 0).map um) (gw (jZ l 0))) s:=by
 have loop:∀n i:Nat,i+n=l.length→∀(es:List (Nat×Nat)) (ge:eZ) (S:ag),Child s S→gS S ge es.length→es.length≤2*i→
   uC (aV aL G X) (.bW 2 (es.map um) ge) (bp l g) (.int .i64 (l.length:Int)) (.int .i64 (i:Int)) S=.ok (.bW 2 ((es++jZ (l.drop i) i).map um) (gw (es++jZ (l.drop i) i))) s:=by
  intro n
  induction n with
  |zero=>
   intro i bL es ge S f4 cb he;have e:¬(i:Int)<(l.length:Int):=by omega
   rw[wD,be,cA e,ee,FI,mm (by omega)];simp -implicitDefEqProofs only[jZ,qw]
   have:=oo (S:=S) (sz:=2) (es:=es.map um) (g:=ge) (by simpa using cb) (oD es);rw[s9] at this;exact gv f4 _ _ this
  |succ n r=>
   intro i bL es ge S f4 cb he;have e:(i:Int)<(l.length:Int):=by omega
   have u:i<l.length:=by omega
   have F:(l.map aT.enc)[i]? =some l[i].enc:=by simp [u]
   have ip:=fun(k:bd)=>DC G X S k 12 _ g .i64 i _ F
   have H:∀x,l[i]=x→l.drop i=x::l.drop (i+1):=fun x a5=>by rw[←a5];exact iP u
   generalize a5:l[i]=x at *;have I:∀(S:ag) (k:bd),(aV aL G X).aw S k (some 12) (.bh x.enc.cells)=k x.enc S:=fun S k=>bk (T:=aL) (G:=G) (X:=X) (s:=S) (k:=k) 12 x.cs (aD 12)
   have J:∀d,ae.ap d x.enc=x.enc:=fun d=>rfl
   have gH:=fun(k:bd) (cs:List ae) (h:cs.length=12)=>cQ (T:=aL) (G:=G) (X:=X) (s:=S) (k:=k) 12 x.cs cs rfl h x.cells
   have y:=fun S k=>ny G X S k i (by omega)
   have cP:=H x rfl;have A:gS (S.new (.cells x.cs)) ge es.length:=cb.new _;have app:∀new:List (Nat×Nat),new=mO i x→new≠[]→(aV aL G X).fO (S.new (.cells x.cs)) (fun v S=>r9 (aV aL G X) v (bp l g) (.int .i64 (l.length:Int)) (.int .i64 (i:Int)) S) 2 16 (some (.l 0)) (.bW 2 (es.map um) ge) (.bW 2 (new.map um) .exact)=.ok (.bW 2 ((es++jZ (l.drop i) i).map um) (gw (es++jZ (l.drop i) i))) s:=fun new B eR=>by
    have hlen:new.length≤2:=by rw[B];exact G8 i x
    refine sX (by simpa using A) (by simpa using eR) (by simp;omega) (yW new) (fun g' S' K ar av bV M=>?_);rw[wC,y,←List.map_append]
    have:=r (i+1) (by omega) (es++new) g' S' (M.child (f4.new _)) (by simpa using K) (by simp;omega);rw[this,cP];simp -implicitDefEqProofs only[jZ,B,nk]
   rw[wD,be,dQ e,ek,FH,ip,I,cI,J];refine(gH _ _ rfl).trans ?_;rw[aI,bf,yV,bJ];by_cases ar:x.op=1
   ·have bL:mO i x=[(i,0),(i,1)]:=by unfold mO;rw[if_pos ar]
    have a:=app _ bL.symm (by simp);rw[dQ ar,ek];refine(AE G X i 0 _).trans ?_;refine(AE G X i 1 _).trans ?_;refine(RP G X [(i,0),(i,1)]).trans ?_;exact a
   ·rw[cA ar,ee,bJ];by_cases av:x.op=2
    ·have bL:mO i x=[(i,0)]:=by unfold mO;rw[if_neg ar,if_pos av]
     have a:=app _ bL.symm (by simp);rw[dQ av,ek];refine(AE G X i 0 _).trans ?_;refine(RP G X [(i,0)]).trans ?_;exact a
    ·have bL:mO i x=[]:=by unfold mO;rw[if_neg ar,if_neg av]
     have:=r (i+1) (by omega) es ge (S.new (.cells x.cs)) (f4.new _) A (by omega);rw[cA av,ee,wC,y,this,cP];simp -implicitDefEqProofs only[jZ,bL,List.nil_append]
 rw[Lu,XU,aB,ep]
 have:=loop l.length 0 (by omega) [] .nil s.ai (.ai s) .nil (by simp);simp -implicitDefEqProofs only[List.map_nil,List.nil_append,b9] at this;exact this
def iB:List aT→List aT→Bool
 |_,[]=>true
 |pre,x::r=>wf pre x&&iB (pre++[x]) r
def AQ(l:List aT):Nat:=(l.filter fun x=>iX x.op).length
def hs(l:List aT):Int:=bif iB [] l then(if 40<l.length∨5<AQ l∨20<(jZ l 0).length then 111 else 0) else 120
theorem DZ(l:List aT)(x:aT):AQ (l++[x])=AQ l+(if iX x.op=true then 1 else 0):=by unfold AQ;rw[List.filter_append,gL];congr 1;simp -implicitDefEqProofs only[List.filter_cons,List.filter_nil];split<;> rfl
theorem RQ(l:List aT):AQ l≤l.length:=List.length_filter_le _ _
theorem YC(l:List aT)(g:eZ)(cb:∀a,g≠.dx a)(s:ag)(bN:l.length<9223372036854775806)(dk:∀o,o∈l→p4 o):aA aL G X 16 [bp l g] s=.ok (I (hs l)) s:=by
 have fin:∀S,Child s S→Ac (aV aL G X) (bp l g) (I (AQ l:Int)) S=.ok (I (if 40<l.length∨5<AQ l∨20<(jZ l 0).length then 111 else 0)) s:=fun S f4=>by
  have Z:=RQ l;have r:=fun n=>ir (T:=aL) (G:=G) (X:=X) f4 .i64 n
  rw[FA,aB,ep,bZ];by_cases ar:40<l.length
  ·have e:(40:Int)<(l.length:Int):=by omega
   rw[if_pos (.inl ar)];simp -implicitDefEqProofs only[dQ e,hg,fD,ek,b3];exact r _
  ·have e:¬(40:Int)<(l.length:Int):=by omega
   simp -implicitDefEqProofs only[cA e,eV,eY,bZ];by_cases av:5<AQ l
   ·have A:(5:Int)<(AQ l:Int):=by omega
    rw[if_pos (.inr (.inl av))];simp -implicitDefEqProofs only[dQ A,hg,fD,ek,b3];exact r _
   ·have A:¬(5:Int)<(AQ l:Int):=by omega
    have c:=YB G X l g S (by omega);simp -implicitDefEqProofs only[cA A,eV,eY,iA _ cb];rw[a8 c];simp -implicitDefEqProofs only[aB,ep,bZ];by_cases bV:20<(jZ l 0).length
    ·have B:(20:Int)<((jZ l 0).length:Int):=by omega
     rw[if_pos (.inr (.inr bV)),dQ B,ek];exact r _
    ·have B:¬(20:Int)<((jZ l 0).length:Int):=by omega
     rw[if_neg (by omega),cA B,ee,Fz];exact r _
 have loop:∀n i:Nat,i+n=l.length→∀S,Child s S→
   uA (aV aL G X) (bp l g) (I (AQ (l.take i):Int)) (bp l g) (.int .i64 (l.length:Int)) (.int .i64 (i:Int)) S=.ok (I (bif iB (l.take i) (l.drop i) then(if 40<l.length∨5<AQ l∨20<(jZ l 0).length then 111 else 0) else 120)) s:=by
  intro n
  induction n with
  |zero=>
   intro i bL S f4;have e:¬(i:Int)<(l.length:Int):=by omega
   rw[wA,be,cA e,ee,mm (by omega),i6 (by omega),fin S f4];rfl
  |succ n M=>
   intro i bL S f4;have e:(i:Int)<(l.length:Int):=by omega
   have y:i<l.length:=by omega
   have N:(l.map aT.enc)[i]? =some l[i].enc:=by simp [y]
   have ip:=fun(k:bd)=>DC G X S k 12 _ g .i64 i _ N
   have ji:l[i]∈l:=ml y;have cP:l.drop i=l[i]::l.drop (i+1):=iP y;have ed:l.take (i+1)=l.take i++[l[i]]:=List.take_succ_eq_append_getElem y;generalize a5:l[i]=x at *;have O:∀(S:ag) (k:bd),(aV aL G X).aw S k (some 12) (.bh x.enc.cells)=k x.enc S:=fun S k=>bk (T:=aL) (G:=G) (X:=X) (s:=S) (k:=k) 12 x.cs (aD 12)
   have U:∀d,ae.ap d x.enc=x.enc:=fun d=>rfl
   have gH:=fun(k:bd) (cs:List ae) (h:cs.length=12)=>cQ (T:=aL) (G:=G) (X:=X) (s:=S) (k:=k) 12 x.cs cs rfl h x.cells
   have F:=fun S k=>ny G X S k i (by omega)
   have bW:=fun(S:ag) (k:bd)=>KH G X l cb (i+1) (by omega) S k
   rw[ed] at bW;have H:=vT cb l.length (i+1);have aa:(l.take i).length=i:=by simp;omega
   have abR:=YA G X (l.take i) x _ H (S.new (.cells x.cs)) (by omega) (dk x ji) (fun o V=>dk o (List.mem_of_mem_take V));have J:=fun(k:bd)=>b1 (T:=aL) (G:=G) (X:=X) (s:=S) (k:=k) 12 x.cs (aD 12)
   rw[AC] at J;have E7:=Yu G X x (S.new (.cells x.cs));have r:=fun n=>ir (T:=aL) (G:=G) (X:=X) (f4.new (.cells x.cs)) .i64 n
   have u:=M (i+1) (by omega) (S.new (.cells x.cs)) (f4.new _);rw[ed,DZ] at u;have ab:=RQ (l.take i);rw[wA,be,dQ e,ek,Fy,ip,O,cI,U];refine(gH _ _ rfl).trans ?_;rw[F,bW,iA _ H,a8 abR,cT,cP];simp -implicitDefEqProofs only[iB];cases hw:wf (l.take i) x with
   |false=>rw[g7,ek,gb,cond_false];exact r _
   |true=>
    rw[hk,ee,eI,Fx];refine(J _).trans ?_;show(aV aL G X).bn (S.new (.cells x.cs)) _ 43 [x.enc]=_;rw[a8 E7];cases K:iX x.op with
    |false=>rw[K] at u;rw[ee,wz,F];exact u
    |true=>
     rw[K] at u;have Y:=fun S k=>ny G X S k (AQ (l.take i)) (by omega)
     rw[ek,Y,wz,F];exact u
 rw[Lr,XR,aB,ep];exact loop l.length 0 (by omega) s.ai (.ai s)
def ad4:h0:=⟨false,[],.nil⟩
theorem j5:oX ad4 where
 g:=fun a e=>by cases e
 ok:=fun x a5=>absurd a5 qv
 len:=by decide
abbrev ga(n:Nat):ae:=I (n:Int)
theorem oE:∀l:List Nat,ae.aZ (l.map ga)=true
 |[]=>rfl
 |x::l=>by simp -implicitDefEqProofs only[fH,ae.aZ,oE l,Bool.and_true];rfl
instance:Inhabited h0:=⟨⟨false,[],.nil⟩⟩
instance:Inhabited aT:=⟨⟨[],0,[],.nil,default,default,default,default,0⟩⟩
def nY(l:List aT)(i:Int):Int:=if hs l≠0 then hs l else if i<0∨(l.length:Int)≤i then 1 else 0
section
variable(l:List aT)(g:eZ)(cb:∀a,g≠.dx a)(bN:l.length<9223372036854775806)(dk:∀o,o∈l→p4 o)(i:Int)(s:ag)
include cb bN dk
theorem KI:aA aL G X 37 [bp l g,I i] s=.ok (I (nY l i)) s:=by
 have c:=a8 (T:=aL) (G:=G) (X:=X) (s:=s.ai) (k:=fun e s=>(aV aL G X).aj s (fun r s=>(aV aL G X).aP r ((aV aL G X).a0 false [some e] s) (Ag (aV aL G X) (bp l g) (I i) s)) (al .neq e (.int .i64 0))) (YC G X l g cb s.ai bN dk);have fz:ae.ap s.ai.aa (bp l g)=bp l g:=iA l cb _;rw[Lv,XV,fz];refine c.trans ?_;rw[cL];unfold nY;by_cases h:hs l=0
 ·rw[cA (by simp [h]),ee,if_neg (by simp [h]),FK,be];by_cases ar:i<0
  ·rw[dQ ar,if_pos (.inl ar)];simp -implicitDefEqProofs only[hg,b3,fD,ek];exact aN _ _
  ·rw[cA ar];simp -implicitDefEqProofs only[eV,aB,ep,cJ,eY];by_cases av:(l.length:Int)≤i
   ·rw[dQ av,ek,if_pos (.inr av)];exact aN _ _
   ·rw[cA av,ee,if_neg (by omega),FJ];exact aN _ _
 ·rw[dQ h,ek,if_pos h];exact aN _ _
end
end Go.gl
end
section
namespace Go.gl
open Go.Ab
set_option maxRecDepth 100000
section
variable(G:Nat→ae)(X:Nat→List ae→ag→ah)
theorem ss{s:ag}{k:bd}(ev:IntKind)(a b:Int)(h:b≠0):(aV aL G X).aj s k (al .rem (.int ev a) (.int ev b))=k (.int ev (a.tmod b)) s:=by rw[show al .rem (.int ev a) (.int ev b)=some (.int ev (a.tmod b)) from by simp [al,gr,h]];rfl
theorem AF{s:ag}{k:bd}(ev:IntKind)(a b:Int)(h:b≠0):(aV aL G X).aj s k (al .quo (.int ev a) (.int ev b))=k (.int ev (ev.wrap (a.tdiv b))) s:=by rw[show al .quo (.int ev a) (.int ev b)=some (.int ev (ev.wrap (a.tdiv b))) from by simp [al,gr,h]];rfl
theorem tZ(s:ag)(k:bd)(d ev:IntKind)(n:Int):(aV aL G X).bY s k d (.int ev n)=k (.int d (d.wrap n)) s:=rfl
theorem u8_in(n:Nat)(h:n<256):IntKind.wrap .u8 (n:Int)=(n:Int):=by
 have:∀n:Fin 256,IntKind.wrap .u8 ((n:Nat):Int)=((n:Nat):Int):=by decide
 exact this ⟨n,h⟩
end
def qs:List Int:=[1,10,100,1000,10000,100000,1000000,10000000,100000000,1000000000,10000000000,100000000000,1000000000000,10000000000000,100000000000000,1000000000000000,10000000000000000,100000000000000000,1000000000000000000,10000000000000000000]
def iT:List ae:=qs.map fun n=>.int .u64 n
section
variable(G:Nat→ae)(X:Nat→List ae→ag→ah)
theorem KJ{s:ag}{k:bd}(e8:List Nat)(ev:IntKind)(i:Nat)(b:Nat)(h:e8[i]? =some b):(aV aL G X).hz s k (.str e8) (.int ev (i:Int))=k (.int .u8 b) s:=by show h6 (gz G (aA aL G X) bQ) s k (.str e8) (.int ev (i:Int))=_;unfold h6;simp -implicitDefEqProofs only[g9,h];rfl
theorem YD{s:ag}{k:bd}(cs:List ae)(n:Nat)(ev:IntKind)(i:Nat)(h:i<n):(aV aL G X).mg s k 1 n (.bh cs) (.int ev (i:Int))=k (.bh (cs.drop i)) s:=by show hM (gz G (aA aL G X) bQ) s k 1 n (.bh cs) (.int ev (i:Int))=_;unfold hM;simp -implicitDefEqProofs only[g9,show Nat.blt i n=true from by simp [Nat.blt_eq,h],bH,Nat.mul_one];rfl
theorem G9{s:ag}{k:bd}(ev e:IntKind)(a b:Int)(h:0≤b):(aV aL G X).aj s k (al .shr (.int ev a) (.int e b))=k (.int ev (a.fdiv (2^(min b.toNat ev.bits)))) s:=by rw[show al .shr (.int ev a) (.int e b)=some (.int ev (a.fdiv (2^(min b.toNat ev.bits)))) from by simp [al,lO,Int.not_lt.2 h]];rfl
end
def gK:List Nat:=[0,1,2,2,3,3,3,3,4,4,4,4,4,4,4,4,5,5,5,5,5,5,5,5,5,5,5,5,5,5,5,5,6,6,6,6,6,6,6,6,6,6,6,6,6,6,6,6,6,6,6,6,6,6,6,6,6,6,6,6,6,6,6,6,7,7,7,7,7,7,7,7,7,7,7,7,7,7,7,7,7,7,7,7,7,7,7,7,7,7,7,7,7,7,7,7,7,7,7,7,7,7,7,7,7,7,7,7,7,7,7,7,7,7,7,7,7,7,7,7,7,7,7,7,7,7,7,7,8,8,8,8,8,8,8,8,8,8,8,8,8,8,8,8,8,8,8,8,8,8,8,8,8,8,8,8,8,8,8,8,8,8,8,8,8,8,8,8,8,8,8,8,8,8,8,8,8,8,8,8,8,8,8,8,8,8,8,8,8,8,8,8,8,8,8,8,8,8,8,8,8,8,8,8,8,8,8,8,8,8,8,8,8,8,8,8,8,8,8,8,8,8,8,8,8,8,8,8,8,8,8,8,8,8,8,8,8,8,8,8,8,8,8,8,8,8,8,8,8,8,8,8,8,8,8,8]
def k6:List Nat:=[48,48,48,49,48,50,48,51,48,52,48,53,48,54,48,55,48,56,48,57,49,48,49,49,49,50,49,51,49,52,49,53,49,54,49,55,49,56,49,57,50,48,50,49,50,50,50,51,50,52,50,53,50,54,50,55,50,56,50,57,51,48,51,49,51,50,51,51,51,52,51,53,51,54,51,55,51,56,51,57,52,48,52,49,52,50,52,51,52,52,52,53,52,54,52,55,52,56,52,57,53,48,53,49,53,50,53,51,53,52,53,53,53,54,53,55,53,56,53,57,54,48,54,49,54,50,54,51,54,52,54,53,54,54,54,55,54,56,54,57,55,48,55,49,55,50,55,51,55,52,55,53,55,54,55,55,55,56,55,57,56,48,56,49,56,50,56,51,56,52,56,53,56,54,56,55,56,56,56,57,57,48,57,49,57,50,57,51,57,52,57,53,57,54,57,55,57,56,57,57]
def uQ:List Nat:=[48,49,50,51,52,53,54,55,56,57,97,98,99,100,101,102,103,104,105,106,107,108,109,110,111,112,113,114,115,116,117,118,119,120,121,122]
def xq(n:Nat):ae:=.int .u8 (n:Int)
theorem w2(b:Nat)(h:b<100):k6[b*2]? =some (48+b/10):=by
 have:∀b:Fin 100,k6[b.val*2]? =some (48+b.val/10):=by decide
 exact this ⟨b,h⟩
theorem w3(b:Nat)(h:b<100):k6[b*2+1]? =some (48+b%10):=by
 have:∀b:Fin 100,k6[b.val*2+1]? =some (48+b.val%10):=by decide
 exact this ⟨b,h⟩
theorem j7{x:Int}(eS:0≤x)(ar:x≤4294967295):IntKind.wrap .u32 x=x:=IntWalk.u32_in x ⟨eS,ar⟩
theorem D0{i:Nat}(h:i<256):gK[i]? =some (gK.getD i 0):=by have:i<gK.length:=h;simp [List.getD,this]
theorem mP(i:Nat):gK.getD i 0≤8:=by
 by_cases h:i<256
 ·have:∀i:Fin 256,gK.getD i 0≤8:=by decide
  exact this ⟨i,h⟩
 ·have:gK.length≤i:=by show 256≤i;omega
  simp [List.getD,List.getElem?_eq_none this]
section
variable(G:Nat→ae)(X:Nat→List ae→ag→ah)
theorem KK{s:ag}{k:bd}(e8:List Nat)(k1 qb:IntKind)(l h:Nat)(ar:l≤h)(av:h≤e8.length):(aV aL G X).vL (.str e8) (some (.int k1 (l:Int))) (some (.int qb (h:Int))) s k=k (.str ((e8.drop l).take (h-l))) s:=by show hSub (.str e8) (some (.int k1 (l:Int))) (some (.int qb (h:Int))) s k=_;unfold hSub p1;simp -implicitDefEqProofs only[g9,et ar,et av,bz,bH]
theorem ta{s:ag}{k:bd}(i:Int)(b:Nat)(h:∃j:Nat,i=(j:Int)∧k6[j]? =some b):(aV aL G X).hz s k (.str k6) (.int .u32 i)=k (.int .u8 b) s:=by obtain⟨j,rfl,cX⟩:=h;exact KJ G X k6 .u32 j b cX
end
def Ha(v:Nat):Nat:=if 256≤v then 8+gK.getD (v/256) 0 else gK.getD v 0
def nZ(u:Nat):Nat:=if 65536≤u then 16+Ha (u/65536) else Ha u
def t0(u:Nat):Nat:=nZ u*78913/262144
def g5(u:Nat):Nat:=if u<1000 then 3 else if u<10000 then 4 else if u<100000 then 5 else 6
section
variable(G:Nat→ae)(X:Nat→List ae→ag→ah)
theorem KL(v a:Nat)(s:ag)(bM:v<256)(u:a≤24):sa (aV aL G X) (.int .u64 (v:Int)) (.int .i64 (a:Int)) s.ai=.ok (I ((a+gK.getD v 0:Nat):Int)) s:=by
 have e:=fun(k:bd)=>KJ G X (s:=s.ai) (k:=k) gK .u8 v _ (D0 bM)
 have dH:IntKind.wrap .u8 (v:Int)=(v:Int):=u8_in v bM;have hle:=mP v;have h:IntKind.wrap .i64 ((gK.getD v 0:Nat):Int)=((gK.getD v 0:Nat):Int):=eP _ (by omega) (by omega);have r:IntKind.wrap .i64 ((a:Int)+((gK.getD v 0:Nat):Int))=((a+gK.getD v 0:Nat):Int):=by rw[eP _ (by omega) (by omega)];omega
 unfold gK at e;rw[Dp];simp -implicitDefEqProofs only[↓tZ,dH,↓e];simp -implicitDefEqProofs only[←gK.eq_1,↓cI,↓cN,↓b0,↓bo,↓aF,↓aC,↓ax,↓aG,↓aO,↓aQ,↓ay,↓aH,↓aB,↓aW,↓a1,↓bg,↓dP,↓aI,↓bw,↓b5,↓c6,↓cd,↓cf,↓b6,↓cg,↓ch,↓ci,↓cj,↓ck,↓cl,↓bB,↓bC,↓bD,↓c7,↓c8,↓c9,↓da,↓db,↓dc,↓dd,↓de,↓df,↓cm,↓cn,↓co,↓fp,↓fK,↓f0,↓bJ,↓cL,↓be,↓c0,↓bZ,↓cJ,↓cT,↓dg,↓a2,↓aR,↓a3,↓aN,↓aJ,↓a4,↓cQ,↓b1,↓b7,↓cp,↓cq,↓cr,↓ct,↓cv,↓cw,↓cx,↓cy,b9,dT,List.cons_append,List.nil_append,b8,decide_eq_false_iff_not,ite_not,↓reduceIte,ba,az,bb,bE,eQ,d9,ea,bf,bP,cB,Nat.reduceAdd,List.all_cons,List.all_nil,du,di,dw,dR,bz,↓bk,Nat.reduceLeDiff,aD,cY,c3,↓tZ,h,r]
theorem KM(v a:Nat)(s:ag)(bM:v<65536)(r:a≤16):sb (aV aL G X) (.int .u64 (v:Int)) (.int .i64 (a:Int)) s.ai=.ok (I ((a+Ha v:Nat):Int)) s:=by
 unfold Ha;by_cases e:256≤v
 ·have lz:(256:Int)≤(v:Int):=by omega
  have dH:(v:Int).fdiv (2^(min (8:Int).toNat (IntKind.bits .u64)))=((v/256:Nat):Int):=by show(v:Int).fdiv 256=_;rw[Int.fdiv_eq_ediv_of_nonneg _ (by omega)];omega
  have h:IntKind.wrap .i64 ((a:Int)+8)=((a+8:Nat):Int):=by rw[eP _ (by omega) (by omega)];omega
  have:=KL G X (v/256) (a+8) s (by omega) (by omega);rw[tQ];simp -implicitDefEqProofs only[↓cI,↓cN,↓b0,↓bo,↓aF,↓aC,↓ax,↓aG,↓aO,↓aQ,↓ay,↓aH,↓aB,↓aW,↓a1,↓bg,↓dP,↓aI,↓bw,↓b5,↓c6,↓cd,↓cf,↓b6,↓cg,↓ch,↓ci,↓cj,↓ck,↓cl,↓bB,↓bC,↓bD,↓c7,↓c8,↓c9,↓da,↓db,↓dc,↓dd,↓de,↓df,↓cm,↓cn,↓co,↓fp,↓fK,↓f0,↓bJ,↓cL,↓be,↓c0,↓bZ,↓cJ,↓cT,↓dg,↓a2,↓aR,↓a3,↓aN,↓aJ,↓a4,↓cQ,↓b1,↓b7,↓cp,↓cq,↓cr,↓ct,↓cv,↓cw,↓cx,↓cy,b9,dT,List.cons_append,List.nil_append,b8,decide_eq_false_iff_not,ite_not,↓reduceIte,ba,az,bb,bE,eQ,d9,ea,bf,bP,cB,Nat.reduceAdd,List.all_cons,List.all_nil,du,di,dw,dR,bz,↓bk,Nat.reduceLeDiff,aD,cY,c3,eq_true lz,dJ,↓G9 G X _ _ _ _ (show(0:Int)≤8 by omega),dH,h,if_pos e,this];rw[Nat.add_assoc]
 ·have lz:¬(256:Int)≤(v:Int):=by omega
  have:=KL G X v a s (by omega) (by omega);rw[tQ];simp -implicitDefEqProofs only[↓cI,↓cN,↓b0,↓bo,↓aF,↓aC,↓ax,↓aG,↓aO,↓aQ,↓ay,↓aH,↓aB,↓aW,↓a1,↓bg,↓dP,↓aI,↓bw,↓b5,↓c6,↓cd,↓cf,↓b6,↓cg,↓ch,↓ci,↓cj,↓ck,↓cl,↓bB,↓bC,↓bD,↓c7,↓c8,↓c9,↓da,↓db,↓dc,↓dd,↓de,↓df,↓cm,↓cn,↓co,↓fp,↓fK,↓f0,↓bJ,↓cL,↓be,↓c0,↓bZ,↓cJ,↓cT,↓dg,↓a2,↓aR,↓a3,↓aN,↓aJ,↓a4,↓cQ,↓b1,↓b7,↓cp,↓cq,↓cr,↓ct,↓cv,↓cw,↓cx,↓cy,b9,dT,List.cons_append,List.nil_append,b8,decide_eq_false_iff_not,ite_not,↓reduceIte,ba,az,bb,bE,eQ,d9,ea,bf,bP,cB,Nat.reduceAdd,List.all_cons,List.all_nil,du,di,dw,dR,bz,↓bk,Nat.reduceLeDiff,aD,cY,c3,eq_false lz,dF,b4,if_neg e,this]
theorem D1(u:Nat)(s:ag)(h:u<4294967296):aA aL G X 112 [.int .u64 (u:Int)] s=.ok (I (nZ u)) s:=by
 have r:¬(4294967296:Int)≤(u:Int):=by omega
 rw[GO,Ru];unfold nZ;simp -implicitDefEqProofs only[↓cI,↓cN,↓b0,↓bo,↓aF,↓aC,↓ax,↓aG,↓aO,↓aQ,↓ay,↓aH,↓aB,↓aW,↓a1,↓bg,↓dP,↓aI,↓bw,↓b5,↓c6,↓cd,↓cf,↓b6,↓cg,↓ch,↓ci,↓cj,↓ck,↓cl,↓bB,↓bC,↓bD,↓c7,↓c8,↓c9,↓da,↓db,↓dc,↓dd,↓de,↓df,↓cm,↓cn,↓co,↓fp,↓fK,↓f0,↓bJ,↓cL,↓be,↓c0,↓bZ,↓cJ,↓cT,↓dg,↓a2,↓aR,↓a3,↓aN,↓aJ,↓a4,↓cQ,↓b1,↓b7,↓cp,↓cq,↓cr,↓ct,↓cv,↓cw,↓cx,↓cy,b9,dT,List.cons_append,List.nil_append,b8,decide_eq_false_iff_not,ite_not,↓reduceIte,ba,az,bb,bE,eQ,d9,ea,bf,bP,cB,Nat.reduceAdd,List.all_cons,List.all_nil,du,di,dw,dR,bz,↓bk,Nat.reduceLeDiff,aD,cY,c3,eq_false r,dF,b4,Dq];by_cases av:65536≤u
 ·have e:(65536:Int)≤(u:Int):=by omega
  have dH:(u:Int).fdiv (2^(min (16:Int).toNat (IntKind.bits .u64)))=((u/65536:Nat):Int):=by show(u:Int).fdiv 65536=_;rw[Int.fdiv_eq_ediv_of_nonneg _ (by omega)];omega
  have y:IntKind.wrap .i64 (0+16)=((16:Nat):Int):=by decide
  have:=KM G X (u/65536) 16 s (by omega) (by omega);simp -implicitDefEqProofs only[↓cI,↓cN,↓b0,↓bo,↓aF,↓aC,↓ax,↓aG,↓aO,↓aQ,↓ay,↓aH,↓aB,↓aW,↓a1,↓bg,↓dP,↓aI,↓bw,↓b5,↓c6,↓cd,↓cf,↓b6,↓cg,↓ch,↓ci,↓cj,↓ck,↓cl,↓bB,↓bC,↓bD,↓c7,↓c8,↓c9,↓da,↓db,↓dc,↓dd,↓de,↓df,↓cm,↓cn,↓co,↓fp,↓fK,↓f0,↓bJ,↓cL,↓be,↓c0,↓bZ,↓cJ,↓cT,↓dg,↓a2,↓aR,↓a3,↓aN,↓aJ,↓a4,↓cQ,↓b1,↓b7,↓cp,↓cq,↓cr,↓ct,↓cv,↓cw,↓cx,↓cy,b9,dT,List.cons_append,List.nil_append,b8,decide_eq_false_iff_not,ite_not,↓reduceIte,ba,az,bb,bE,eQ,d9,ea,bf,bP,cB,Nat.reduceAdd,List.all_cons,List.all_nil,du,di,dw,dR,bz,↓bk,Nat.reduceLeDiff,aD,cY,c3,eq_true e,dJ,↓G9 G X _ _ _ _ (show(0:Int)≤16 by omega),dH,y,if_pos av,this]
 ·have e:¬(65536:Int)≤(u:Int):=by omega
  have:=KM G X u 0 s (by omega) (by omega);simp -implicitDefEqProofs only[Int.natCast_zero,bf] at this;simp -implicitDefEqProofs only[↓cI,↓cN,↓b0,↓bo,↓aF,↓aC,↓ax,↓aG,↓aO,↓aQ,↓ay,↓aH,↓aB,↓aW,↓a1,↓bg,↓dP,↓aI,↓bw,↓b5,↓c6,↓cd,↓cf,↓b6,↓cg,↓ch,↓ci,↓cj,↓ck,↓cl,↓bB,↓bC,↓bD,↓c7,↓c8,↓c9,↓da,↓db,↓dc,↓dd,↓de,↓df,↓cm,↓cn,↓co,↓fp,↓fK,↓f0,↓bJ,↓cL,↓be,↓c0,↓bZ,↓cJ,↓cT,↓dg,↓a2,↓aR,↓a3,↓aN,↓aJ,↓a4,↓cQ,↓b1,↓b7,↓cp,↓cq,↓cr,↓ct,↓cv,↓cw,↓cx,↓cy,b9,dT,List.cons_append,List.nil_append,b8,decide_eq_false_iff_not,ite_not,↓reduceIte,ba,az,bb,bE,eQ,d9,ea,bf,bP,cB,Nat.reduceAdd,List.all_cons,List.all_nil,du,di,dw,dR,bz,↓bk,Nat.reduceLeDiff,aD,cY,c3,eq_false e,dF,b4,if_neg av,this]
theorem RR(x:Nat)(s:ag)(h:x≤64):aA aL G X 120 [I x] s=.ok (I ((x*78913/262144:Nat):Int)) s:=by
 have dH:IntKind.wrap .i64 ((x:Int)*78913)=((x*78913:Nat):Int):=by rw[eP _ (by omega) (by omega)];omega
 have e:((x*78913:Nat):Int).fdiv (2^(min (18:Int).toNat (IntKind.bits .i64)))=((x*78913/262144:Nat):Int):=by show((x*78913:Nat):Int).fdiv 262144=_;rw[Int.fdiv_eq_ediv_of_nonneg _ (by omega)];omega
 rw[GP,Rv];simp -implicitDefEqProofs only[↓cI,↓cN,↓b0,↓bo,↓aF,↓aC,↓ax,↓aG,↓aO,↓aQ,↓ay,↓aH,↓aB,↓aW,↓a1,↓bg,↓dP,↓aI,↓bw,↓b5,↓c6,↓cd,↓cf,↓b6,↓cg,↓ch,↓ci,↓cj,↓ck,↓cl,↓bB,↓bC,↓bD,↓c7,↓c8,↓c9,↓da,↓db,↓dc,↓dd,↓de,↓df,↓cm,↓cn,↓co,↓fp,↓fK,↓f0,↓bJ,↓cL,↓be,↓c0,↓bZ,↓cJ,↓cT,↓dg,↓a2,↓aR,↓a3,↓aN,↓aJ,↓a4,↓cQ,↓b1,↓b7,↓cp,↓cq,↓cr,↓ct,↓cv,↓cw,↓cx,↓cy,b9,dT,List.cons_append,List.nil_append,b8,decide_eq_false_iff_not,ite_not,↓reduceIte,ba,az,bb,bE,eQ,d9,ea,bf,bP,cB,Nat.reduceAdd,List.all_cons,List.all_nil,du,di,dw,dR,bz,↓bk,Nat.reduceLeDiff,aD,cY,c3,dH,↓G9 G X _ _ _ _ (show(0:Int)≤18 by omega),e]
theorem RS(b:Bool)(s:ag):aA aL G X 121 [.bool b] s=.ok (I (if b=true then 1 else 0)) s:=by rw[GQ,Rw];cases b<;> simp -implicitDefEqProofs only[↓cI,↓cN,↓b0,↓bo,↓aF,↓aC,↓ax,↓aG,↓aO,↓aQ,↓ay,↓aH,↓aB,↓aW,↓a1,↓bg,↓dP,↓aI,↓bw,↓b5,↓c6,↓cd,↓cf,↓b6,↓cg,↓ch,↓ci,↓cj,↓ck,↓cl,↓bB,↓bC,↓bD,↓c7,↓c8,↓c9,↓da,↓db,↓dc,↓dd,↓de,↓df,↓cm,↓cn,↓co,↓fp,↓fK,↓f0,↓bJ,↓cL,↓be,↓c0,↓bZ,↓cJ,↓cT,↓dg,↓a2,↓aR,↓a3,↓aN,↓aJ,↓a4,↓cQ,↓b1,↓b7,↓cp,↓cq,↓cr,↓ct,↓cv,↓cw,↓cx,↓cy,b9,dT,List.cons_append,List.nil_append,b8,decide_eq_false_iff_not,ite_not,↓reduceIte,ba,az,bb,bE,eQ,d9,ea,bf,bP,cB,Nat.reduceAdd,List.all_cons,List.all_nil,du,di,dw,dR,bz,↓bk,Nat.reduceLeDiff,aD,cY,c3,b4,Dr]
def Lb(a:Nat):Bool:=
 let L:=if 256≤a then 16+gK.getD (a/256) 0 else 8+gK.getD a 0
 let e:=L*78913/262144
 (Nat.beq e 2&&Nat.blt (256*a+255) 1000)||(Nat.beq e 3&&Nat.blt (256*a+255) 10000)||(Nat.beq e 4&&Nat.ble 1000 (256*a)&&Nat.blt (256*a+255) 100000)||(Nat.beq e 5&&Nat.ble 10000 (256*a)&&Nat.blt (256*a+255) 1000000)
theorem YE:((List.range 511).all fun a=>Lb (a+1))=true:=by kernel_rfl
theorem YF:((List.range 156).all fun v=>Nat.beq (gK.getD (v+100) 0*78913/262144) 2)=true:=by kernel_rfl
theorem L6{u:Nat}(ar:100≤u)(av:u<131072):(t0 u=2∧u<1000)∨(t0 u=3∧u<10000)∨(t0 u=4∧1000≤u∧u<100000)∨(t0 u=5∧10000≤u):=by
 by_cases h:u<256
 ·have:=List.all_eq_true.1 YF (u-100) (List.mem_range.2 (by omega));rw[show u-100+100=u by omega] at this;refine .inl ⟨?_,by omega⟩;unfold t0 nZ Ha;rw[if_neg (by omega),if_neg (by omega)];exact dh this
 ·have:=List.all_eq_true.1 YE (u/256-1) (List.mem_range.2 (by omega));rw[show u/256-1+1=u/256 by omega] at this;have y:nZ u=if 256≤u/256 then 16+gK.getD (u/256/256) 0 else 8+gK.getD (u/256) 0:=by
   unfold nZ Ha;by_cases bV:65536≤u
   ·rw[if_pos bV,if_neg (show¬256≤u/65536 by omega),if_pos (show 256≤u/256 by omega),show u/65536=u/256/256 by omega]
   ·rw[if_neg bV,if_pos (show 256≤u by omega),if_neg (show¬256≤u/256 by omega)]
  unfold Lb at this;simp -implicitDefEqProofs only[←y,Bool.or_eq_true,bl,Nat.blt_eq] at this;unfold t0;rcases this with((⟨e,q⟩|⟨e,q⟩)|⟨⟨e,r⟩,A⟩)|⟨⟨e,r⟩,A⟩
  ·exact .inl ⟨dh e,by omega⟩
  ·exact .inr (.inl ⟨dh e,by omega⟩)
  ·exact .inr (.inr (.inl ⟨dh e,by have:=dW r;omega,by omega⟩))
  ·exact .inr (.inr (.inr ⟨dh e,by have:=dW r;omega⟩))
theorem RT(u:Nat):nZ u≤64:=by unfold nZ Ha;have ar:=mP (u/65536/256);have av:=mP (u/65536);have bV:=mP (u/256);have dD:=mP u;split<;> split<;> omega
theorem YG(dV:G 0=.bh iT)(u:Nat)(ar:100≤u)(av:u<131072)(s:ag):aA aL G X 96 [.int .u64 (u:Int)] s=.ok (I (g5 u)) s:=by
 have r:=D1 G X u s.ai (by omega);have h:=RR G X (nZ u) s.ai (RT u);have B:(aV aL G X).bt 0=.bh iT:=dV;have y:=fun b=>RS G X b s.ai
 rw[show nZ u*78913/262144=t0 u from rfl] at h;rw[LJ,X8];simp -implicitDefEqProofs only[B];have key:∀(e p:Nat) (rest:List ae),t0 u=e→e<20→iT.drop e=.int .u64 (p:Int)::rest→g5 u=e+(if p≤u then 1 else 0)→
   (aV aL G X).bn s.ai (fun F s=>(aV aL G X).bn s (fun v6 s=>(aV aL G X).mg s (fun v10 s=>(aV aL G X).aw s (fun v11 s=>(aV aL G X).aj s (fun H s=>(aV aL G X).bn s (fun J s=>(aV aL G X).aj s (fun K s=>(aV aL G X).a0 false [some K] s) (al .add v6 J)) 121 [(ae.ap s.aa H)]) (al .geq (.int .u64 (u:Int)) v11)) none v10) 1 20 (.bh iT) v6) 120 [(ae.ap s.aa F)]) 112 [(ae.ap s.ai.aa (.int .u64 (u:Int)))]=.ok (I (g5 u)) s:=fun e p rest he M cP dm=>by
  rw[he] at h;have A:=fun(k:bd)=>YD G X (s:=s.ai) (k:=k) iT 20 .i64 e M
  have N:IntKind.wrap .i64 ((e:Int)+1)=((e+1:Nat):Int):=by rw[eP _ (by omega) (by omega)];omega
  have jo:IntKind.wrap .i64 ((e:Int)+0)=(e:Int):=by rw[eP _ (by omega) (by omega)];omega
  by_cases aY:p≤u
  ·have c:(p:Int)≤(u:Int):=by omega
   rw[dm,if_pos aY];simp -implicitDefEqProofs only[↓cI,↓cN,↓b0,↓bo,↓aF,↓aC,↓ax,↓aG,↓aO,↓aQ,↓ay,↓aH,↓aB,↓aW,↓a1,↓bg,↓dP,↓aI,↓bw,↓b5,↓c6,↓cd,↓cf,↓b6,↓cg,↓ch,↓ci,↓cj,↓ck,↓cl,↓bB,↓bC,↓bD,↓c7,↓c8,↓c9,↓da,↓db,↓dc,↓dd,↓de,↓df,↓cm,↓cn,↓co,↓fp,↓fK,↓f0,↓bJ,↓cL,↓be,↓c0,↓bZ,↓cJ,↓cT,↓dg,↓a2,↓aR,↓a3,↓aN,↓aJ,↓a4,↓cQ,↓b1,↓b7,↓cp,↓cq,↓cr,↓ct,↓cv,↓cw,↓cx,↓cy,b9,dT,List.cons_append,List.nil_append,b8,decide_eq_false_iff_not,ite_not,↓reduceIte,ba,az,bb,bE,eQ,d9,ea,bf,bP,cB,Nat.reduceAdd,List.all_cons,List.all_nil,du,di,dw,dR,bz,↓bk,Nat.reduceLeDiff,aD,cY,c3,a8 r,a8 h,↓A,cP,eq_true c,dJ,a8 (y _),if_true,N]
  ·have c:¬(p:Int)≤(u:Int):=by omega
   rw[dm,if_neg aY];simp -implicitDefEqProofs only[↓cI,↓cN,↓b0,↓bo,↓aF,↓aC,↓ax,↓aG,↓aO,↓aQ,↓ay,↓aH,↓aB,↓aW,↓a1,↓bg,↓dP,↓aI,↓bw,↓b5,↓c6,↓cd,↓cf,↓b6,↓cg,↓ch,↓ci,↓cj,↓ck,↓cl,↓bB,↓bC,↓bD,↓c7,↓c8,↓c9,↓da,↓db,↓dc,↓dd,↓de,↓df,↓cm,↓cn,↓co,↓fp,↓fK,↓f0,↓bJ,↓cL,↓be,↓c0,↓bZ,↓cJ,↓cT,↓dg,↓a2,↓aR,↓a3,↓aN,↓aJ,↓a4,↓cQ,↓b1,↓b7,↓cp,↓cq,↓cr,↓ct,↓cv,↓cw,↓cx,↓cy,b9,dT,List.cons_append,List.nil_append,b8,decide_eq_false_iff_not,ite_not,↓reduceIte,ba,az,bb,bE,eQ,d9,ea,bf,bP,cB,Nat.reduceAdd,List.all_cons,List.all_nil,du,di,dw,dR,bz,↓bk,Nat.reduceLeDiff,aD,cY,c3,a8 r,a8 h,↓A,cP,eq_false c,dF,b4,a8 (y _),if_false,jo,Nat.add_zero]
 rcases L6 ar av with⟨e,q⟩|⟨e,q⟩|⟨e,O,U⟩|⟨e,q⟩
 ·exact key 2 100 _ e (by omega) rfl (by unfold g5;rw[if_pos q,if_pos ar])
 ·exact key 3 1000 _ e (by omega) rfl (by unfold g5;split<;> split<;> omega)
 ·exact key 4 10000 _ e (by omega) rfl (by unfold g5;rw[if_neg (by omega)];split<;> split<;> omega)
 ·exact key 5 100000 _ e (by omega) rfl (by unfold g5;rw[if_neg (by omega),if_neg (by omega)];split<;> split<;> omega)
end
abbrev qW(cs:List ae)(U R:List (List cU)):ag:={own:=[.cells cs],up:=U,ro:=R}
theorem YH(cs:List ae)(U R:List (List cU)):(qW cs U R).ai.get (.g (U.length+R.length) 0)=some (.cells cs):=by
 simp -implicitDefEqProofs only[ag.get,ag.aa,ag.ai,bP];rw[if_neg (by omega),if_pos (by omega)]
 have:U.length+1+R.length-1-(U.length+R.length)=0:=by omega
 rw[this];rfl
theorem YI(cs e:List ae)(U R:List (List cU)):(qW cs U R).ai.set (.g (U.length+R.length) 0) (.cells e)=some (qW e U R).ai:=by
 simp -implicitDefEqProofs only[ag.set,ag.aa,ag.ai,bP];rw[if_neg (by omega),if_pos ⟨by omega,by omega⟩]
 have:U.length+1+R.length-1-(U.length+R.length)=0:=by omega
 rw[this];rfl
section
variable(G:Nat→ae)(X:Nat→List ae→ag→ah)
theorem qR{k:bd}{cs:List ae}{U R:List (List cU)}{o:Nat}{n:Int}(e:o<cs.length):(aV aL G X).bX (qW cs U R).ai k 1 (.ref (.g (U.length+R.length) 0) o) (.int .u8 n)=k .dead (qW (cs.set o (.int .u8 n)) U R).ai:=by
 rw[kj];simp -implicitDefEqProofs only[fe,ae.fa,ae.cells,bP,cB,bf,ft,bz,bH];unfold h1;simp -implicitDefEqProofs only[YH];have ed:(qW cs U R).ai.gO (.g (U.length+R.length) 0) [.int .u8 n]=true:=by simp [ag.gO,ae.aZ,ae.bc]
 simp -implicitDefEqProofs only[bP,cB,bf,show Nat.ble (o+1) cs.length=true from et e,ed,List.all_cons,du,List.all_nil,bz,bH];show(match (qW cs U R).ai.set (.g (U.length+R.length) 0) (.cells (dL cs o [.int .u8 n])) with |some s=>k .dead s|none=>.fail)=_;rw[YI];rfl
theorem Zq(cs:List ae)(U R:List (List cU)):(aV aL G X).a0 false [] (qW cs U R).ai=.ok (.d0 []) (qW cs U R):=rfl
theorem ad5{k:bd}{S:ag}{D n:Nat}(i:Nat)(h:i<n):(aV aL G X).cc S k 1 (.cO (.g D 0) 1 n 23 1) (.int .i64 (i:Int))=k (.ref (.g D 0) (i+1)) S:=by have:=hb (T:=aL) (G:=G) (X:=X) (S:=S) (k:=k) (.g D 0) 1 n 23 1 .i64 i h;rw[this,Nat.mul_one,Nat.add_comm]
abbrev D2(n:Nat):ae:=.int .u32 (n:Int)
variable{cs:List ae}{U R:List (List cU)}{n:Nat}(aY:cs.length=24)
include aY
theorem KN(x:Nat)(a5:x<10)(dm:0<n):oy (aV aL G X) (.cO (.g (U.length+R.length) 0) 1 n 23 1) (I (1:Nat)) (D2 x) (qW cs U R).ai=.ok (.d0 []) (qW (cs.set 1 (xq (48+x))) U R):=by
 have e:IntKind.wrap .u32 (48+(x:Int))=((48+x:Nat):Int):=by rw[j7 (by omega) (by omega)];omega
 have h:IntKind.wrap .u8 ((48+x:Nat):Int)=((48+x:Nat):Int):=u8_in _ (by omega);have i0:∀(k:bd) (S:ag),(aV aL G X).cc S k 1 (.cO (.g (U.length+R.length) 0) 1 n 23 1) (.int .i64 0)=k (.ref (.g (U.length+R.length) 0) 1) S:=fun k S=>ad5 G X 0 dm
 have r:(0:Int)<((1:Nat):Int):=by omega
 rw[wF];simp -implicitDefEqProofs only[↓cI,↓cN,↓b0,↓bo,↓aF,↓aC,↓ax,↓aG,↓aO,↓aQ,↓ay,↓aH,↓aB,↓aW,↓a1,↓bg,↓dP,↓aI,↓bw,↓b5,↓c6,↓cd,↓cf,↓b6,↓cg,↓ch,↓ci,↓cj,↓ck,↓cl,↓bB,↓bC,↓bD,↓c7,↓c8,↓c9,↓da,↓db,↓dc,↓dd,↓de,↓df,↓cm,↓cn,↓co,↓fp,↓fK,↓f0,↓bJ,↓cL,↓be,↓c0,↓bZ,↓cJ,↓cT,↓dg,↓a2,↓aR,↓a3,↓aN,↓aJ,↓a4,↓cQ,↓b1,↓b7,↓cp,↓cq,↓cr,↓ct,↓cv,↓cw,↓cx,↓cy,b9,dT,List.cons_append,List.nil_append,b8,decide_eq_false_iff_not,ite_not,↓reduceIte,ba,az,bb,bE,eQ,d9,ea,bf,bP,cB,Nat.reduceAdd,List.all_cons,List.all_nil,du,di,dw,dR,bz,↓bk,Nat.reduceLeDiff,aD,cY,c3,eq_true r,dJ,e,↓tZ,h,↓i0];rw[qR G X (by omega)];simp -implicitDefEqProofs only[Zq];rfl
omit aY in
theorem KO(x:Nat):oy (aV aL G X) (.cO (.g (U.length+R.length) 0) 1 n 23 1) (I (0:Nat)) (D2 x) (qW cs U R).ai=.ok (.d0 []) (qW cs U R):=by
 have e:¬(0:Int)<((0:Nat):Int):=by omega
 rw[wF];simp -implicitDefEqProofs only[↓cI,↓cN,↓b0,↓bo,↓aF,↓aC,↓ax,↓aG,↓aO,↓aQ,↓ay,↓aH,↓aB,↓aW,↓a1,↓bg,↓dP,↓aI,↓bw,↓b5,↓c6,↓cd,↓cf,↓b6,↓cg,↓ch,↓ci,↓cj,↓ck,↓cl,↓bB,↓bC,↓bD,↓c7,↓c8,↓c9,↓da,↓db,↓dc,↓dd,↓de,↓df,↓cm,↓cn,↓co,↓fp,↓fK,↓f0,↓bJ,↓cL,↓be,↓c0,↓bZ,↓cJ,↓cT,↓dg,↓a2,↓aR,↓a3,↓aN,↓aJ,↓a4,↓cQ,↓b1,↓b7,↓cp,↓cq,↓cr,↓ct,↓cv,↓cw,↓cx,↓cy,b9,dT,List.cons_append,List.nil_append,b8,decide_eq_false_iff_not,ite_not,↓reduceIte,ba,az,bb,bE,eQ,d9,ea,bf,bP,cB,Nat.reduceAdd,List.all_cons,List.all_nil,du,di,dw,dR,bz,↓bk,Nat.reduceLeDiff,aD,cY,c3,eq_false e,dF,b4,Zq]
theorem KP(p x:Nat)(fz:p+2≤n)(H:p≤2)(a5:x<4294967296):oz (aV aL G X) (.cO (.g (U.length+R.length) 0) 1 n 23 1) (I ((p+2:Nat):Int)) (D2 x) (qW cs U R).ai =
  oy (aV aL G X) (.cO (.g (U.length+R.length) 0) 1 n 23 1) (I (p:Nat)) (D2 (x/100)) (qW ((cs.set (p+2) (xq (48+x%100%10))).set (p+1) (xq (48+x%100/10))) U R).ai:=by
 have h:IntKind.wrap .u32 ((x:Int).tdiv 100)=((x/100:Nat):Int):=by rw[Int.tdiv_eq_ediv_of_nonneg (by omega),j7 (by omega) (by omega)];omega
 have r:(x:Int).tmod 100=((x%100:Nat):Int):=by rw[Int.tmod_eq_emod_of_nonneg (by omega)];omega
 have u:IntKind.wrap .u32 (((x%100:Nat):Int)*2)=((x%100*2:Nat):Int):=by rw[j7 (by omega) (by omega)];omega
 have y:IntKind.wrap .u32 (((x%100*2:Nat):Int)+1)=((x%100*2+1:Nat):Int):=by rw[j7 (by omega) (by omega)];omega
 have A:IntKind.wrap .i64 (((p+2:Nat):Int)-1)=((p+1:Nat):Int):=by rw[eP _ (by omega) (by omega)];omega
 have B:IntKind.wrap .i64 (((p+2:Nat):Int)-2)=(p:Int):=by rw[eP _ (by omega) (by omega)];omega
 have e:(100:Int)≠0:=by omega
 have F:(2:Int)≤((p+2:Nat):Int):=by omega
 have ht:=fun(s:ag) (k:bd)=>ta G X (s:=s) (k:=k) ((x%100*2:Nat):Int) _ ⟨_,rfl,w2 (x%100) (by omega)⟩
 have s1:=fun(s:ag) (k:bd)=>ta G X (s:=s) (k:=k) ((x%100*2+1:Nat):Int) _ ⟨_,rfl,w3 (x%100) (by omega)⟩
 have i1:=fun(k:bd) (S:ag)=>ad5 G X (k:=k) (S:=S) (D:=U.length+R.length) (n:=n) (p+1) (by omega)
 have i2:=fun(k:bd) (S:ag)=>ad5 G X (k:=k) (S:=S) (D:=U.length+R.length) (n:=n) p (by omega)
 unfold k6 at ht s1;rw[wG];simp -implicitDefEqProofs only[↓cI,↓cN,↓b0,↓bo,↓aF,↓aC,↓ax,↓aG,↓aO,↓aQ,↓ay,↓aH,↓aB,↓aW,↓a1,↓bg,↓dP,↓aI,↓bw,↓b5,↓c6,↓cd,↓cf,↓b6,↓cg,↓ch,↓ci,↓cj,↓ck,↓cl,↓bB,↓bC,↓bD,↓c7,↓c8,↓c9,↓da,↓db,↓dc,↓dd,↓de,↓df,↓cm,↓cn,↓co,↓fp,↓fK,↓f0,↓bJ,↓cL,↓be,↓c0,↓bZ,↓cJ,↓cT,↓dg,↓a2,↓aR,↓a3,↓aN,↓aJ,↓a4,↓cQ,↓b1,↓b7,↓cp,↓cq,↓cr,↓ct,↓cv,↓cw,↓cx,↓cy,b9,dT,List.cons_append,List.nil_append,b8,decide_eq_false_iff_not,ite_not,↓reduceIte,ba,az,bb,bE,eQ,d9,ea,bf,bP,cB,Nat.reduceAdd,List.all_cons,List.all_nil,du,di,dw,dR,bz,↓bk,Nat.reduceLeDiff,aD,cY,c3,eq_true F,dJ,↓ss G X _ _ _ e,↓AF G X _ _ _ e,h,r,u,y,A,B,↓ht,↓s1,↓i1,↓i2];rw[qR G X (by omega),qR G X (by rw[List.length_set];omega)];rfl
omit aY in
theorem KQ(p x:Nat)(fz:p<2):oz (aV aL G X) (.cO (.g (U.length+R.length) 0) 1 n 23 1) (I (p:Nat)) (D2 x) (qW cs U R).ai=oy (aV aL G X) (.cO (.g (U.length+R.length) 0) 1 n 23 1) (I (p:Nat)) (D2 x) (qW cs U R).ai:=by
 have e:¬(2:Int)≤(p:Int):=by omega
 rw[wG];simp -implicitDefEqProofs only[↓cI,↓cN,↓b0,↓bo,↓aF,↓aC,↓ax,↓aG,↓aO,↓aQ,↓ay,↓aH,↓aB,↓aW,↓a1,↓bg,↓dP,↓aI,↓bw,↓b5,↓c6,↓cd,↓cf,↓b6,↓cg,↓ch,↓ci,↓cj,↓ck,↓cl,↓bB,↓bC,↓bD,↓c7,↓c8,↓c9,↓da,↓db,↓dc,↓dd,↓de,↓df,↓cm,↓cn,↓co,↓fp,↓fK,↓f0,↓bJ,↓cL,↓be,↓c0,↓bZ,↓cJ,↓cT,↓dg,↓a2,↓aR,↓a3,↓aN,↓aJ,↓a4,↓cQ,↓b1,↓b7,↓cp,↓cq,↓cr,↓ct,↓cv,↓cw,↓cx,↓cy,b9,dT,List.cons_append,List.nil_append,b8,decide_eq_false_iff_not,ite_not,↓reduceIte,ba,az,bb,bE,eQ,d9,ea,bf,bP,cB,Nat.reduceAdd,List.all_cons,List.all_nil,du,di,dw,dR,bz,↓bk,Nat.reduceLeDiff,aD,cY,c3,eq_false e,dF,b4]
theorem AG(p u:Nat)(fz:p+4≤n)(aa:p≤3)(hu:u<4294967296):uE (aV aL G X) (.cO (.g (U.length+R.length) 0) 1 n 23 1) (.int .u64 (u:Int)) (I ((p+4:Nat):Int)) (qW cs U R).ai =
  oz (aV aL G X) (.cO (.g (U.length+R.length) 0) 1 n 23 1) (I (p:Nat)) (D2 (u/10000)) (qW ((((cs.set (p+4) (xq (48+u%10000%100%10))).set (p+3) (xq (48+u%10000%100/10))).set (p+2) (xq (48+u%10000/100%10))).set (p+1) (xq (48+u%10000/100/10))) U R).ai:=by
 have dH:IntKind.wrap .u32 (u:Int)=(u:Int):=j7 (by omega) (by omega);have e:(u:Int).tmod 10000=((u%10000:Nat):Int):=by rw[Int.tmod_eq_emod_of_nonneg (by omega)];omega
 have A:IntKind.wrap .u32 ((u:Int).tdiv 10000)=((u/10000:Nat):Int):=by rw[Int.tdiv_eq_ediv_of_nonneg (by omega),j7 (by omega) (by omega)];omega
 obtain⟨t,ed,lW⟩:∃t,t=u%10000∧t<10000:=⟨_,rfl,by omega⟩;rw[←ed] at e;rw[←ed];have B:IntKind.wrap .u32 ((t:Int).tdiv 100)=((t/100:Nat):Int):=by rw[Int.tdiv_eq_ediv_of_nonneg (by omega),j7 (by omega) (by omega)];omega
 have F:IntKind.wrap .u32 (((t/100:Nat):Int)*2)=((t/100*2:Nat):Int):=by rw[j7 (by omega) (by omega)];omega
 have H:(t:Int).tmod 100=((t%100:Nat):Int):=by rw[Int.tmod_eq_emod_of_nonneg (by omega)];omega
 have J:IntKind.wrap .u32 (((t%100:Nat):Int)*2)=((t%100*2:Nat):Int):=by rw[j7 (by omega) (by omega)];omega
 have K:IntKind.wrap .u32 (((t%100*2:Nat):Int)+1)=((t%100*2+1:Nat):Int):=by rw[j7 (by omega) (by omega)];omega
 have M:IntKind.wrap .u32 (((t/100*2:Nat):Int)+1)=((t/100*2+1:Nat):Int):=by rw[j7 (by omega) (by omega)];omega
 have N:IntKind.wrap .i64 (((p+4:Nat):Int)-1)=((p+3:Nat):Int):=by rw[eP _ (by omega) (by omega)];omega
 have O:IntKind.wrap .i64 (((p+4:Nat):Int)-2)=((p+2:Nat):Int):=by rw[eP _ (by omega) (by omega)];omega
 have V:IntKind.wrap .i64 (((p+4:Nat):Int)-3)=((p+1:Nat):Int):=by rw[eP _ (by omega) (by omega)];omega
 have Y:IntKind.wrap .i64 (((p+4:Nat):Int)-4)=(p:Int):=by rw[eP _ (by omega) (by omega)];omega
 have h:(10000:Int)≠0:=by omega
 have r:(100:Int)≠0:=by omega
 have Z:(4:Int)≤((p+4:Nat):Int):=by omega
 have ht:=fun(s:ag) (k:bd)=>ta G X (s:=s) (k:=k) ((t%100*2:Nat):Int) _ ⟨_,rfl,w2 (t%100) (by omega)⟩
 have s1:=fun(s:ag) (k:bd)=>ta G X (s:=s) (k:=k) ((t%100*2+1:Nat):Int) _ ⟨_,rfl,w3 (t%100) (by omega)⟩
 have s2:=fun(s:ag) (k:bd)=>ta G X (s:=s) (k:=k) ((t/100*2:Nat):Int) _ ⟨_,rfl,w2 (t/100) (by omega)⟩
 have y:=fun(s:ag) (k:bd)=>ta G X (s:=s) (k:=k) ((t/100*2+1:Nat):Int) _ ⟨_,rfl,w3 (t/100) (by omega)⟩
 have i1:=fun(k:bd) (S:ag)=>ad5 G X (k:=k) (S:=S) (D:=U.length+R.length) (n:=n) (p+3) (by omega)
 have i2:=fun(k:bd) (S:ag)=>ad5 G X (k:=k) (S:=S) (D:=U.length+R.length) (n:=n) (p+2) (by omega)
 have i3:=fun(k:bd) (S:ag)=>ad5 G X (k:=k) (S:=S) (D:=U.length+R.length) (n:=n) (p+1) (by omega)
 have i4:=fun(k:bd) (S:ag)=>ad5 G X (k:=k) (S:=S) (D:=U.length+R.length) (n:=n) p (by omega)
 unfold k6 at ht s1 s2 y;rw[wH];simp -implicitDefEqProofs only[↓cI,↓cN,↓b0,↓bo,↓aF,↓aC,↓ax,↓aG,↓aO,↓aQ,↓ay,↓aH,↓aB,↓aW,↓a1,↓bg,↓dP,↓aI,↓bw,↓b5,↓c6,↓cd,↓cf,↓b6,↓cg,↓ch,↓ci,↓cj,↓ck,↓cl,↓bB,↓bC,↓bD,↓c7,↓c8,↓c9,↓da,↓db,↓dc,↓dd,↓de,↓df,↓cm,↓cn,↓co,↓fp,↓fK,↓f0,↓bJ,↓cL,↓be,↓c0,↓bZ,↓cJ,↓cT,↓dg,↓a2,↓aR,↓a3,↓aN,↓aJ,↓a4,↓cQ,↓b1,↓b7,↓cp,↓cq,↓cr,↓ct,↓cv,↓cw,↓cx,↓cy,b9,dT,List.cons_append,List.nil_append,b8,decide_eq_false_iff_not,ite_not,↓reduceIte,ba,az,bb,bE,eQ,d9,ea,bf,bP,cB,Nat.reduceAdd,List.all_cons,List.all_nil,du,di,dw,dR,bz,↓bk,Nat.reduceLeDiff,aD,cY,c3,↓tZ,dH,eq_true Z,dJ,↓ss G X _ _ _ h,↓ss G X _ _ _ r,↓AF G X _ _ _ h,↓AF G X _ _ _ r,e,A,B,F,H,J,K,M,N,O,V,Y,↓ht,↓s1,↓s2,↓y,↓i1,↓i2,↓i3,↓i4];rw[qR G X (by omega),qR G X (by rw[List.length_set];omega),qR G X (by rw[List.length_set,List.length_set];omega),qR G X (by rw[List.length_set,List.length_set,List.length_set];omega)];rfl
omit aY in
theorem YJ(p u:Nat)(fz:p<4)(hu:u<4294967296):uE (aV aL G X) (.cO (.g (U.length+R.length) 0) 1 n 23 1) (.int .u64 (u:Int)) (I (p:Nat)) (qW cs U R).ai=oz (aV aL G X) (.cO (.g (U.length+R.length) 0) 1 n 23 1) (I (p:Nat)) (D2 u) (qW cs U R).ai:=by
 have dH:IntKind.wrap .u32 (u:Int)=(u:Int):=j7 (by omega) (by omega);have e:¬(4:Int)≤(p:Int):=by omega
 rw[wH];simp -implicitDefEqProofs only[↓cI,↓cN,↓b0,↓bo,↓aF,↓aC,↓ax,↓aG,↓aO,↓aQ,↓ay,↓aH,↓aB,↓aW,↓a1,↓bg,↓dP,↓aI,↓bw,↓b5,↓c6,↓cd,↓cf,↓b6,↓cg,↓ch,↓ci,↓cj,↓ck,↓cl,↓bB,↓bC,↓bD,↓c7,↓c8,↓c9,↓da,↓db,↓dc,↓dd,↓de,↓df,↓cm,↓cn,↓co,↓fp,↓fK,↓f0,↓bJ,↓cL,↓be,↓c0,↓bZ,↓cJ,↓cT,↓dg,↓a2,↓aR,↓a3,↓aN,↓aJ,↓a4,↓cQ,↓b1,↓b7,↓cp,↓cq,↓cr,↓ct,↓cv,↓cw,↓cx,↓cy,b9,dT,List.cons_append,List.nil_append,b8,decide_eq_false_iff_not,ite_not,↓reduceIte,ba,az,bb,bE,eQ,d9,ea,bf,bP,cB,Nat.reduceAdd,List.all_cons,List.all_nil,du,di,dw,dR,bz,↓bk,Nat.reduceLeDiff,aD,cY,c3,↓tZ,dH,eq_false e,dF,b4]
end
def oT(u:Nat):List Nat:=
 if u<1000 then[48+u/100,48+u%100/10,48+u%100%10]
 else if u<10000 then[48+u%10000/100/10,48+u%10000/100%10,48+u%10000%100/10,48+u%10000%100%10]
 else if u<100000 then[48+u/10000,48+u%10000/100/10,48+u%10000/100%10,48+u%10000%100/10,48+u%10000%100%10]
 else[48+u/10000%100/10,48+u/10000%100%10,48+u%10000/100/10,48+u%10000/100%10,48+u%10000%100/10,48+u%10000%100%10]
theorem pX(u:Nat):(oT u).length=g5 u:=by
 unfold oT g5;by_cases ar:u<1000
 ·rw[if_pos ar,if_pos ar];rfl
 ·by_cases av:u<10000
  ·rw[if_neg ar,if_neg ar,if_pos av,if_pos av];rfl
  ·by_cases bV:u<100000
   ·rw[if_neg ar,if_neg ar,if_neg av,if_neg av,if_pos bV,if_pos bV];rfl
   ·rw[if_neg ar,if_neg ar,if_neg av,if_neg av,if_neg bV,if_neg bV];rfl
def st(u:Nat):List ae:=xq 0::(oT u).map xq++List.replicate (23-g5 u) (xq 0)
section
variable(G:Nat→ae)(X:Nat→List ae→ag→ah)
theorem YK(u:Nat)(ar:100≤u)(av:u<131072)(U R:List (List cU)):aA aL G X 97 [.cO (.g (U.length+R.length) 0) 1 (g5 u) 23 1,.int .u64 (u:Int)] (qW (List.replicate 24 (xq 0)) U R)=.ok (.d0 []) (qW (st u) U R):=by
 have A:¬(8:Int)≤((g5 u:Nat):Int):=by unfold g5;split<;> (try split)<;> (try split)<;> omega
 rw[LK,X9];simp -implicitDefEqProofs only[↓cI,↓cN,↓b0,↓bo,↓aF,↓aC,↓ax,↓aG,↓aO,↓aQ,↓ay,↓aH,↓aB,↓aW,↓a1,↓bg,↓dP,↓aI,↓bw,↓b5,↓c6,↓cd,↓cf,↓b6,↓cg,↓ch,↓ci,↓cj,↓ck,↓cl,↓bB,↓bC,↓bD,↓c7,↓c8,↓c9,↓da,↓db,↓dc,↓dd,↓de,↓df,↓cm,↓cn,↓co,↓fp,↓fK,↓f0,↓bJ,↓cL,↓be,↓c0,↓bZ,↓cJ,↓cT,↓dg,↓a2,↓aR,↓a3,↓aN,↓aJ,↓a4,↓cQ,↓b1,↓b7,↓cp,↓cq,↓cr,↓ct,↓cv,↓cw,↓cx,↓cy,b9,dT,List.cons_append,List.nil_append,b8,decide_eq_false_iff_not,ite_not,↓reduceIte,ba,az,bb,bE,eQ,d9,ea,bf,bP,cB,Nat.reduceAdd,List.all_cons,List.all_nil,du,di,dw,dR,bz,↓bk,Nat.reduceLeDiff,aD,cY,c3,FZ,eq_false A,dF,b4];unfold st oT;by_cases h:u<1000
 ·have e:g5 u=3:=by unfold g5;rw[if_pos h]
  rw[if_pos h,e,YJ G X 3 u (by omega) (by omega)];refine(KP G X (by simp) 1 u (by omega) (by omega) (by omega)).trans ?_;exact KN G X (by simp) (u/100) (by omega) (by omega)
 ·by_cases r:u<10000
  ·have e:g5 u=4:=by unfold g5;rw[if_neg h,if_pos r]
   rw[if_neg h,if_pos r,e];refine(AG G X (by simp) 0 u (by omega) (by omega) (by omega)).trans ?_;rw[KQ G X 0 _ (by omega),KO];rfl
  ·by_cases y:u<100000
   ·have e:g5 u=5:=by unfold g5;rw[if_neg h,if_neg r,if_pos y]
    rw[if_neg h,if_neg r,if_pos y,e];refine(AG G X (by simp) 1 u (by omega) (by omega) (by omega)).trans ?_;rw[KQ G X 1 _ (by omega)];exact KN G X (by simp) (u/10000) (by omega) (by omega)
   ·have e:g5 u=6:=by unfold g5;rw[if_neg h,if_neg r,if_neg y]
    rw[if_neg h,if_neg r,if_neg y,e];refine(AG G X (by simp) 2 u (by omega) (by omega) (by omega)).trans ?_;refine(KP G X (by simp) 0 (u/10000) (by omega) (by omega) (by omega)).trans ?_;rw[KO];rfl
end
def eL(u:Nat):List Nat:=if u<10 then[48+u] else if u<100 then[48+u/10,48+u%10] else oT u
def Zr(l:List Nat):Nat:=l.foldl (fun a d=>a*10+(d-48)) 0
theorem w4{u:Nat}(h:u<131072):Zr (eL u)=u:=by
 unfold eL oT Zr;split
 ·simp -implicitDefEqProofs only[List.foldl];omega
 ·split
  ·simp -implicitDefEqProofs only[List.foldl];omega
  ·split
   ·simp -implicitDefEqProofs only[List.foldl];omega
   ·split
    ·simp -implicitDefEqProofs only[List.foldl];omega
    ·split
     ·simp -implicitDefEqProofs only[List.foldl];omega
     ·simp -implicitDefEqProofs only[List.foldl];omega
theorem L7{u v:Nat}(hu:u<131072)(bM:v<131072)(h:eL u=eL v):u=v:=by rw[←w4 hu,←w4 bM,h]
theorem Hb{u:Nat}(h:u<131072):∀b,b∈oT u→b<256:=by
 intro b e;unfold oT at e;split at e
 ·simp at e;omega
 ·split at e
  ·simp at e;omega
  ·split at e
   ·simp at e;omega
   ·simp at e;omega
theorem L8{u:Nat}(h:u<131072):(eL u).length≤6:=by
 unfold eL;split
 ·simp
 ·split
  ·simp
  ·rw[pX];unfold g5;split<;> (try split)<;> (try split)<;> omega
section
variable(G:Nat→ae)(X:Nat→List ae→ag→ah)
theorem RU(u:Nat)(h:u<10):(uQ.drop u).take (u+1-u)=eL u:=by
 have:∀u:Fin 10,(uQ.drop u.val).take (u.val+1-u.val)=eL u.val:=by decide
 exact this ⟨u,h⟩
theorem YL(u:Nat)(ar:10≤u)(h:u<100):(k6.drop (u*2)).take (u*2+2-u*2)=eL u:=by
 have:∀u:Fin 100,10≤u.val→(k6.drop (u.val*2)).take (u.val*2+2-u.val*2)=eL u.val:=by decide
 exact this ⟨u,h⟩ ar
theorem YM(u:Nat)(h:u<100)(s:ag):aA aL G X 95 [.int .i64 (u:Int)] s=.ok (.str (eL u)) s:=by
 rw[LI,X7];have e:IntKind.wrap .i64 ((u:Int)+1)=((u+1:Nat):Int):=by rw[eP _ (by omega) (by omega)];omega
 have r:IntKind.wrap .i64 ((u:Int)*2)=((u*2:Nat):Int):=by rw[eP _ (by omega) (by omega)];omega
 have y:IntKind.wrap .i64 (((u*2:Nat):Int)+2)=((u*2+2:Nat):Int):=by rw[eP _ (by omega) (by omega)];omega
 by_cases ar:u<10
 ·have c:(u:Int)<10:=by omega
  have a7:=fun(s:ag) (k:bd)=>KK G X (s:=s) (k:=k) uQ .i64 .i64 u (u+1) (by omega) (by show u+1≤36;omega)
  rw[RU u ar] at a7;unfold uQ at a7;simp -implicitDefEqProofs only[↓cI,↓cN,↓b0,↓bo,↓aF,↓aC,↓ax,↓aG,↓aO,↓aQ,↓ay,↓aH,↓aB,↓aW,↓a1,↓bg,↓dP,↓aI,↓bw,↓b5,↓c6,↓cd,↓cf,↓b6,↓cg,↓ch,↓ci,↓cj,↓ck,↓cl,↓bB,↓bC,↓bD,↓c7,↓c8,↓c9,↓da,↓db,↓dc,↓dd,↓de,↓df,↓cm,↓cn,↓co,↓fp,↓fK,↓f0,↓bJ,↓cL,↓be,↓c0,↓bZ,↓cJ,↓cT,↓dg,↓a2,↓aR,↓a3,↓aN,↓aJ,↓a4,↓cQ,↓b1,↓b7,↓cp,↓cq,↓cr,↓ct,↓cv,↓cw,↓cx,↓cy,b9,dT,List.cons_append,List.nil_append,b8,decide_eq_false_iff_not,ite_not,↓reduceIte,ba,az,bb,bE,eQ,d9,ea,bf,bP,cB,Nat.reduceAdd,List.all_cons,List.all_nil,du,di,dw,dR,bz,↓bk,Nat.reduceLeDiff,aD,cY,c3,eq_true c,dJ,e,↓a7]
 ·have c:¬(u:Int)<10:=by omega
  have a7:=fun(s:ag) (k:bd)=>KK G X (s:=s) (k:=k) k6 .i64 .i64 (u*2) (u*2+2) (by omega) (by show u*2+2≤200;omega)
  rw[YL u (by omega) h] at a7;unfold k6 at a7;simp -implicitDefEqProofs only[↓cI,↓cN,↓b0,↓bo,↓aF,↓aC,↓ax,↓aG,↓aO,↓aQ,↓ay,↓aH,↓aB,↓aW,↓a1,↓bg,↓dP,↓aI,↓bw,↓b5,↓c6,↓cd,↓cf,↓b6,↓cg,↓ch,↓ci,↓cj,↓ck,↓cl,↓bB,↓bC,↓bD,↓c7,↓c8,↓c9,↓da,↓db,↓dc,↓dd,↓de,↓df,↓cm,↓cn,↓co,↓fp,↓fK,↓f0,↓bJ,↓cL,↓be,↓c0,↓bZ,↓cJ,↓cT,↓dg,↓a2,↓aR,↓a3,↓aN,↓aJ,↓a4,↓cQ,↓b1,↓b7,↓cp,↓cq,↓cr,↓ct,↓cv,↓cw,↓cx,↓cy,b9,dT,List.cons_append,List.nil_append,b8,decide_eq_false_iff_not,ite_not,↓reduceIte,ba,az,bb,bE,eQ,d9,ea,bf,bP,cB,Nat.reduceAdd,List.all_cons,List.all_nil,du,di,dw,dR,bz,↓bk,Nat.reduceLeDiff,aD,cY,c3,eq_false c,dF,b4,FY,r,y,↓a7]
theorem ad6(s:ag)(k:bd)(n:Nat)(h:n≤23):(aV aL G X).mh 1 24 (.ref (.l 0) 0) (some (.int .i64 1)) (some (.int .i64 ((n+1:Nat):Int))) none s k=k (.cO (.l 0) 1 n 23 1) s:=by show rK 1 24 (.ref (.l 0) 0) (some (.int .i64 ((1:Nat):Int))) (some (.int .i64 ((n+1:Nat):Int))) none s k=_;unfold rK p1;simp -implicitDefEqProofs only[g9,et (show 1≤n+1 by omega),et (show n+1≤24 by omega),show Nat.ble 24 24=true from rfl,bz,bH];rw[if_neg (by omega),show 0+1*1=1 from rfl,show n+1-1=n by omega]
theorem su:∀(l:List Nat) (r:List ae),chunk 1 l.length (l.map xq++r)=l.map xq
 |[],_=>rfl
 |x::l,r=>by simp -implicitDefEqProofs only[bP,chunk,fH,List.cons_append];show mn 1 (xq x::(l.map xq++r))::chunk 1 l.length (l.map xq++r)=_;rw[su l r];rfl
theorem qt:∀(l:List Nat),ae.aZ (l.map xq)=true
 |[]=>rfl
 |x::l=>by simp -implicitDefEqProofs only[fH,ae.aZ,qt l,Bool.and_true];rfl
theorem qu:∀(l:List Nat),(∀b,b∈l→b<256)→h4 (l.map xq)=some l
 |[],_=>rfl
 |x::l,h=>by have a5:=h x List.mem_cons_self;simp -implicitDefEqProofs only[fH];show h4 (.int .u8 (x:Int)::l.map xq)=_;unfold h4;rw[qu l (fun b e=>h b (List.mem_cons_of_mem _ e))];simp;omega
theorem D3(u:Nat)(U R:List (List cU))(dm:g5 u≤23):dv (qW (st u) U R) (.cO (.l 0) 1 (g5 u) 23 1)=some (1,(oT u).map xq):=by
 have cP:(st u).drop 1=(oT u).map xq++List.replicate (23-g5 u) (xq 0):=rfl;have bN:(st u).length=24:=by simp [st,pX];omega
 show(let es:=chunk 1 (g5 u) ((st u).drop 1);if ae.aZ es&&Nat.ble (1+g5 u*1) (st u).length&& !Nat.beq 1 0 then some (1,es) else none)=_;simp -implicitDefEqProofs only[cP,←pX,su,qt,bN];rw[if_pos]
 have:Nat.ble (1+(oT u).length*1) 24=true:=et (by rw[pX];omega);rw[this];rfl
theorem YN(dV:G 0=.bh iT)(u:Nat)(h:u<131072)(s:ag):aA aL G X 77 [.int .i64 (u:Int),.int .i64 10] s=.ok (.str (eL u)) s:=by
 rw[LH,X6];have t10:(10:Int)=10:=rfl;have r:(0:Int)≤(u:Int):=by omega
 by_cases y:u<100
 ·have c:(u:Int)<100:=by omega
  have H:=YM G X u y s.ai;simp -implicitDefEqProofs only[↓cI,↓cN,↓b0,↓bo,↓aF,↓aC,↓ax,↓aG,↓aO,↓aQ,↓ay,↓aH,↓aB,↓aW,↓a1,↓bg,↓dP,↓aI,↓bw,↓b5,↓c6,↓cd,↓cf,↓b6,↓cg,↓ch,↓ci,↓cj,↓ck,↓cl,↓bB,↓bC,↓bD,↓c7,↓c8,↓c9,↓da,↓db,↓dc,↓dd,↓de,↓df,↓cm,↓cn,↓co,↓fp,↓fK,↓f0,↓bJ,↓cL,↓be,↓c0,↓bZ,↓cJ,↓cT,↓dg,↓a2,↓aR,↓a3,↓aN,↓aJ,↓a4,↓cQ,↓b1,↓b7,↓cp,↓cq,↓cr,↓ct,↓cv,↓cw,↓cx,↓cy,b9,dT,List.cons_append,List.nil_append,b8,decide_eq_false_iff_not,ite_not,↓reduceIte,ba,az,bb,bE,eQ,d9,ea,bf,bP,cB,Nat.reduceAdd,List.all_cons,List.all_nil,du,di,dw,dR,bz,↓bk,Nat.reduceLeDiff,aD,cY,c3,eq_true t10,eq_true r,eq_true c,dJ,a8 H]
 ·have c:¬(u:Int)<100:=by omega
  have A:¬(u:Int)<0:=by omega
  have dm:g5 u≤6:=by unfold g5;split<;> (try split)<;> (try split)<;> omega
  have w:IntKind.wrap .u64 (u:Int)=(u:Int):=IntWalk.u64_in _ ⟨by omega,by omega⟩;have B:IntKind.wrap .i64 (1+((g5 u:Nat):Int))=((g5 u+1:Nat):Int):=by rw[eP _ (by omega) (by omega)];omega
  have I:=fun s=>YG G X dV u (by omega) h s
  have J:=YK G X u (by omega) h (s.own::s.up) s.ro;have F:=fun(s:ag) (k:bd)=>ad6 G X s k (g5 u) (by omega)
  have e:eL u=oT u:=by unfold eL;rw[if_neg (by omega),if_neg y]
  rw[e];simp -implicitDefEqProofs only[↓cI,↓cN,↓b0,↓bo,↓aF,↓aC,↓ax,↓aG,↓aO,↓aQ,↓ay,↓aH,↓aB,↓aW,↓a1,↓bg,↓dP,↓aI,↓bw,↓b5,↓c6,↓cd,↓cf,↓b6,↓cg,↓ch,↓ci,↓cj,↓ck,↓cl,↓bB,↓bC,↓bD,↓c7,↓c8,↓c9,↓da,↓db,↓dc,↓dd,↓de,↓df,↓cm,↓cn,↓co,↓fp,↓fK,↓f0,↓bJ,↓cL,↓be,↓c0,↓bZ,↓cJ,↓cT,↓dg,↓a2,↓aR,↓a3,↓aN,↓aJ,↓a4,↓cQ,↓b1,↓b7,↓cp,↓cq,↓cr,↓ct,↓cv,↓cw,↓cx,↓cy,b9,dT,List.cons_append,List.nil_append,b8,decide_eq_false_iff_not,ite_not,↓reduceIte,ba,az,bb,bE,eQ,d9,ea,bf,bP,cB,Nat.reduceAdd,List.all_cons,List.all_nil,du,di,dw,dR,bz,↓bk,Nat.reduceLeDiff,aD,cY,c3,eq_true t10,eq_true r,eq_false c,dJ,dF,b4,FX,↓tZ,w,eq_false A,FW];refine(a8 (I _)).trans ?_;simp -implicitDefEqProofs only[↓cI,↓cN,↓b0,↓bo,↓aF,↓aC,↓ax,↓aG,↓aO,↓aQ,↓ay,↓aH,↓aB,↓aW,↓a1,↓bg,↓dP,↓aI,↓bw,↓b5,↓c6,↓cd,↓cf,↓b6,↓cg,↓ch,↓ci,↓cj,↓ck,↓cl,↓bB,↓bC,↓bD,↓c7,↓c8,↓c9,↓da,↓db,↓dc,↓dd,↓de,↓df,↓cm,↓cn,↓co,↓fp,↓fK,↓f0,↓bJ,↓cL,↓be,↓c0,↓bZ,↓cJ,↓cT,↓dg,↓a2,↓aR,↓a3,↓aN,↓aJ,↓a4,↓cQ,↓b1,↓b7,↓cp,↓cq,↓cr,↓ct,↓cv,↓cw,↓cx,↓cy,b9,dT,List.cons_append,List.nil_append,b8,decide_eq_false_iff_not,ite_not,↓reduceIte,ba,az,bb,bE,eQ,d9,ea,bf,bP,cB,Nat.reduceAdd,List.all_cons,List.all_nil,du,di,dw,dR,bz,↓bk,Nat.reduceLeDiff,aD,cY,c3,B];refine(F _ _).trans ?_;refine(na J rfl).trans ?_;simp -implicitDefEqProofs only[↓cI,↓cN,↓b0,↓bo,↓aF,↓aC,↓ax,↓aG,↓aO,↓aQ,↓ay,↓aH,↓aB,↓aW,↓a1,↓bg,↓dP,↓aI,↓bw,↓b5,↓c6,↓cd,↓cf,↓b6,↓cg,↓ch,↓ci,↓cj,↓ck,↓cl,↓bB,↓bC,↓bD,↓c7,↓c8,↓c9,↓da,↓db,↓dc,↓dd,↓de,↓df,↓cm,↓cn,↓co,↓fp,↓fK,↓f0,↓bJ,↓cL,↓be,↓c0,↓bZ,↓cJ,↓cT,↓dg,↓a2,↓aR,↓a3,↓aN,↓aJ,↓a4,↓cQ,↓b1,↓b7,↓cp,↓cq,↓cr,↓ct,↓cv,↓cw,↓cx,↓cy,b9,dT,List.cons_append,List.nil_append,b8,decide_eq_false_iff_not,ite_not,↓reduceIte,ba,az,bb,bE,eQ,d9,ea,bf,bP,cB,Nat.reduceAdd,List.all_cons,List.all_nil,du,di,dw,dR,bz,↓bk,Nat.reduceLeDiff,aD,cY,c3,eq_false A,dF,b4,FV,B];refine(F _ _).trans ?_;show gF (gz G (aA aL G X) bQ) (qW (st u) (s.own::s.up) s.ro) _ (.cO (.l 0) 1 (g5 u) 23 1)=_;unfold gF;simp -implicitDefEqProofs only[D3 u _ _ (show g5 u≤23 by omega),qu _ (Hb h),ej,qV];rfl
theorem YO(dV:G 0=.bh iT)(u:Nat)(h:u<131072)(s:ag):aA aL G X 19 [.int .i64 (u:Int)] s=.ok (.str (eL u)) s:=by
 have e:=fun s=>YN G X dV u h s
 have r:∀s,aA aL G X 47 [.int .i64 (u:Int)] s=.ok (.str (eL u)) s:=fun s=>by rw[LG,X5];simp -implicitDefEqProofs only[↓cI,↓cN,↓b0,↓bo,↓aF,↓aC,↓ax,↓aG,↓aO,↓aQ,↓ay,↓aH,↓aB,↓aW,↓a1,↓bg,↓dP,↓aI,↓bw,↓b5,↓c6,↓cd,↓cf,↓b6,↓cg,↓ch,↓ci,↓cj,↓ck,↓cl,↓bB,↓bC,↓bD,↓c7,↓c8,↓c9,↓da,↓db,↓dc,↓dd,↓de,↓df,↓cm,↓cn,↓co,↓fp,↓fK,↓f0,↓bJ,↓cL,↓be,↓c0,↓bZ,↓cJ,↓cT,↓dg,↓a2,↓aR,↓a3,↓aN,↓aJ,↓a4,↓cQ,↓b1,↓b7,↓cp,↓cq,↓cr,↓ct,↓cv,↓cw,↓cx,↓cy,b9,dT,List.cons_append,List.nil_append,b8,decide_eq_false_iff_not,ite_not,↓reduceIte,ba,az,bb,bE,eQ,d9,ea,bf,bP,cB,Nat.reduceAdd,List.all_cons,List.all_nil,du,di,dw,dR,bz,↓bk,Nat.reduceLeDiff,aD,cY,c3,a8 (e _)]
 rw[LF,X4];simp -implicitDefEqProofs only[↓cI,↓cN,↓b0,↓bo,↓aF,↓aC,↓ax,↓aG,↓aO,↓aQ,↓ay,↓aH,↓aB,↓aW,↓a1,↓bg,↓dP,↓aI,↓bw,↓b5,↓c6,↓cd,↓cf,↓b6,↓cg,↓ch,↓ci,↓cj,↓ck,↓cl,↓bB,↓bC,↓bD,↓c7,↓c8,↓c9,↓da,↓db,↓dc,↓dd,↓de,↓df,↓cm,↓cn,↓co,↓fp,↓fK,↓f0,↓bJ,↓cL,↓be,↓c0,↓bZ,↓cJ,↓cT,↓dg,↓a2,↓aR,↓a3,↓aN,↓aJ,↓a4,↓cQ,↓b1,↓b7,↓cp,↓cq,↓cr,↓ct,↓cv,↓cw,↓cx,↓cy,b9,dT,List.cons_append,List.nil_append,b8,decide_eq_false_iff_not,ite_not,↓reduceIte,ba,az,bb,bE,eQ,d9,ea,bf,bP,cB,Nat.reduceAdd,List.all_cons,List.all_nil,du,di,dw,dR,bz,↓bk,Nat.reduceLeDiff,aD,cY,c3,a8 (r _)]
end
end Go.gl
end
section
namespace Go.gl
open Go.Ab Go.hC
theorem yX:∀(p e:List aT) (x:aT) (q:List aT),iB e (p++x::q)=true→wf (e++p) x=true
 |[],e,x,q,h=>by rw[List.nil_append,iB,bl] at h;rw[qw];exact h.1
 |y::p,e,x,q,h=>by
  rw[List.cons_append,iB,bl] at h
  have:=yX p (e++[y]) x q h.2
  rwa [nk] at this
theorem RV(op:Int):hi op=0∨hi op=1∨hi op=2∨hi op=3:=by
 unfold hi;split
 ·exact .inr (.inl rfl)
 ·split
  ·exact .inr (.inr (.inl rfl))
  ·split
   ·exact .inr (.inr (.inr rfl))
   ·exact .inl rfl
theorem RW{l pre rest:List aT}(bN:l=pre++rest)(hw:iB [] l=true):∀o∈pre,hi o.op≠0:=by intro o e;obtain⟨p,q,r⟩:=List.append_of_mem e;have h:=yX p [] o (q++rest) (by rw[←List.cons_append,←nk,←r,←bN];exact hw);unfold wf at h;simp -implicitDefEqProofs only[bl,b8] at h;exact h.1.1.1
end Go.gl
end
section
namespace Go.gl
open Go.Ab
def gC(x n:Int):Int:=(if x<0 then -(x+1) else x)%n
theorem mj{x n:Int}(h:0<n):0≤gC x n∧gC x n<n:=⟨Int.emod_nonneg _ (by omega),Int.emod_lt_of_pos _ h⟩
def mQ(want r:Int):Bool:=decide (r=want)||(decide (want=0)&&decide (r≠1))
def jr(want:Int):List aT→Nat→List Int
 |[],_=>[]
 |x::l,i=>if mQ want (hi x.op)=true then(i:Int)::jr want l (i+1) else jr want l (i+1)
def kH(l:List aT)(want n:Int):Int:=if(jr want l 0).length=0 then -1 else(jr want l 0).getD (gC n (jr want l 0).length).toNat 0
theorem yY(want:Int):∀(l:List aT) (i:Nat) (a:Int),a∈jr want l i→∃(j:Nat) (x:aT),a=((i+j:Nat):Int)∧l[j]? =some x∧mQ want (hi x.op)=true
 |[],_,a,h=>by cases h
 |x::l,i,a,h=>by
  have rest:a∈jr want l (i+1)→∃(j:Nat) (kI:aT),a=((i+j:Nat):Int)∧(x::l)[j]? =some kI∧mQ want (hi kI.op)=true:=fun h=>by obtain⟨j,y,ar,av,bV⟩:=yY want l (i+1) a h;exact⟨j+1,y,by omega,by simpa using av,bV⟩
  unfold jr at h;split at h
  ·rename_i br;rcases List.mem_cons.1 h with rfl |h
   ·exact⟨0,x,by omega,rfl,br⟩
   ·exact rest h
  ·exact rest h
section
variable(G:Nat→ae)(X:Nat→List ae→ag→ah)
theorem sv(x n:Int)(dm:0<n)(a5: -9223372036854775808≤x∧x≤9223372036854775807)(s:ag):aA aL G X 14 [I x,I n] s=.ok (I (gC x n)) s:=by
 have eR:n≠0:=by omega
 rw[LM,Yb];unfold gC;by_cases h:x<0
 ·have r:IntKind.wrap .i64 (x+1)=x+1:=eP _ (by omega) (by omega);have u:IntKind.wrap .i64 (0-(x+1))= -(x+1):=by rw[eP _ (by omega) (by omega)];omega
  have e:(-(x+1)).tmod n=(-(x+1))%n:=Int.tmod_eq_emod_of_nonneg (by omega);rw[if_pos h];simp -implicitDefEqProofs only[↓cI,↓cN,↓b0,↓bo,↓aF,↓aC,↓ax,↓aG,↓aO,↓aQ,↓ay,↓aH,↓aB,↓aW,↓a1,↓bg,↓dP,↓aI,↓bw,↓b5,↓c6,↓cd,↓cf,↓b6,↓cg,↓ch,↓ci,↓cj,↓ck,↓cl,↓bB,↓bC,↓bD,↓c7,↓c8,↓c9,↓da,↓db,↓dc,↓dd,↓de,↓df,↓cm,↓cn,↓co,↓fp,↓fK,↓f0,↓bJ,↓cL,↓be,↓c0,↓bZ,↓cJ,↓cT,↓dg,↓a2,↓aR,↓a3,↓aN,↓aJ,↓a4,↓cQ,↓b1,↓b7,↓cp,↓cq,↓cr,↓ct,↓cv,↓cw,↓cx,↓cy,b9,dT,List.cons_append,List.nil_append,b8,decide_eq_false_iff_not,ite_not,↓reduceIte,ba,az,bb,bE,eQ,d9,ea,bf,bP,cB,Nat.reduceAdd,List.all_cons,List.all_nil,du,di,dw,dR,bz,↓bk,Nat.reduceLeDiff,aD,cY,c3,eq_true h,dJ,r,u,wK,↓ss G X _ _ _ eR,e]
 ·have e:x.tmod n=x%n:=Int.tmod_eq_emod_of_nonneg (by omega);rw[if_neg h];simp -implicitDefEqProofs only[↓cI,↓cN,↓b0,↓bo,↓aF,↓aC,↓ax,↓aG,↓aO,↓aQ,↓ay,↓aH,↓aB,↓aW,↓a1,↓bg,↓dP,↓aI,↓bw,↓b5,↓c6,↓cd,↓cf,↓b6,↓cg,↓ch,↓ci,↓cj,↓ck,↓cl,↓bB,↓bC,↓bD,↓c7,↓c8,↓c9,↓da,↓db,↓dc,↓dd,↓de,↓df,↓cm,↓cn,↓co,↓fp,↓fK,↓f0,↓bJ,↓cL,↓be,↓c0,↓bZ,↓cJ,↓cT,↓dg,↓a2,↓aR,↓a3,↓aN,↓aJ,↓a4,↓cQ,↓b1,↓b7,↓cp,↓cq,↓cr,↓ct,↓cv,↓cw,↓cx,↓cy,b9,dT,List.cons_append,List.nil_append,b8,decide_eq_false_iff_not,ite_not,↓reduceIte,ba,az,bb,bE,eQ,d9,ea,bf,bP,cB,Nat.reduceAdd,List.all_cons,List.all_nil,du,di,dw,dR,bz,↓bk,Nat.reduceLeDiff,aD,cY,c3,eq_false h,dF,b4,wK,↓ss G X _ _ _ eR,e]
end
section
variable(G:Nat→ae)(X:Nat→List ae→ag→ah)
def w5(F:List Int)(n:Int):Int:=if F.length=0 then -1 else F.getD (gC n F.length).toNat 0
theorem Hc(F:List Int)(g':eZ)(n:Int)(dm: -9223372036854775808≤n∧n≤9223372036854775807)(h7:F.length≤1000)(s S:ag)(f4:Child s S):Aq (aV aL G X) (I n) (.bW 1 (F.map I) g') S=.ok (I (w5 F n)) s:=by
 have e:=fun n=>ir (T:=aL) (G:=G) (X:=X) f4 .i64 n
 rw[F8,aB,ep,bJ];unfold w5;by_cases eS:F.length=0
 ·rw[dQ (by omega),ek,if_pos eS];exact e _
 ·have fz:(0:Int)<(F.length:Int):=by omega
  have aU:=mj (x:=n) fz;have yf:=sv G X n F.length fz dm S;have h:(gC n F.length).toNat<F.length:=by omega
  have a5:(F.map I)[(gC n F.length).toNat]? =some (I (F.getD (gC n F.length).toNat 0)):=by simp [g6,ei h,List.getD_eq_getElem?_getD]
  have r:=fun(k:bd)=>HD (T:=aL) (G:=G) (X:=X) (s:=S) (k:=k) 1 _ g' .i64 (gC n F.length) _ aU.1 a5
  rw[cA (by omega),ee,if_neg eS,F7,aB,ep,az,az,a8 yf,r];exact(bg _ []).trans (e _)
theorem Hd(l:List aT)(g:eZ)(want n:Int)(dm: -9223372036854775808≤n∧n≤9223372036854775807)(bN:l.length≤1000)(s:ag):∀(rest pre:List aT) (acc:List Int) (g':eZ) (S:ag),l=pre++rest→acc.length≤pre.length→Child s S→gS S g' acc.length→
  uH (aV aL G X) (bp l g) (I want) (I n) (.bW 1 (acc.map I) g') (.int .i64 (pre.length:Int)) S=.ok (I (w5 (acc++jr want rest pre.length) n)) s:=by
 intro rest
 induction rest with
 |nil=>
  intro pre acc g' S h A f4 cb;have e:(l.map aT.enc).length=l.length:=ep ..;have B:pre.length=l.length:=by rw[h];simp
  rw[wM,aB,e,be,cA (by omega),ee,Hc G X acc g' n dm (by omega) s S f4];simp [jr]
 |cons x rest r=>
  intro pre acc g' S h A f4 cb;have e:(l.map aT.enc).length=l.length:=ep ..;have B:pre.length<l.length:=by rw[h];simp
  have ex:(l.map aT.enc)[pre.length]? =some x.enc:=by rw[h];simp
  have F:=fun(k:bd)=>DC G X S k 12 _ g .i64 pre.length _ ex
  have H:∀K:bd,(aV aL G X).aw S K none (.bh (x.enc.cells.drop 1))=K (I x.op) S:=fun K=>rfl
  have zT:=KC G X x.op S;have hex:∀K:bd,(aV aL G X).ca S K 0 (oS x.op)=K (iS (gi x.op) (sr x.op)) S:=fun K=>ot _ _
  have J:∀K:bd,(aV aL G X).ca S K 1 (oS x.op)=K (I (hi x.op)) S:=fun K=>ou _ _ _
  have M:∀K:bd,(aV aL G X).ca S K 2 (oS x.op)=K (.bool (iX x.op)) S:=fun K=>vV _ _ _ _
  have u:=fun S k=>ny G X S k pre.length (by omega)
  have no:mQ want (hi x.op)=false→sg (aV aL G X) (bp l g) (I want) (I n) (.bW 1 (acc.map I) g') (.int .i64 (pre.length:Int)) S=.ok (I (w5 (acc++jr want (x::rest) pre.length) n)) s:=fun br=>by
   rw[wL,u]
   have:=r (pre++[x]) acc g' S (by rw[h];simp) (by simp;omega) f4 cb;rw[gL,List.length_singleton] at this;rw[this];simp [jr,br]
  have y:mQ want (hi x.op)=true→(aV aL G X).a9 S (fun N s=>(aV aL G X).fO s (fun O s=>sg (aV aL G X) (bp l g) (I want) (I n) O (.int .i64 (pre.length:Int)) s) 1 8 (some (.l 0)) (.bW 1 (acc.map I) g') N) 1 [.int .i64 (pre.length:Int)]=.ok (I (w5 (acc++jr want (x::rest) pre.length) n)) s:=fun br=>by
   rw[yC];refine sX (new:=[I (pre.length:Int)]) (by simpa using cb) (by simp) (by simp;omega) rfl (fun g2 U V ar av bV Y=>?_);rw[wL,u]
   have:=r (pre++[x]) (acc++[(pre.length:Int)]) g2 U (by rw[h];simp) (by simp;omega) (Y.child f4) (by simpa using V);rw[gL,List.length_singleton] at this;rw[List.map_append] at this;refine this.trans ?_;simp [jr,br]
  rw[wM,aB,e,be,dQ (by omega),ek,F6,F,dP,H,az,a8 zT,hex,J,M,bJ];by_cases ar:hi x.op=want
  ·rw[dQ ar];simp -implicitDefEqProofs only[hg,fD,ek,b3];exact y (by simp [mQ,ar])
  ·rw[cA ar];simp -implicitDefEqProofs only[eV,bJ];by_cases av:want=0
   ·simp -implicitDefEqProofs only[dQ av,fU,cL];by_cases bV:hi x.op=1
    ·simp -implicitDefEqProofs only[cA (show¬¬hi x.op=1 by omega),fD,eY,ee];exact no (by simp [mQ,ar,av,bV])
    ·simp -implicitDefEqProofs only[dQ bV,fD,eY,ek];exact y (by simp [mQ,av,bV])
   ·simp -implicitDefEqProofs only[cA av,gB,b3,eY,ee];exact no (by simp [mQ,ar,av])
theorem YP(l:List aT)(g:eZ)(want n:Int)(dm: -9223372036854775808≤n∧n≤9223372036854775807)(bN:l.length≤1000)(s:ag):aA aL G X 35 [bp l g,I want,I n] s=.ok (I (kH l want n)) s:=by
 rw[LN,Yc]
 have:=Hd G X l g want n dm bN s l [] [] .nil s.ai rfl (aD _) (Child.ai s) .nil;exact this
end
end Go.gl
end
section
namespace Go.gl
open Go.Ab Go.hC
set_option maxRecDepth 1000000
abbrev L9:ag:={own:=[],up:=[],ro:=[]}
def Ma:List ae→Option (List Nat)
 |[]=>some []
 |.int .u32 n::l=>if 0≤n∧n<4294967296 then(Ma l).map (n.toNat:: ·) else none
 |_::_=>none
def YQ(m:List Nat):eZ→Bool
 |.dx _=>false
 |.nil=>m.isEmpty
 |_=>true
structure h0.Mb (n:h0):Prop where
 nil:n.g=.nil→n.p3=[]
 len:n.p3.length≤100000
def ad7(r:ah):Bool:=
 match r with
 |.ok (.d0 [.agg [.bool ad8,.bW 1 e s4,.bool kr,.bW 1 BD hj],.int .i64 0]) _=>
  match Ma e,Ma BD with
  |some a,some b=>YQ a s4&&YQ b hj&&Nat.ble a.length 1000&&Nat.ble b.length 1000&&nh ad8 kr a b
  |_,_=>false
 |_=>false
structure ad9 (v:ae) (iC bT:h0):Prop where
 v:v=.agg [.bool iC.neg,iC.v,.bool bT.neg,bT.v]
 BN:oX iC
 gU:oX bT
 valid:iY iC bT=true
 ad8:iC.Mb
 kr:bT.Mb
theorem w6:∀{m:List ae} {a:List Nat},Ma m=some a→m=a.map U∧dO a
 |[],a,h=>by simp only[Ma,bm] at h;subst h;exact⟨rfl,fun x a5=>by cases a5⟩
 |e::m,a,h=>by
  unfold Ma at h;split at h
  ·rename_i r;cases r
  ·rename_i n l r;cases r;split at h
   ·rename_i dm;obtain⟨l',ar,av⟩:=Option.map_eq_some_iff.1 h;subst av;obtain⟨bV,dD⟩:=w6 ar;refine⟨?_,fun x a5=>?_⟩
    ·rw[fH,←bV];simp [U,Int.toNat_of_nonneg dm.1]
    ·rcases List.mem_cons.1 a5 with rfl |a5
     ·rw[kO];omega
     ·exact dD x a5
   ·cases h
  ·cases h
theorem KR{m:List Nat}{g:eZ}(h:YQ m g=true):∀a,g≠.dx a:=fun a e=>by subst e;cases h
theorem KS{m:List Nat}{g:eZ}(h:YQ m g=true):g=.nil→m=[]:=fun e=>by subst e;exact List.isEmpty_iff.1 h
theorem RX{r:ah}(h:ad7 r=true):∃v s' iC bT,r=.ok (.d0 [v,.int .i64 0]) s'∧ad9 v iC bT:=by
 unfold ad7 at h;split at h
 ·rename_i ad8 I s4 kr BD hj s';split at h
  ·rename_i a b e u;simp only[bl] at h;obtain⟨⟨⟨⟨ar,av⟩,bV⟩,dD⟩,y⟩:=h;obtain⟨A,B⟩:=w6 e;obtain⟨F,H⟩:=w6 u;have J:=dW bV;have K:=dW dD;exact⟨_,s',⟨ad8,a,s4⟩,⟨kr,b,hj⟩,rfl,by rw[A,F];rfl,⟨KR ar,B,by show a.length<_;omega⟩,⟨KR av,H,by show b.length<_;omega⟩,y,⟨KS ar,by show a.length≤_;omega⟩,⟨KS av,by show b.length≤_;omega⟩⟩
  ·cases h
 ·cases h
section
variable(G:Nat→ae)(X:Nat→List ae→ag→ah)
noncomputable def gT(a:Nat):Bool:=(List.range 4).all fun b=>ad7 (call aX.full aL G X 200 46 [I ((a:Int)-16),I ((b:Int)+1)] L9)
end
end Go.gl
end
