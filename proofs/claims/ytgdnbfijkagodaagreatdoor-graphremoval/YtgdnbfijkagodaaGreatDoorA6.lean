/- A part of the proof: no condition. -/
import Derived.Test.YtgdnbfijkagodaaGreatDoorA5
import Derived.Test.YtgdnbfijkagodaaGreatDoorA3
set_option linter.unusedSectionVars false
set_option linter.unusedSimpArgs false
set_option linter.unusedVariables false
section
namespace Go.hV
def B:Nat:=4294967296
theorem lk:B=4294967296:=rfl
theorem hC:0<B:=by decide
def val:List Nat→Nat
 |[]=>0
 |x::xs=>x+B*val xs
def dU(l:List Nat):Prop:=∀x,x∈l→x<B
theorem dU.tail{x:Nat}{l:List Nat}(h:dU (x::l)):dU l:=fun y ez=>h y (by simp [ez])
theorem dU.take{l:List Nat}(h:dU l)(n:Nat):dU (l.take n):=fun y ez=>h y (List.mem_of_mem_take ez)
theorem dU.drop{l:List Nat}(h:dU l)(n:Nat):dU (l.drop n):=fun y ez=>h y (List.mem_of_mem_drop ez)
theorem dU.getD{l:List Nat}(h:dU l)(i:Nat):l.getD i 0<B:=by
 by_cases bZ:i<l.length
 ·have:l.getD i 0=l[i]:=by simp [List.getD,bZ]
  rw[this];exact h _ (mW bZ)
 ·have:l.getD i 0=0:=by simp [List.getD,Nat.not_lt.1 bZ]
  rw[this];exact hC
theorem dU.set{l:List Nat}(h:dU l)(i x:Nat)(a1:x<B):dU (l.set i x):=fun y ez=>by
 rcases List.mem_or_eq_of_mem_set ez with ar|ar
 ·exact h y ar
 ·exact ar ▸ a1
theorem qf(n:Nat):dU (List.replicate n 0):=fun y ez=>by rw[(List.mem_replicate.1 ez).2];exact hC
theorem nV:∀(a b:List Nat),val (a++b)=val a+B^a.length*val b
 |[],b=>by simp [val]
 |x::a,b=>by simp only[List.cons_append,val,nV a b,bT,Nat.pow_succ,fX];rw[eM (B^a.length) B,hb];omega
theorem ik:∀(l:List Nat),dU l→val l<B^l.length
 |[],_=>by simp [val]
 |x::l,h=>by have ar:=ik l h.tail;have aw:=h x (by simp);simp only[val,bT,Nat.pow_succ];have bS:B*(val l+1)≤B*B^l.length:=Nat.mul_le_mul_left _ ar;rw[fX,Nat.mul_one] at bS;rw[eM (B^l.length)];omega
theorem EN(n:Nat):val (List.replicate n 0)=0:=by
 induction n with
 |zero=>rfl
 |succ n e=>simp [List.replicate_succ,val,e]
theorem val_succ(l:List Nat)(i:Nat)(h:i<l.length):val (l.take (i+1))=val (l.take i)+B^i*l.getD i 0:=by
 rw[List.take_succ_eq_append_getElem h,nV]
 have:(l.take i).length=i:=by simp;omega
 rw[this];simp [val,List.getD,h]
theorem lG(l:List Nat)(i:Nat)(h:i≤l.length):val l=val (l.take i)+B^i*val (l.drop i):=by
 have:=nV (l.take i) (l.drop i);rw[List.take_append_drop] at this;rw[this]
 have:(l.take i).length=i:=by simp;omega
 rw[this]
theorem mT(l:List Nat)(i:Nat)(h:i<l.length):val (l.drop i)=l.getD i 0+B*val (l.drop (i+1)):=by rw[iy h];simp [val,List.getD,h]
theorem mI{l:List Nat}{i j x:Nat}(h:i≤j):(l.set j x).take i=l.take i:=by
 apply List.ext_getElem?;intro n;rw[List.getElem?_take,List.getElem?_take];split
 ·rw[ix (by omega)]
 ·rfl
theorem ta{l:List Nat}{i j x:Nat}(h:j<i):(l.set j x).drop i=l.drop i:=by apply List.ext_getElem?;intro n;rw[List.getElem?_drop,List.getElem?_drop,ix (by omega)]
theorem gj{l:List Nat}{i x:Nat}(h:i<l.length):(l.set i x).getD i 0=x:=by simp [List.getD,h]
theorem getD_set_ne{l:List Nat}{i j x:Nat}(h:i≠j):(l.set i x).getD j 0=l.getD j 0:=by simp only[List.getD];rw[ix h]
def hD(l:List Nat):Nat→Nat
 |0=>0
 |n+1=>if l.getD n 0=0 then hD l n else n+1
theorem j3(l:List Nat):∀n,hD l n≤n
 |0=>aC _
 |n+1=>by
  unfold hD;split
  ·exact Nat.le_succ_of_le (j3 l n)
  ·exact aC _
def gC(l:List Nat):List Nat:=l.take (hD l l.length)
def fr(l:List Nat):Prop:=l≠[]→l.getD (l.length-1) 0≠0
theorem xL(l:List Nat):∀n,n≤l.length→val (l.take (hD l n))=val (l.take n)
 |0,_=>rfl
 |n+1,h=>by
  unfold hD;split
  ·rename_i eO;rw[xL l n (by omega),val_succ l n (by omega),eO,Nat.mul_zero,Nat.add_zero]
  ·rfl
theorem tc(l:List Nat):∀n,hD l n≠0→l.getD (hD l n-1) 0≠0
 |0,h=>absurd rfl h
 |n+1,h=>by
  unfold hD at h ⊢;split
  ·rename_i eO;rw[if_pos eO] at h;exact tc l n h
  ·rename_i eO;exact eO
theorem kM(l:List Nat):val (gC l)=val l:=by unfold gC;rw[xL l _ (aC _),List.take_length]
theorem iM(l:List Nat):(gC l).length=hD l l.length:=by
 unfold gC;rw[List.length_take]
 have:=j3 l l.length;omega
theorem jM(l:List Nat):fr (gC l):=fun h=>by
 have ar:hD l l.length≠0:=fun e=>h (by unfold gC;rw[e];rfl)
 have aw:=tc l l.length ar;rw[iM];unfold gC;simp only[List.getD] at aw ⊢;rw[List.getElem?_take,if_pos (by omega)];exact aw
theorem l4{l:List Nat}(h:dU l):dU (gC l):=h.take _
theorem qz(l:List Nat)(h:fr l)(eu:l≠[]):B^(l.length-1)≤val l:=by
 have bU:0<l.length:=List.length_pos_iff.2 eu;have ar:=val_succ l (l.length-1) (by omega);rw[show l.length-1+1=l.length by omega,List.take_length] at ar;have aw:=h eu;rw[ar]
 have:B^(l.length-1)*1≤B^(l.length-1)*l.getD (l.length-1) 0:=Nat.mul_le_mul_left _ (by omega);omega
theorem uW{l:List Nat}(h:fr l):val l=0↔l=[]:=by
 constructor
 ·intro eO;by_cases eu:l=[]
  ·exact eu
  ·have:=qz l h eu
   have:=Nat.pow_pos (n:=l.length-1) hC;omega
 ·intro e;subst e;rfl
theorem pe{m n:Nat}(h:m≤n):B^m≤B^n:=Nat.pow_le_pow_right hC h
theorem oH{a b:List Nat}(r:dU a)(u:fr b)(h:a.length<b.length):val a<val b:=by have ar:=ik a r;have aw:=qz b u (by intro e;subst e;simp at h);have bS:B^a.length≤B^(b.length-1):=pe (by omega);omega
theorem xM{a b:List Nat}(e:dU a)(r:dU b)(u:fr a)(y:fr b)(h:val a=val b):a.length=b.length:=by
 rcases Nat.lt_trichotomy a.length b.length with ar|ar|ar
 ·have:=oH e y ar;omega
 ·exact ar
 ·have:=oH r u ar;omega
theorem rC{l:List Nat}(a0:fr l){n:Nat}(h:val l<B^n):l.length≤n:=by
 by_cases e:l=[]
 ·subst e;simp
 ·have ar:=qz l a0 e;by_cases aw:l.length≤n
  ·exact aw
  ·have bS:B^n≤B^(l.length-1):=pe (by omega);omega
theorem val_inj:∀{a b:List Nat},dU a→dU b→a.length=b.length→val a=val b→a=b
 |[],[],_,_,_,_=>rfl
 |[],y::b,_,_,h,_=>by simp at h
 |x::a,[],_,_,h,_=>by simp at h
 |x::a,y::b,e,r,bU,h=>by
  have a1:=e x (by simp);have ez:=r y (by simp);simp only[val] at h;have ar:x=y:=by
   have dn:(x+B*val a)%B=x:=by rw[Nat.add_mul_mod_self_left,hT a1]
   have u:(y+B*val b)%B=y:=by rw[Nat.add_mul_mod_self_left,hT ez]
   rw[←dn,←u,h]
  subst ar;have aw:B*val a=B*val b:=by omega
  have bS:=Nat.eq_of_mul_eq_mul_left hC aw;rw[val_inj e.tail r.tail (by simpa using bU) bS]
end Go.hV
namespace Go.hV
theorem uX:B=2^32:=rfl
theorem Ib(w r:Nat):B^w*2^r=2^(32*w+r):=by rw[uX,←Nat.pow_mul,←Nat.pow_add]
theorem zL(x r:Nat)(aV:r<32):∃q,x*2^r%B=q*2^r∧q*2^r+2^r≤B:=by
 refine⟨x%2^(32-r),?_,?_⟩
 ·have:B=2^(32-r)*2^r:=by rw[←Nat.pow_add,uX];congr 1;omega
  rw[this,Nat.mul_mod_mul_right]
 ·have:B=2^(32-r)*2^r:=by rw[←Nat.pow_add,uX];congr 1;omega
  have ar:x%2^(32-r)+1≤2^(32-r):=Nat.mod_lt _ (Nat.two_pow_pos _);have aw:=gn (2^r) ar;rw[fq,Nat.one_mul] at aw;rw[this];exact aw
theorem zM(x r:Nat)(a1:x<B)(aV:r<32):x*2^r/B<2^r∧x*2^r<18446744073709551616:=by
 have ar:x*2^r<B*2^r:=Nat.mul_lt_mul_of_pos_right a1 (Nat.two_pow_pos _);refine⟨by rw[Nat.div_lt_iff_lt_mul hC,eM (2^r)];exact ar,?_⟩;have aw:B*2^r≤B*2^32:=Nat.mul_le_mul_left _ (Nat.pow_le_pow_right (by omega) (by omega));have bS:B*2^32=18446744073709551616:=by decide
 omega
theorem Ic(l out:List Nat)(i w r:Nat)(aV:r<32)(bZ:i<l.length)(bU:l.length+w<out.length)(h:dU out)(u:dU l)(bX:val (out.take (i+w+1))=val (l.take i)*2^(32*w+r))(a0:out.getD (i+w) 0<2^r)(c:Nat)(F9:c=out.getD (i+w) 0)(y:Nat)(ez:y=c+l.getD i 0*2^r%B):
  let e:=(out.set (i+w) y).set (i+w+1) (l.getD i 0*2^r/B)
  dU e∧e.length=out.length∧val (e.take (i+1+w+1))=val (l.take (i+1))*2^(32*w+r)∧e.getD (i+1+w) 0<2^r:=by
 have a1:=u.getD i;have A:=zM (l.getD i 0) r a1 aV;obtain⟨q,M,N⟩:=zL (l.getD i 0) r aV;have O:2^r≤2^32:=Nat.pow_le_pow_right (by omega) (by omega);have F:y<B:=by omega
 have U:(2:Nat)^32=B:=rfl;have dn:i+1+w=i+w+1:=by omega
 refine⟨(h.set _ _ F).set _ _ (by omega),by simp,?_,?_⟩
 ·have s1:=val_succ ((out.set (i+w) y).set (i+w+1) (l.getD i 0*2^r/B)) (i+w+1) (by simp;omega);have s2:=val_succ (out.set (i+w) y) (i+w) (by simp;omega);have H:=val_succ out (i+w) (by omega);have gZ:((out.set (i+w) y).set (i+w+1) (l.getD i 0*2^r/B)).getD (i+w+1) 0=l.getD i 0*2^r/B:=gj (by simp;omega);have g2:(out.set (i+w) y).getD (i+w) 0=y:=gj (by omega);rw[dn,s1,gZ,mI (aC _),s2,g2,mI (aC _),val_succ l i bZ,fq,←bX,H,←F9];have I:B^i*l.getD i 0*2^(32*w+r)=B^(i+w)*(l.getD i 0*2^r):=by
   rw[←Ib,Nat.pow_add,hb,hb,Nat.mul_left_comm (l.getD i 0)]
  have J:B^(i+w)*(l.getD i 0*2^r)=B^(i+w)*(l.getD i 0*2^r%B)+B^(i+w)*(B*(l.getD i 0*2^r/B)):=by rw[←fX,Nat.mod_add_div]
  rw[I,J,ez,fX,Nat.pow_succ,hb (B^(i+w)) B];omega
 ·have gZ:((out.set (i+w) y).set (i+w+1) (l.getD i 0*2^r/B)).getD (i+w+1) 0=l.getD i 0*2^r/B:=gj (by simp;omega);rw[dn,gZ];exact A.1
theorem EO(a out:List Nat)(n d rest:Nat)(cW:d≠0)(cZ:n<a.length)(bU:out.length=a.length)(e:dU a)(h:dU out)(aV:rest<d)(bX:val (a.drop (n+1))=val (out.drop (n+1))*d+rest):
  (rest*B+a.getD n 0)/d<B∧dU (out.set n ((rest*B+a.getD n 0)/d))∧(rest*B+a.getD n 0)%d<d∧val (a.drop n)=val ((out.set n ((rest*B+a.getD n 0)/d)).drop n)*d+(rest*B+a.getD n 0)%d:=by
 have a1:=e.getD n;have ar:rest*B+a.getD n 0<d*B:=by have:(rest+1)*B≤d*B:=gn _ aV;rw[fq,Nat.one_mul] at this;omega
 have fz:(rest*B+a.getD n 0)/d<B:=by rw[Nat.div_lt_iff_lt_mul (by omega),eM B];exact ar
 refine⟨fz,h.set _ _ fz,Nat.mod_lt _ (by omega),?_⟩;have s1:=mT (out.set n ((rest*B+a.getD n 0)/d)) n (by simp;omega);have gZ:(out.set n ((rest*B+a.getD n 0)/d)).getD n 0=(rest*B+a.getD n 0)/d:=gj (by omega);rw[mT a n cZ,bX,s1,gZ,ta (by omega),fq];have hm:=Nat.div_add_mod (rest*B+a.getD n 0) d;have dn:B*(val (out.drop (n+1))*d+rest)=B*val (out.drop (n+1))*d+rest*B:=by rw[fX,hb,eM B rest]
 rw[dn];have r:(rest*B+a.getD n 0)/d*d=d*((rest*B+a.getD n 0)/d):=eM _ _;omega
end Go.hV
end
section
namespace Go.gF
open Go.Ab Go.hV
variable(G:Nat→af)(X:Nat→List af→ah→ai)
theorem EP(S:ah)(k:bd)(sz:Nat)(es:List af)(g:e0)(eG:IntKind)(i:Nat)(e:af)(h:es[i]? =some e):(aQ aF G X).bV S k sz (.bx sz es g) (.int eG (i:Int))=k (.bk e.cells) S:=lC sz es g eG i e h
theorem nD(S:ah)(k:bd)(a:Nat)(h:a+1<9223372036854775808):(aQ aF G X).aj S k (al .add (.int .i64 (a:Int)) (.int .i64 1))=k (.int .i64 ((a+1:Nat):Int)) S:=ij a h
theorem EQ(s:ah)(v:af)(l:List Nat)(h:mF s v l)(B:l.length<9223372036854775807)(S:ah)(e:Child s S):∀n,n≤l.length→sI (aQ aF G X) v (.int .i64 (n:Int)) S=.ok (p3 v (hD l n)) s:=by
 have y:∀n,n≤l.length→w2 (aQ aF G X) v (.int .i64 (n:Int)) S=.ok (p3 v n) s:=fun n cZ=>by rw[D4,h.slice n cZ];exact fT e _ _ ((h.cut n cZ).same e)
 intro n
 induction n with
 |zero=>
  intro cZ;rw[uI];have eO:¬((0:Int)<((0:Nat):Int)):=by omega
  simp -implicitDefEqProofs only[↓cG,↓cU,↓cb,↓bw,↓aH,↓aK,↓aD,↓aM,↓aS,↓aT,↓aE,↓aN,↓aI,↓aY,↓a3,↓bg,↓dC,↓ay,↓bH,↓ci,↓dc,↓cl,↓cm,↓cj,↓cn,↓co,↓cp,↓cq,↓cr,↓ct,↓bI,↓bJ,↓bK,↓dd,↓de,↓df,↓dg,↓dh,↓di,↓dj,↓dk,↓dl,↓cv,↓cw,↓cx,↓bO,↓cf,↓bl,↓c6,↓b8,↓cR,↓c4,↓dm,↓a4,↓aU,↓a5,↓aR,↓aG,↓a6,↓cX,↓cc,↓ck,↓cy,↓cz,↓cA,↓cB,↓cC,↓cD,↓cE,↓cF,↓dI,↓dJ,↓ds,↓dS,↓cM,↓cN,↓cV,↓dt,bY,dO,b9,decide_eq_false_iff_not,ite_not,↓reduceIte,be,aA,bi,bL,bh,bT,ca,Nat.reduceAdd,bz,↓bn,Nat.reduceLeDiff,aC,c2,c7,dP,dG,b5,eq_false eO];exact y 0 (Nat.zero_le _)
 |succ n A=>
  intro cZ;have eO:(0:Int)<((n+1:Nat):Int):=by omega
  have g:=fun(k:bd)=>(h.pA e.pA).get (T:=aF) (G:=G) (X:=X) .i64 n (by omega) k
  have r:=fun(S:ah) (k:bd)=>iK (T:=aF) (G:=G) (X:=X) (s:=S) (k:=k) (n+1) (by omega) (by omega)
  simp -implicitDefEqProofs only[Nat.add_sub_cancel] at r;rw[uI];by_cases gA:l.getD n 0=0
  ·have u:((l.getD n 0:Nat):Int)=0:=by omega
   simp -implicitDefEqProofs only[↓cG,↓cU,↓cb,↓bw,↓aH,↓aK,↓aD,↓aM,↓aS,↓aT,↓aE,↓aN,↓aI,↓aY,↓a3,↓bg,↓dC,↓ay,↓bH,↓ci,↓dc,↓cl,↓cm,↓cj,↓cn,↓co,↓cp,↓cq,↓cr,↓ct,↓bI,↓bJ,↓bK,↓dd,↓de,↓df,↓dg,↓dh,↓di,↓dj,↓dk,↓dl,↓cv,↓cw,↓cx,↓bO,↓cf,↓bl,↓c6,↓b8,↓cR,↓c4,↓dm,↓a4,↓aU,↓a5,↓aR,↓aG,↓a6,↓cX,↓cc,↓ck,↓cy,↓cz,↓cA,↓cB,↓cC,↓cD,↓cE,↓cF,↓dI,↓dJ,↓ds,↓dS,↓cM,↓cN,↓cV,↓dt,bY,dO,b9,decide_eq_false_iff_not,ite_not,↓reduceIte,be,aA,bi,bL,bh,bT,ca,Nat.reduceAdd,bz,↓bn,Nat.reduceLeDiff,aC,c2,c7,dP,dG,b5,eq_true eO,r,↓g,u,D3,hD,if_pos gA];exact A (by omega)
  ·have u:¬((l.getD n 0:Nat):Int)=0:=by omega
   simp -implicitDefEqProofs only[↓cG,↓cU,↓cb,↓bw,↓aH,↓aK,↓aD,↓aM,↓aS,↓aT,↓aE,↓aN,↓aI,↓aY,↓a3,↓bg,↓dC,↓ay,↓bH,↓ci,↓dc,↓cl,↓cm,↓cj,↓cn,↓co,↓cp,↓cq,↓cr,↓ct,↓bI,↓bJ,↓bK,↓dd,↓de,↓df,↓dg,↓dh,↓di,↓dj,↓dk,↓dl,↓cv,↓cw,↓cx,↓bO,↓cf,↓bl,↓c6,↓b8,↓cR,↓c4,↓dm,↓a4,↓aU,↓a5,↓aR,↓aG,↓a6,↓cX,↓cc,↓ck,↓cy,↓cz,↓cA,↓cB,↓cC,↓cD,↓cE,↓cF,↓dI,↓dJ,↓ds,↓dS,↓cM,↓cN,↓cV,↓dt,bY,dO,b9,decide_eq_false_iff_not,ite_not,↓reduceIte,be,aA,bi,bL,bh,bT,ca,Nat.reduceAdd,bz,↓bn,Nat.reduceLeDiff,aC,c2,c7,dP,dG,b5,eq_true eO,r,↓g,eq_false u,hD,if_neg gA];exact y (n+1) cZ
theorem nl(s:ah)(v:af)(l:List Nat)(h:mF s v l)(e:l.length<9223372036854775807):aB aF G X 135 [v] s=.ok (p3 v (hD l l.length)) s:=by rw[HU,Td,h.len];exact EQ G X s v l h e s.ag (.ag s) l.length (aC _)
theorem NQ{s S:ah}(e:Child s S){j:Nat}{l:List Nat}(h:hl S j l)(n:Nat)(cZ:n=l.length)(r:l.length<9223372036854775807):∃v,j5 v (gC l)∧(aQ aF G X).bj S (fun v s=>(aQ aF G X).aW false [some v] s) 135 [.cH (.g S.aa j) 0 n n 1]=.ok v s:=by
 subst cZ;have aV:=h.rd l.length l.length (aC _) (aC _);rw[List.take_length] at aV;rw[aZ (nl G X S _ l aV r)];have hle:=j3 l l.length;obtain⟨v,ar,aw⟩:=nR (S:=S) (j:=j) (off:=0) (cap:=l.length) (gC l) (n:=hD l l.length) (iM l).symm h (by rw[bY,iM];simp [gC,List.map_take]) (by rw[iM];simpa using hle)
 exact⟨v,aw,fT e _ _ ar⟩
theorem xN{s S:ah}(e:Child s S){j:Nat}{l:List Nat}(h:hl S j l)(n:Nat)(cZ:n=l.length)(r:l.length<9223372036854775807)(w:af)(hw:w.plain=true):∃v,j5 v (gC l)∧(aQ aF G X).bj S (fun v s=>(aQ aF G X).aW false [some v,some w] s) 135 [.cH (.g S.aa j) 0 n n 1]=.ok (.ed [v,w]) s:=by
 subst cZ;have aV:=h.rd l.length l.length (aC _) (aC _);rw[List.take_length] at aV;rw[aZ (nl G X S _ l aV r)];have hle:=j3 l l.length;obtain⟨v,ar,aw⟩:=nR (S:=S) (j:=j) (off:=0) (cap:=l.length) (gC l) (n:=hD l l.length) (iM l).symm h (by rw[bY,iM];simp [gC,List.map_take]) (by rw[iM];simpa using hle)
 exact⟨v,aw,k5 e _ _ _ _ ar (y9 hw)⟩
def qg(x y:Nat):Int:=if x<y then -1 else if y<x then 1 else 0
theorem ER(s:ah)(M N:af)(a b:List Nat)(O:mF s M a)(Y:mF s N b)(Z:dU a)(aa:dU b)(bU:a.length=b.length)(hp:a.length<9223372036854775807)(S:ah)(r:Child s S):∀n k,k+n=a.length→val (a.drop n)=val (b.drop n)→
  sE (aQ aF G X) M N (.int .i64 (a.length:Int)) (.int .i64 (k:Int)) S=.ok (.int .i64 (qg (val a) (val b))) s:=by
 intro n
 induction n with
 |zero=>
  intro k cK he;have h:¬((k:Int)<(a.length:Int)):=by omega
  rw[uG];simp -implicitDefEqProofs only[↓cG,↓cU,↓cb,↓bw,↓aH,↓aK,↓aD,↓aM,↓aS,↓aT,↓aE,↓aN,↓aI,↓aY,↓a3,↓bg,↓dC,↓ay,↓bH,↓ci,↓dc,↓cl,↓cm,↓cj,↓cn,↓co,↓cp,↓cq,↓cr,↓ct,↓bI,↓bJ,↓bK,↓dd,↓de,↓df,↓dg,↓dh,↓di,↓dj,↓dk,↓dl,↓cv,↓cw,↓cx,↓bO,↓cf,↓bl,↓c6,↓b8,↓cR,↓c4,↓dm,↓a4,↓aU,↓a5,↓aR,↓aG,↓a6,↓cX,↓cc,↓ck,↓cy,↓cz,↓cA,↓cB,↓cC,↓cD,↓cE,↓cF,↓dI,↓dJ,↓ds,↓dS,↓cM,↓cN,↓cV,↓dt,bY,dO,b9,decide_eq_false_iff_not,ite_not,↓reduceIte,be,aA,bi,bL,bh,bT,ca,Nat.reduceAdd,bz,↓bn,Nat.reduceLeDiff,aC,c2,c7,dP,dG,b5,eq_false h,DY];simp -implicitDefEqProofs only[bY] at he;rw[iU r,he];simp [qg]
 |succ n ab=>
  intro k cK he;have h:(k:Int)<(a.length:Int):=by omega
  have qJ:=fun(k:bd)=>(O.pA r.pA).get (T:=aF) (G:=G) (X:=X) .i64 n (by omega) k
  have y:=fun(k:bd)=>(Y.pA r.pA).get (T:=aF) (G:=G) (X:=X) .i64 n (by omega) k
  have A:=fun(S:ah) (k:bd)=>O.len (T:=aF) (G:=G) (X:=X) k S
  have F:=fun(S:ah) (k:bd)=>iK (T:=aF) (G:=G) (X:=X) (s:=S) (k:=k) a.length (by omega) (by omega)
  have u:=fun(S:ah) (l9:bd)=>lR (T:=aF) (G:=G) (X:=X) (s:=S) (k:=l9) (a.length-1) k (by omega) (by omega)
  have ac:=fun(S:ah) (l9:bd)=>ij (T:=aF) (G:=G) (X:=X) (s:=S) (k:=l9) k (by omega)
  have ad:a.length-1-k=n:=by omega
  simp -implicitDefEqProofs only[ad] at u;have H:=mT a n (by omega);have I:=mT b n (by omega);have U:=lG a n (by omega);have V:=lG b n (by omega);have ae:=ik (a.take n) (Z.take n);have ag:=ik (b.take n) (aa.take n);have ai:(a.take n).length=n:=by simp;omega
  have aj:(b.take n).length=n:=by simp;omega
  rw[ai] at ae;rw[aj] at ag;rw[uG];simp -implicitDefEqProofs only[↓cG,↓cU,↓cb,↓bw,↓aH,↓aK,↓aD,↓aM,↓aS,↓aT,↓aE,↓aN,↓aI,↓aY,↓a3,↓bg,↓dC,↓ay,↓bH,↓ci,↓dc,↓cl,↓cm,↓cj,↓cn,↓co,↓cp,↓cq,↓cr,↓ct,↓bI,↓bJ,↓bK,↓dd,↓de,↓df,↓dg,↓dh,↓di,↓dj,↓dk,↓dl,↓cv,↓cw,↓cx,↓bO,↓cf,↓bl,↓c6,↓b8,↓cR,↓c4,↓dm,↓a4,↓aU,↓a5,↓aR,↓aG,↓a6,↓cX,↓cc,↓ck,↓cy,↓cz,↓cA,↓cB,↓cC,↓cD,↓cE,↓cF,↓dI,↓dJ,↓ds,↓dS,↓cM,↓cN,↓cV,↓dt,bY,dO,b9,decide_eq_false_iff_not,ite_not,↓reduceIte,be,aA,bi,bL,bh,bT,ca,Nat.reduceAdd,bz,↓bn,Nat.reduceLeDiff,aC,c2,c7,dP,dG,b5,eq_true h];rw[DX];by_cases e:a.getD n 0=b.getD n 0
  ·have im:((a.getD n 0:Nat):Int)=((b.getD n 0:Nat):Int):=by omega
   simp -implicitDefEqProofs only[↓cG,↓cU,↓cb,↓bw,↓aH,↓aK,↓aD,↓aM,↓aS,↓aT,↓aE,↓aN,↓aI,↓aY,↓a3,↓bg,↓dC,↓ay,↓bH,↓ci,↓dc,↓cl,↓cm,↓cj,↓cn,↓co,↓cp,↓cq,↓cr,↓ct,↓bI,↓bJ,↓bK,↓dd,↓de,↓df,↓dg,↓dh,↓di,↓dj,↓dk,↓dl,↓cv,↓cw,↓cx,↓bO,↓cf,↓bl,↓c6,↓b8,↓cR,↓c4,↓dm,↓a4,↓aU,↓a5,↓aR,↓aG,↓a6,↓cX,↓cc,↓ck,↓cy,↓cz,↓cA,↓cB,↓cC,↓cD,↓cE,↓cF,↓dI,↓dJ,↓ds,↓dS,↓cM,↓cN,↓cV,↓dt,bY,dO,b9,decide_eq_false_iff_not,ite_not,↓reduceIte,be,aA,bi,bL,bh,bT,ca,Nat.reduceAdd,bz,↓bn,Nat.reduceLeDiff,aC,c2,c7,dP,dG,b5,↓A,↓F,↓u,↓qJ,↓y,im,not_true_eq_false];rw[DW,ac];exact ab (k+1) (by omega) (by rw[H,I,e,he])
  ·have im:¬((a.getD n 0:Nat):Int)=((b.getD n 0:Nat):Int):=by omega
   by_cases ak:a.getD n 0<b.getD n 0
   ·have J:((a.getD n 0:Nat):Int)<((b.getD n 0:Nat):Int):=by omega
    simp -implicitDefEqProofs only[↓cG,↓cU,↓cb,↓bw,↓aH,↓aK,↓aD,↓aM,↓aS,↓aT,↓aE,↓aN,↓aI,↓aY,↓a3,↓bg,↓dC,↓ay,↓bH,↓ci,↓dc,↓cl,↓cm,↓cj,↓cn,↓co,↓cp,↓cq,↓cr,↓ct,↓bI,↓bJ,↓bK,↓dd,↓de,↓df,↓dg,↓dh,↓di,↓dj,↓dk,↓dl,↓cv,↓cw,↓cx,↓bO,↓cf,↓bl,↓c6,↓b8,↓cR,↓c4,↓dm,↓a4,↓aU,↓a5,↓aR,↓aG,↓a6,↓cX,↓cc,↓ck,↓cy,↓cz,↓cA,↓cB,↓cC,↓cD,↓cE,↓cF,↓dI,↓dJ,↓ds,↓dS,↓cM,↓cN,↓cV,↓dt,bY,dO,b9,decide_eq_false_iff_not,ite_not,↓reduceIte,be,aA,bi,bL,bh,bT,ca,Nat.reduceAdd,bz,↓bn,Nat.reduceLeDiff,aC,c2,c7,dP,dG,b5,↓A,↓F,↓u,↓qJ,↓y,eq_false im,not_false_eq_true,eq_true J];rw[iU r]
    have:val a<val b:=by
     rw[U,V];have ar:val (a.drop n)+1≤val (b.drop n):=by rw[H,I,he];omega
     have aw:=Nat.mul_le_mul_left (B^n) ar;rw[fX,Nat.mul_one] at aw;omega
    simp [qg,this]
   ·have J:¬((a.getD n 0:Nat):Int)<((b.getD n 0:Nat):Int):=by omega
    simp -implicitDefEqProofs only[↓cG,↓cU,↓cb,↓bw,↓aH,↓aK,↓aD,↓aM,↓aS,↓aT,↓aE,↓aN,↓aI,↓aY,↓a3,↓bg,↓dC,↓ay,↓bH,↓ci,↓dc,↓cl,↓cm,↓cj,↓cn,↓co,↓cp,↓cq,↓cr,↓ct,↓bI,↓bJ,↓bK,↓dd,↓de,↓df,↓dg,↓dh,↓di,↓dj,↓dk,↓dl,↓cv,↓cw,↓cx,↓bO,↓cf,↓bl,↓c6,↓b8,↓cR,↓c4,↓dm,↓a4,↓aU,↓a5,↓aR,↓aG,↓a6,↓cX,↓cc,↓ck,↓cy,↓cz,↓cA,↓cB,↓cC,↓cD,↓cE,↓cF,↓dI,↓dJ,↓ds,↓dS,↓cM,↓cN,↓cV,↓dt,bY,dO,b9,decide_eq_false_iff_not,ite_not,↓reduceIte,be,aA,bi,bL,bh,bT,ca,Nat.reduceAdd,bz,↓bn,Nat.reduceLeDiff,aC,c2,c7,dP,dG,b5,↓A,↓F,↓u,↓qJ,↓y,eq_false im,not_false_eq_true,eq_false J,DV];rw[iU r]
    have:val b<val a:=by
     rw[U,V];have ar:val (b.drop n)+1≤val (a.drop n):=by rw[H,I,he];omega
     have aw:=Nat.mul_le_mul_left (B^n) ar;rw[fX,Nat.mul_one] at aw;omega
    simp [qg,this,Nat.not_lt.2 (Nat.le_of_lt this)]
theorem Tu(s:ah)(r u:af)(a b:List Nat)(B:mF s r a)(F:mF s u b)(H:dU a)(I:dU b)(J:fr a)(M:fr b)(hp:a.length<9223372036854775807)(O:b.length<9223372036854775807):
  aB aF G X 133 [r,u] s=.ok (.int .i64 (qg (val a) (val b))) s:=by
 rw[HS,Tb];have h:=fun(S:ah) (k:bd)=>B.len (T:=aF) (G:=G) (X:=X) k S
 have y:=fun(S:ah) (k:bd)=>F.len (T:=aF) (G:=G) (X:=X) k S
 by_cases e:a.length=b.length
 ·have im:(a.length:Int)=(b.length:Int):=by omega
  simp -implicitDefEqProofs only[↓cG,↓cU,↓cb,↓bw,↓aH,↓aK,↓aD,↓aM,↓aS,↓aT,↓aE,↓aN,↓aI,↓aY,↓a3,↓bg,↓dC,↓ay,↓bH,↓ci,↓dc,↓cl,↓cm,↓cj,↓cn,↓co,↓cp,↓cq,↓cr,↓ct,↓bI,↓bJ,↓bK,↓dd,↓de,↓df,↓dg,↓dh,↓di,↓dj,↓dk,↓dl,↓cv,↓cw,↓cx,↓bO,↓cf,↓bl,↓c6,↓b8,↓cR,↓c4,↓dm,↓a4,↓aU,↓a5,↓aR,↓aG,↓a6,↓cX,↓cc,↓ck,↓cy,↓cz,↓cA,↓cB,↓cC,↓cD,↓cE,↓cF,↓dI,↓dJ,↓ds,↓dS,↓cM,↓cN,↓cV,↓dt,bY,dO,b9,decide_eq_false_iff_not,ite_not,↓reduceIte,be,aA,bi,bL,bh,bT,ca,Nat.reduceAdd,bz,↓bn,Nat.reduceLeDiff,aC,c2,c7,dP,dG,b5,↓h,↓y,eq_true im,not_true_eq_false];rw[DZ,h];exact ER G X s r u a b B F H I e hp s.ag (.ag s) a.length 0 (by omega) (by rw[List.drop_length,e,List.drop_length])
 ·have im:¬(a.length:Int)=(b.length:Int):=by omega
  by_cases N:a.length<b.length
  ·have A:(a.length:Int)<(b.length:Int):=by omega
   have:=oH H M N;simp -implicitDefEqProofs only[↓cG,↓cU,↓cb,↓bw,↓aH,↓aK,↓aD,↓aM,↓aS,↓aT,↓aE,↓aN,↓aI,↓aY,↓a3,↓bg,↓dC,↓ay,↓bH,↓ci,↓dc,↓cl,↓cm,↓cj,↓cn,↓co,↓cp,↓cq,↓cr,↓ct,↓bI,↓bJ,↓bK,↓dd,↓de,↓df,↓dg,↓dh,↓di,↓dj,↓dk,↓dl,↓cv,↓cw,↓cx,↓bO,↓cf,↓bl,↓c6,↓b8,↓cR,↓c4,↓dm,↓a4,↓aU,↓a5,↓aR,↓aG,↓a6,↓cX,↓cc,↓ck,↓cy,↓cz,↓cA,↓cB,↓cC,↓cD,↓cE,↓cF,↓dI,↓dJ,↓ds,↓dS,↓cM,↓cN,↓cV,↓dt,bY,dO,b9,decide_eq_false_iff_not,ite_not,↓reduceIte,be,aA,bi,bL,bh,bT,ca,Nat.reduceAdd,bz,↓bn,Nat.reduceLeDiff,aC,c2,c7,dP,dG,b5,↓h,↓y,eq_false im,not_false_eq_true,eq_true A];simp [qg,this]
  ·have A:¬(a.length:Int)<(b.length:Int):=by omega
   have:=oH I J (by omega:b.length<a.length);simp -implicitDefEqProofs only[↓cG,↓cU,↓cb,↓bw,↓aH,↓aK,↓aD,↓aM,↓aS,↓aT,↓aE,↓aN,↓aI,↓aY,↓a3,↓bg,↓dC,↓ay,↓bH,↓ci,↓dc,↓cl,↓cm,↓cj,↓cn,↓co,↓cp,↓cq,↓cr,↓ct,↓bI,↓bJ,↓bK,↓dd,↓de,↓df,↓dg,↓dh,↓di,↓dj,↓dk,↓dl,↓cv,↓cw,↓cx,↓bO,↓cf,↓bl,↓c6,↓b8,↓cR,↓c4,↓dm,↓a4,↓aU,↓a5,↓aR,↓aG,↓a6,↓cX,↓cc,↓ck,↓cy,↓cz,↓cA,↓cB,↓cC,↓cD,↓cE,↓cF,↓dI,↓dJ,↓ds,↓dS,↓cM,↓cN,↓cV,↓dt,bY,dO,b9,decide_eq_false_iff_not,ite_not,↓reduceIte,be,aA,bi,bL,bh,bT,ca,Nat.reduceAdd,bz,↓bn,Nat.reduceLeDiff,aC,c2,c7,dP,dG,b5,↓h,↓y,eq_false im,not_false_eq_true,eq_false A,DU];simp [qg,this,Nat.not_lt.2 (Nat.le_of_lt this)]
def mc(x:Nat):Nat:=if x=0 then 0 else x.log2+1
theorem ahl:∀x,x<256→mc x≤8∧x<2^mc x∧(x≠0→2^mc x≤2*x):=by decide +kernel
theorem NR{s:ah}{k:bd}(fo:List Nat)(eG:IntKind)(i n:Nat)(h:fo[i]? =some n):(aQ aF G X).hS s k (.str fo) (.int eG (i:Int))=k (.int .u8 (n:Int)) s:=by show iB (gM G (aB aF G X) bR) s k (.str fo) (.int eG (i:Int))=_;unfold iB;simp -implicitDefEqProofs only[gW,h];rfl
theorem uY(s:ah)(x m:Nat)(a1:x<256)(hm:m≤24):∃n:Nat,qa (aQ aF G X) (.int .u32 (x:Int)) (.int .i64 (m:Int)) s.ag=.ok (.int .i64 ((m+n:Nat):Int)) s∧n≤8∧x<2^n∧(x≠0→2^n≤2*x):=by
 obtain⟨aw,bS⟩:=ahl x a1;refine⟨mc x,?_,aw,bS⟩;have e:∀(S:ah) (k:bd),(aQ aF G X).b6 S k .u8 (.int .u32 (x:Int))=k (.int .u8 (x:Int)) S:=fun S k=>by
  show k (.int .u8 (IntKind.wrap .u8 (x:Int))) S=_
  have:IntKind.wrap .u8 (x:Int)=(x:Int):=by unfold IntKind.wrap;simp -implicitDefEqProofs only[show IntKind.bits .u8=8 from rfl,show IntKind.signed .u8=false from rfl,gm];show(x:Int)%256=x;omega
  rw[this]
 have h:∀(S:ah) (k:bd),(aQ aF G X).b6 S k .i64 (.int .u8 (mc x:Int))=k (.int .i64 (mc x:Int)) S:=fun S k=>by show k (.int .i64 (IntKind.wrap .i64 (mc x:Int))) S=_;rw[e4 _ (by omega) (by omega)]
 have r:=fun(S:ah) (k:bd)=>iv (T:=aF) (G:=G) (X:=X) (s:=S) (k:=k) m (mc x) (by omega)
 rw[Em,e];refine(NR G X _ _ x (mc x) ?_).trans ?_
 ·clear r h e bS aw
  revert x
  decide +kernel
 ·rw[h,r,aR]
theorem Tv(s:ah)(x:Nat)(a1:x<4294967296):∃n:Nat,aB aF G X 111 [U x] s=.ok (.int .i64 (n:Int)) s∧n≤32∧x<2^n∧(x≠0→2^n≤2*x):=by
 rw[H0,Tj];have h:=fun(S:ah) (k:bd)=>wT (T:=aF) (G:=G) (X:=X) (s:=S) (k:=k) .u64 x 16 (by omega)
 have e:∀y m:Nat,y<65536→m≤16→∃n:Nat,oE (aQ aF G X) (.int .u32 (y:Int)) (.int .i64 (m:Int)) s.ag=.ok (.int .i64 ((m+n:Nat):Int)) s∧n≤16∧y<2^n∧(y≠0→2^n≤2*y):=fun y m ez hm=>by
  have r:=fun(S:ah) (k:bd)=>wT (T:=aF) (G:=G) (X:=X) (s:=S) (k:=k) .u64 y 8 (by omega)
  have u:=fun(S:ah) (k:bd)=>iv (T:=aF) (G:=G) (X:=X) (s:=S) (k:=k) m 8 (by omega)
  rw[En];by_cases c:256≤y
  ·have oK:(256:Int)≤(y:Int):=by omega
   obtain⟨n,ar,aw,bS,dB⟩:=uY G X s (y/2^8) (m+8) (by omega) (by omega);refine⟨n+8,?_,by omega,?_,fun eO=>?_⟩
   ·have dn:(aQ aF G X).aj s.ag (fun v10 s=>(aQ aF G X).aj s (fun NS s=>qa (aQ aF G X) v10 NS s) (al .add (.int .i64 (m:Int)) (.int .i64 8))) (al .shr (.int .u32 (y:Int)) (.int .u64 8))=.ok (.int .i64 ((m+(n+8):Nat):Int)) s:=by
     refine(r _ _).trans ?_;refine(u _ _).trans ?_;rw[ar];congr 3;omega
    simp -implicitDefEqProofs only[↓cG,↓cU,↓cb,↓bw,↓aH,↓aK,↓aD,↓aM,↓aS,↓aT,↓aE,↓aN,↓aI,↓aY,↓a3,↓bg,↓dC,↓ay,↓bH,↓ci,↓dc,↓cl,↓cm,↓cj,↓cn,↓co,↓cp,↓cq,↓cr,↓ct,↓bI,↓bJ,↓bK,↓dd,↓de,↓df,↓dg,↓dh,↓di,↓dj,↓dk,↓dl,↓cv,↓cw,↓cx,↓bO,↓cf,↓bl,↓c6,↓b8,↓cR,↓c4,↓dm,↓a4,↓aU,↓a5,↓aR,↓aG,↓a6,↓cX,↓cc,↓ck,↓cy,↓cz,↓cA,↓cB,↓cC,↓cD,↓cE,↓cF,↓dI,↓dJ,↓ds,↓dS,↓cM,↓cN,↓cV,↓dt,bY,dO,b9,decide_eq_false_iff_not,ite_not,↓reduceIte,be,aA,bi,bL,bh,bT,ca,Nat.reduceAdd,bz,↓bn,Nat.reduceLeDiff,aC,c2,c7,dP,dG,b5,eq_true oK,dn]
   ·rw[Nat.pow_add];omega
   ·rw[Nat.pow_add];omega
  ·have oK:¬(256:Int)≤(y:Int):=by omega
   obtain⟨n,ar,aw,bS,dB⟩:=uY G X s y m (by omega) (by omega);refine⟨n,?_,by omega,bS,dB⟩;simp -implicitDefEqProofs only[↓cG,↓cU,↓cb,↓bw,↓aH,↓aK,↓aD,↓aM,↓aS,↓aT,↓aE,↓aN,↓aI,↓aY,↓a3,↓bg,↓dC,↓ay,↓bH,↓ci,↓dc,↓cl,↓cm,↓cj,↓cn,↓co,↓cp,↓cq,↓cr,↓ct,↓bI,↓bJ,↓bK,↓dd,↓de,↓df,↓dg,↓dh,↓di,↓dj,↓dk,↓dl,↓cv,↓cw,↓cx,↓bO,↓cf,↓bl,↓c6,↓b8,↓cR,↓c4,↓dm,↓a4,↓aU,↓a5,↓aR,↓aG,↓a6,↓cX,↓cc,↓ck,↓cy,↓cz,↓cA,↓cB,↓cC,↓cD,↓cE,↓cF,↓dI,↓dJ,↓ds,↓dS,↓cM,↓cN,↓cV,↓dt,bY,dO,b9,decide_eq_false_iff_not,ite_not,↓reduceIte,be,aA,bi,bL,bh,bT,ca,Nat.reduceAdd,bz,↓bn,Nat.reduceLeDiff,aC,c2,c7,dP,dG,b5,eq_false oK,ar]
 by_cases c:65536≤x
 ·have oK:(65536:Int)≤(x:Int):=by omega
  obtain⟨n,ar,aw,bS,dB⟩:=e (x/2^16) 16 (by omega) (by omega);refine⟨16+n,?_,by omega,?_,fun eO=>?_⟩
  ·have dn:(aQ aF G X).aj s.ag (fun v6 s=>oE (aQ aF G X) v6 (.int .i64 16) s) (al .shr (.int .u32 (x:Int)) (.int .u64 16))=.ok (.int .i64 ((16+n:Nat):Int)) s:=by
    refine(h _ _).trans ?_;exact ar
   simp -implicitDefEqProofs only[↓cG,↓cU,↓cb,↓bw,↓aH,↓aK,↓aD,↓aM,↓aS,↓aT,↓aE,↓aN,↓aI,↓aY,↓a3,↓bg,↓dC,↓ay,↓bH,↓ci,↓dc,↓cl,↓cm,↓cj,↓cn,↓co,↓cp,↓cq,↓cr,↓ct,↓bI,↓bJ,↓bK,↓dd,↓de,↓df,↓dg,↓dh,↓di,↓dj,↓dk,↓dl,↓cv,↓cw,↓cx,↓bO,↓cf,↓bl,↓c6,↓b8,↓cR,↓c4,↓dm,↓a4,↓aU,↓a5,↓aR,↓aG,↓a6,↓cX,↓cc,↓ck,↓cy,↓cz,↓cA,↓cB,↓cC,↓cD,↓cE,↓cF,↓dI,↓dJ,↓ds,↓dS,↓cM,↓cN,↓cV,↓dt,bY,dO,b9,decide_eq_false_iff_not,ite_not,↓reduceIte,be,aA,bi,bL,bh,bT,ca,Nat.reduceAdd,bz,↓bn,Nat.reduceLeDiff,aC,c2,c7,dP,dG,b5,eq_true oK,dn]
   try rfl
  ·rw[Nat.pow_add];omega
  ·rw[Nat.pow_add];omega
 ·have oK:¬(65536:Int)≤(x:Int):=by omega
  obtain⟨n,ar,aw,bS,dB⟩:=e x 0 (by omega) (by omega);refine⟨n,?_,by omega,bS,dB⟩;rw[bh] at ar;have A:oE (aQ aF G X) (.int .u32 (x:Int)) (.int .i64 0) s.ag=.ok (.int .i64 (n:Int)) s:=ar;simp -implicitDefEqProofs only[↓cG,↓cU,↓cb,↓bw,↓aH,↓aK,↓aD,↓aM,↓aS,↓aT,↓aE,↓aN,↓aI,↓aY,↓a3,↓bg,↓dC,↓ay,↓bH,↓ci,↓dc,↓cl,↓cm,↓cj,↓cn,↓co,↓cp,↓cq,↓cr,↓ct,↓bI,↓bJ,↓bK,↓dd,↓de,↓df,↓dg,↓dh,↓di,↓dj,↓dk,↓dl,↓cv,↓cw,↓cx,↓bO,↓cf,↓bl,↓c6,↓b8,↓cR,↓c4,↓dm,↓a4,↓aU,↓a5,↓aR,↓aG,↓a6,↓cX,↓cc,↓ck,↓cy,↓cz,↓cA,↓cB,↓cC,↓cD,↓cE,↓cF,↓dI,↓dJ,↓ds,↓dS,↓cM,↓cN,↓cV,↓dt,bY,dO,b9,decide_eq_false_iff_not,ite_not,↓reduceIte,be,aA,bi,bL,bh,bT,ca,Nat.reduceAdd,bz,↓bn,Nat.reduceLeDiff,aC,c2,c7,dP,dG,b5,eq_false oK,A]
theorem Tw(s:ah)(x:Nat)(a1:x<4294967296)(eO:x≠0):∃c:Nat,aB aF G X 136 [U x] s=.ok (.int .i64 (c:Int)) s∧c<32∧2147483648≤x*2^c∧x*2^c<4294967296:=by
 obtain⟨n,ar,aw,bS,dB⟩:=Tv G X s.ag x a1;have h:=dB eO;have cZ:n≠0:=fun e=>by subst e;omega
 have u:2^n*2^(32-n)=4294967296:=by rw[←Nat.pow_add,show n+(32-n)=32 by omega]
 refine⟨32-n,?_,by omega,?_,?_⟩
 ·have r:=fun(S:ah) (k:bd)=>lR (T:=aF) (G:=G) (X:=X) (s:=S) (k:=k) 32 n aw (by omega)
  rw[HV,Te,aA,aZ ar];refine(r _ _).trans ?_;rw[aR]
 ·have:=gn (2^(32-n)) h;rw[hb] at this;omega
 ·have:=Nat.mul_lt_mul_of_pos_right bS (Nat.two_pow_pos (32-n));omega
theorem ES(s:ah)(u:af)(a:List Nat)(d:Nat)(y:mF s u a)(A:dU a)(cW:d≠0)(N:d<4294967296)(hp:a.length<9223372036854775807)(j:Nat):∀n k rest out S,k+n=a.length→Child s S→hl S j out→out.length=a.length→dU out→rest<d→val (a.drop n)=val (out.drop n)*d+rest→
  ∃v q,sG (aQ aF G X) u (.int .u32 (d:Int)) (.cH (.l j) 0 a.length a.length 1) (.int .u64 (rest:Int)) (.int .i64 (a.length:Int)) (.int .i64 (k:Int)) S=.ok (.ed [v,.int .u32 ((val a%d:Nat):Int)]) s∧j5 v q∧dU q∧fr q∧val q=val a/d:=by
 intro n
 induction n with
 |zero=>
  intro k rest out S cK e cL bU r aV bX;have h:¬((k:Int)<(a.length:Int)):=by omega
  have O:rest%4294967296=rest:=by omega
  rw[uH];simp -implicitDefEqProofs only[↓cG,↓cU,↓cb,↓bw,↓aH,↓aK,↓aD,↓aM,↓aS,↓aT,↓aE,↓aN,↓aI,↓aY,↓a3,↓bg,↓dC,↓ay,↓bH,↓ci,↓dc,↓cl,↓cm,↓cj,↓cn,↓co,↓cp,↓cq,↓cr,↓ct,↓bI,↓bJ,↓bK,↓dd,↓de,↓df,↓dg,↓dh,↓di,↓dj,↓dk,↓dl,↓cv,↓cw,↓cx,↓bO,↓cf,↓bl,↓c6,↓b8,↓cR,↓c4,↓dm,↓a4,↓aU,↓a5,↓aR,↓aG,↓a6,↓cX,↓cc,↓ck,↓cy,↓cz,↓cA,↓cB,↓cC,↓cD,↓cE,↓cF,↓dI,↓dJ,↓ds,↓dS,↓cM,↓cN,↓cV,↓dt,bY,dO,b9,decide_eq_false_iff_not,ite_not,↓reduceIte,be,aA,bi,bL,bh,bT,ca,Nat.reduceAdd,bz,↓bn,Nat.reduceLeDiff,aC,c2,c7,dP,dG,b5,eq_false h,D2,iY,O];obtain⟨v,f1,f2⟩:=xN G X e cL a.length bU.symm (by omega) (.int .u32 (rest:Int)) rfl;simp -implicitDefEqProofs only[bY] at bX;refine⟨v,gC out,?_,f1,l4 r,jM out,?_⟩
  ·rw[f2,bX,eM,Nat.mul_add_mod,hT aV]
  ·rw[kM,bX,eM,Nat.mul_add_div (by omega),Nat.div_eq_of_lt aV,Nat.add_zero]
 |succ n U=>
  intro k rest out S cK e cL bU r aV bX;have h:(k:Int)<(a.length:Int):=by omega
  obtain⟨B,F,H,I⟩:=EO a out n d rest cW (by omega) bU A r aV bX;have a1:=A.getD n;rw[lk] at B F H I a1;have qJ:=fun(k:bd)=>(y.pA e.pA).get (T:=aF) (G:=G) (X:=X) .i64 n (by omega) k
  have gE:=fun x (k:bd)=>cL.gE (T:=aF) (G:=G) (X:=X) n a.length a.length x (by omega) (by omega) k
  have V:=fun(S:ah) (k:bd)=>y.len (T:=aF) (G:=G) (X:=X) k S
  have Y:=fun(S:ah) (k:bd)=>iK (T:=aF) (G:=G) (X:=X) (s:=S) (k:=k) a.length (by omega) (by omega)
  have J:=fun(S:ah) (l9:bd)=>lR (T:=aF) (G:=G) (X:=X) (s:=S) (k:=l9) (a.length-1) k (by omega) (by omega)
  have Z:=fun(S:ah) (l9:bd)=>ij (T:=aF) (G:=G) (X:=X) (s:=S) (k:=l9) k (by omega)
  have aa:a.length-1-k=n:=by omega
  simp -implicitDefEqProofs only[aa] at J;have ab:rest*4294967296%18446744073709551616=rest*4294967296:=by omega
  have ac:=fun(S:ah) (k:bd)=>ii (T:=aF) (G:=G) (X:=X) (s:=S) (k:=k) (a.getD n 0) a1
  have M:=fun(S:ah) (k:bd)=>ii (T:=aF) (G:=G) (X:=X) (s:=S) (k:=k) d N
  have gH:=fun(S:ah) (k:bd)=>wU (T:=aF) (G:=G) (X:=X) (s:=S) (k:=k) rest (a.getD n 0) a1 (by omega)
  have d1:=fun(S:ah) (k:bd)=>I5 (T:=aF) (G:=G) (X:=X) (s:=S) (k:=k) (rest*4294967296+a.getD n 0) d cW (by omega)
  have d2:=fun(S:ah) (k:bd)=>AP (T:=aF) (G:=G) (X:=X) (s:=S) (k:=k) (rest*4294967296+a.getD n 0) d cW
  have em:(rest*4294967296+a.getD n 0)/d%4294967296=(rest*4294967296+a.getD n 0)/d:=hT B;rw[uH];simp -implicitDefEqProofs only[↓cG,↓cU,↓cb,↓bw,↓aH,↓aK,↓aD,↓aM,↓aS,↓aT,↓aE,↓aN,↓aI,↓aY,↓a3,↓bg,↓dC,↓ay,↓bH,↓ci,↓dc,↓cl,↓cm,↓cj,↓cn,↓co,↓cp,↓cq,↓cr,↓ct,↓bI,↓bJ,↓bK,↓dd,↓de,↓df,↓dg,↓dh,↓di,↓dj,↓dk,↓dl,↓cv,↓cw,↓cx,↓bO,↓cf,↓bl,↓c6,↓b8,↓cR,↓c4,↓dm,↓a4,↓aU,↓a5,↓aR,↓aG,↓a6,↓cX,↓cc,↓ck,↓cy,↓cz,↓cA,↓cB,↓cC,↓cD,↓cE,↓cF,↓dI,↓dJ,↓ds,↓dS,↓cM,↓cN,↓cV,↓dt,bY,dO,b9,decide_eq_false_iff_not,ite_not,↓reduceIte,be,aA,bi,bL,bh,bT,ca,Nat.reduceAdd,bz,↓bn,Nat.reduceLeDiff,aC,c2,c7,dP,dG,b5,eq_true h];rw[D1,V,Y,J,cM,ab,qJ,ac,gH,M,d1,dt,em];simp -implicitDefEqProofs only[aA];rw[gE,M,d2,D0,Z];exact U (k+1) _ _ _ (by omega) (e.put _ _) (cL.put _) (by simp [bU]) F H I
theorem Tx(s:ah)(e:af)(a:List Nat)(d:Nat)(r:mF s e a)(y:dU a)(cW:d≠0)(A:d<4294967296)(hp:a.length<4294967296):
  ∃v q,aB aF G X 134 [e,U d] s=.ok (.ed [v,.int .u32 ((val a%d:Nat):Int)]) s∧j5 v q∧dU q∧fr q∧val q=val a/d:=by
 rw[HT,Tc];have u:=fun(S:ah) (k:bd)=>r.len (T:=aF) (G:=G) (X:=X) k S
 have B:=fun(S:ah) (k:bd)=>o5 (T:=aF) (G:=G) (X:=X) (s:=S) (k:=k) (U 0) 4 a.length a.length (aC _) (by omega)
 rw[u];refine Exists.imp (fun v h=>Exists.imp (fun q h=>?_) h) (ES G X s e a d r y cW A (by omega) _ a.length 0 0 _ _ (by omega) ((Child.ag s).new (.cells (List.replicate a.length (U 0)))) (hl.make _ _) (by simp) (qf _) (by omega) (by rw[List.drop_length,lm (by simp)];simp [val]));refine⟨?_,h.2⟩;refine(B _ _).trans ?_;rw[u];exact h.1
theorem Ty(a b:Nat)(e:a<4294967296)(h:b<4294967296):((BitVec.ofInt 32 (a:Int) ||| BitVec.ofInt 32 (b:Int)).toNat:Int)=((a ||| b:Nat):Int):=by
 rw[BitVec.toNat_or];simp -implicitDefEqProofs only[BitVec.toNat_ofInt];congr 1;have ar:(((a:Int)%((2^32:Nat):Int))).toNat=a:=by omega
 have aw:(((b:Int)%((2^32:Nat):Int))).toNat=b:=by omega
 rw[ar,aw]
theorem aak{s:ah}{k:bd}(c y q p:Nat)(a0:c<2^p)(ez:y=q*2^p)(fz:q*2^p+c<4294967296):(aQ aF G X).aj s k (al .or (.int .u32 (c:Int)) (.int .u32 (y:Int)))=k (.int .u32 ((c+y:Nat):Int)) s:=by
 subst ez;have e:al .or (.int .u32 (c:Int)) (.int .u32 ((q*2^p:Nat):Int))=some (.int .u32 (IntKind.wrap .u32 ((BitVec.ofInt 32 (c:Int) ||| BitVec.ofInt 32 ((q*2^p:Nat):Int)).toNat:Int))):=by simp -implicitDefEqProofs only[al,gS,↓reduceIte];rfl
 rw[e,Ty _ _ (by omega) (by omega),cU,wrap_u32];congr 2
 have:c ||| q*2^p=c+q*2^p:=by rw[Nat.or_comm,eM,←Nat.two_pow_add_eq_or_of_lt a0,Nat.add_comm]
 rw[this];omega
theorem ET(s:ah)(F:af)(l:List Nat)(n:Nat)(U:mF s F l)(u:dU l)(cZ:n<4294967296)(hp:l.length<4294967296)(j N:Nat)(nz:N=l.length+n/32+1):∀m i out S,i+m=l.length→Child s S→hl S j out→out.length=N→dU out→val (out.take (i+n/32+1))=val (l.take i)*2^(32*(n/32)+n%32)→out.getD (i+n/32) 0<2^(n%32)→
  ∃v q,sK (aQ aF G X) F (.int .i64 (n:Int)) (.cH (.l j) 0 N N 1) (.int .i64 (l.length:Int)) (.int .i64 (i:Int)) S=.ok v s∧j5 v q∧dU q∧fr q∧val q=val l*2^n:=by
 intro m
 induction m with
 |zero=>
  intro i out S bZ r cL bU A bX a0;have h:¬((i:Int)<(l.length:Int)):=by omega
  rw[uJ];simp -implicitDefEqProofs only[↓cG,↓cU,↓cb,↓bw,↓aH,↓aK,↓aD,↓aM,↓aS,↓aT,↓aE,↓aN,↓aI,↓aY,↓a3,↓bg,↓dC,↓ay,↓bH,↓ci,↓dc,↓cl,↓cm,↓cj,↓cn,↓co,↓cp,↓cq,↓cr,↓ct,↓bI,↓bJ,↓bK,↓dd,↓de,↓df,↓dg,↓dh,↓di,↓dj,↓dk,↓dl,↓cv,↓cw,↓cx,↓bO,↓cf,↓bl,↓c6,↓b8,↓cR,↓c4,↓dm,↓a4,↓aU,↓a5,↓aR,↓aG,↓a6,↓cX,↓cc,↓ck,↓cy,↓cz,↓cA,↓cB,↓cC,↓cD,↓cE,↓cF,↓dI,↓dJ,↓ds,↓dS,↓cM,↓cN,↓cV,↓dt,bY,dO,b9,decide_eq_false_iff_not,ite_not,↓reduceIte,be,aA,bi,bL,bh,bT,ca,Nat.reduceAdd,bz,↓bn,Nat.reduceLeDiff,aC,c2,c7,dP,dG,b5,eq_false h,D7,iY];obtain⟨v,f1,f2⟩:=NQ G X r cL N bU.symm (by omega);refine⟨v,gC out,f2,f1,l4 A,jM out,?_⟩;have dn:i=l.length:=by omega
  rw[dn] at bX;rw[kM,←List.take_length (l:=out),bU,nz,bX,List.take_length,Nat.div_add_mod]
 |succ m V=>
  intro i out S bZ r cL bU A bX a0;have h:(i:Int)<(l.length:Int):=by omega
  have aV:n%32<32:=Nat.mod_lt _ (by omega);obtain⟨q,H,Y⟩:=zL (l.getD i 0) (n%32) aV;have I:=zM (l.getD i 0) (n%32) (u.getD i) aV;have e:=Ic l out i (n/32) (n%32) aV (by omega) (by omega) A u bX a0 _ rfl _ rfl;simp -implicitDefEqProofs only[] at e;have a1:=u.getD i;have Z:B=4294967296:=rfl;have ak:2^(n%32)≤2^32:=Nat.pow_le_pow_right (by omega) (by omega);rw[Z] at H Y I e a1;generalize aa:l.getD i 0=x at *;have qJ:=fun(k:bd)=>(U.pA r.pA).get (T:=aF) (G:=G) (X:=X) .i64 i (by omega) k
  rw[aa] at qJ;have ab:=fun(S:ah) (k:bd)=>ii (T:=aF) (G:=G) (X:=X) (s:=S) (k:=k) x a1
  have px:=fun(S:ah) (k:bd)=>tN (T:=aF) (G:=G) (X:=X) (s:=S) (k:=k) n
  have J:=fun(S:ah) (k:bd)=>tM (T:=aF) (G:=G) (X:=X) (s:=S) (k:=k) n (by omega)
  have s1:=fun(S:ah) (k:bd)=>AQ (T:=aF) (G:=G) (X:=X) (s:=S) (k:=k) .i64 x (n%32) (by omega)
  have es:x*2^(n%32)%18446744073709551616=x*2^(n%32):=hT I.2;have M:=fun(S:ah) (k:bd)=>iv (T:=aF) (G:=G) (X:=X) (s:=S) (k:=k) i (n/32) (by omega)
  have ac:=fun S k=>nD G X S k (i+n/32) (by omega)
  have ad:=fun S k=>nD G X S k i (by omega)
  have gZ:=fun(k:bd)=>cL.get (T:=aF) (G:=G) (X:=X) (i+n/32) N N (by omega) (by omega) k
  have gH:=fun(S:ah) (k:bd)=>aak G X (s:=S) (k:=k) (out.getD (i+n/32) 0) (x*2^(n%32)%4294967296) q (n%32) a0 H (by omega)
  have ae:=fun y (k:bd)=>cL.gE (T:=aF) (G:=G) (X:=X) (i+n/32) N N y (by omega) (by omega) k
  have O:=cL.put (out.set (i+n/32) (out.getD (i+n/32) 0+x*2^(n%32)%4294967296));have ag:=fun y (k:bd)=>O.gE (T:=aF) (G:=G) (X:=X) (i+n/32+1) N N y (by simp;omega) (by omega) k
  have ai:x*2^(n%32)/4294967296%4294967296=x*2^(n%32)/4294967296:=hT (by omega);have aj:=O.put ((out.set (i+n/32) (out.getD (i+n/32) 0+x*2^(n%32)%4294967296)).set (i+n/32+1) (x*2^(n%32)/4294967296))
  have:=V (i+1) _ _ (by omega) ((r.put _ _).put _ _) aj (by simp [bU]) e.1 e.2.2.1 e.2.2.2;refine Exists.imp (fun v aw=>Exists.imp (fun q bS=>⟨?_,bS.2⟩) aw) this;rw[uJ];simp -implicitDefEqProofs only[↓cG,↓cU,↓cb,↓bw,↓aH,↓aK,↓aD,↓aM,↓aS,↓aT,↓aE,↓aN,↓aI,↓aY,↓a3,↓bg,↓dC,↓ay,↓bH,↓ci,↓dc,↓cl,↓cm,↓cj,↓cn,↓co,↓cp,↓cq,↓cr,↓ct,↓bI,↓bJ,↓bK,↓dd,↓de,↓df,↓dg,↓dh,↓di,↓dj,↓dk,↓dl,↓cv,↓cw,↓cx,↓bO,↓cf,↓bl,↓c6,↓b8,↓cR,↓c4,↓dm,↓a4,↓aU,↓a5,↓aR,↓aG,↓a6,↓cX,↓cc,↓ck,↓cy,↓cz,↓cA,↓cB,↓cC,↓cD,↓cE,↓cF,↓dI,↓dJ,↓ds,↓dS,↓cM,↓cN,↓cV,↓dt,bY,dO,b9,decide_eq_false_iff_not,ite_not,↓reduceIte,be,aA,bi,bL,bh,bT,ca,Nat.reduceAdd,bz,↓bn,Nat.reduceLeDiff,aC,c2,c7,dP,dG,b5,eq_true h];rw[D6,qJ,ab,px,s1,es,J,M,gZ,dt,gH];simp -implicitDefEqProofs only[aA];rw[ae,J,M,ac,cN,dt,ai];simp -implicitDefEqProofs only[aA];rw[ag,D5,ad];exact bS.1
theorem EU(s:ah)(e:af)(l:List Nat)(n:Nat)(h:mF s e l)(u:dU l)(cZ:n<4294967296)(hp:l.length<4294967296):
  ∃v q,aB aF G X 137 [e,.int .i64 (n:Int)] s=.ok v s∧j5 v q∧dU q∧fr q∧val q=val l*2^n:=by
 rw[HW,Tf];have r:=fun(S:ah) (k:bd)=>h.len (T:=aF) (G:=G) (X:=X) k S
 have y:=fun(S:ah) (k:bd)=>tM (T:=aF) (G:=G) (X:=X) (s:=S) (k:=k) n (by omega)
 have A:=fun(S:ah) (k:bd)=>iv (T:=aF) (G:=G) (X:=X) (s:=S) (k:=k) l.length (n/32) (by omega)
 have B:=fun S k=>nD G X S k (l.length+n/32) (by omega)
 have F:=fun(S:ah) (k:bd)=>o5 (T:=aF) (G:=G) (X:=X) (s:=S) (k:=k) (U 0) 4 (l.length+n/32+1) (l.length+n/32+1) (aC _) (by omega)
 have H:∀m i,(List.replicate m 0).getD i 0=0:=fun m i=>by simp -implicitDefEqProofs only[List.getD,List.getElem?_replicate];split<;> rfl
 have I:=ET G X s e l n h u cZ hp s.ag.own.length _ rfl l.length 0 _ _ (by omega) ((Child.ag s).new (.cells (List.replicate (l.length+n/32+1) (U 0)))) (hl.make _ _) (by simp) (qf _) (by rw[List.take_replicate,EN];simp [val]) (by rw[H];exact Nat.two_pow_pos _);refine Exists.imp (fun v aw=>Exists.imp (fun q bS=>⟨?_,bS.2⟩) aw) I;rw[r,y,A,B];refine(F _ _).trans ?_;rw[r];exact bS.1
end Go.gF
end
section
namespace Go.hV
def lH(a b:Nat):Nat:=(((a:Int)-(b:Int))%18446744073709551616).toNat
theorem zN(u p c:Nat)(hu:u<4294967296)(fS:p<4294967296)(a0:c≤4294967296)(e:p+c≤4294967296):lH (lH u p) c%4294967296+p+c=u+4294967296*(lH (lH u p) c/9223372036854775808)∧lH (lH u p) c/9223372036854775808≤1:=by unfold lH;omega
theorem xO(l:List Nat)(j i:Nat):(l.drop j).getD i 0=l.getD (j+i) 0:=by simp [List.getD,List.getElem?_drop]
def fk(l:List Nat)(j i:Nat):Nat:=val ((l.drop j).take i)
theorem zO(l:List Nat)(j:Nat):fk l j 0=0:=by simp [fk,val]
theorem gx(l:List Nat)(j i:Nat)(h:j+i<l.length):fk l j (i+1)=fk l j i+B^i*l.getD (j+i) 0:=by unfold fk;rw[val_succ _ i (by simp;omega),xO]
theorem td(l:List Nat)(j i k x:Nat)(h:j+i≤k):fk (l.set k x) j i=fk l j i:=by
 unfold fk;rw[List.drop_set];split
 ·rfl
 ·rw[mI (by omega)]
theorem BR(vs:List Nat)(i:Nat):fk vs 0 i=val (vs.take i):=by simp [fk]
theorem te(l:List Nat)(j n:Nat)(h:j+n≤l.length):val (l.drop j)=fk l j n+B^n*val (l.drop (j+n)):=by have:=lG (l.drop j) n (by simp;omega);rw[this,List.drop_drop];rfl
theorem tf(l:List Nat)(j i:Nat)(h:dU l):fk l j i<B^i:=by
 have:=ik ((l.drop j).take i) ((h.drop j).take i);have aw:((l.drop j).take i).length≤i:=by simp;omega
 exact gy this (pe aw)
theorem Ie(du g8 vs:List Nat)(j i q carry e:Nat)(fz:q<B)(bZ:i<vs.length)(cL:j+i<du.length)(me:dU vs)(A:dU du)(a0:carry<B)(J:e≤1)(H:du.getD (j+i) 0=g8.getD (j+i) 0)(bU:du.length=g8.length)
  (bX:fk du j i+q*fk vs 0 i=fk g8 j i+(carry+e)*B^i):
  let p:=q*vs.getD i 0+carry
  let t:=lH (lH (du.getD (j+i) 0) (p%B)) e
  p<18446744073709551616∧p/B<B∧t/9223372036854775808≤1∧t%B<B∧dU (du.set (j+i) (t%B))∧fk (du.set (j+i) (t%B)) j (i+1)+q*fk vs 0 (i+1)=fk g8 j (i+1)+(p/B+t/9223372036854775808)*B^(i+1):=by
 have M:=me.getD i;have fS:q*vs.getD i 0+carry<B*B:=by
  have ar:q*vs.getD i 0≤(B-1)*(B-1):=Nat.mul_le_mul (by omega) (by omega);have aw:(B-1)*(B-1)+B≤B*B:=by decide
  omega
 have N:B*B=18446744073709551616:=by decide
 have cW:=zN (du.getD (j+i) 0) ((q*vs.getD i 0+carry)%B) e (A.getD _) (Nat.mod_lt _ hC) (by have:=lk;omega) (by have:=Nat.mod_lt (q*vs.getD i 0+carry) hC;rw[lk] at this ⊢;omega);have F:lH (lH (du.getD (j+i) 0) ((q*vs.getD i 0+carry)%B)) e%B<B:=Nat.mod_lt _ hC;refine⟨by omega,by rw[Nat.div_lt_iff_lt_mul hC];exact fS,cW.2,F,A.set _ _ F,?_⟩;rw[gx _ _ _ (by simpa using cL),td _ _ _ _ _ (aC _),gj cL,gx vs 0 i (by omega),gx g8 j i (by omega),bh,←H];have hm:=Nat.mod_add_div (q*vs.getD i 0+carry) B;rw[←lk] at cW;generalize lH (lH (du.getD (j+i) 0) ((q*vs.getD i 0+carry)%B)) e=t at *;generalize t/9223372036854775808=h at *;generalize t%B=y at *;generalize O:(q*vs.getD i 0+carry)%B=pl at *;generalize (q*vs.getD i 0+carry)/B=r at *;generalize du.getD (j+i) 0=u at *;have key:y+q*vs.getD i 0+carry+e=u+(r+h)*B:=by rw[fq,eM r B,eM h B];omega
 have pz:B^i*(y+q*vs.getD i 0+carry+e)=B^i*(u+(r+h)*B):=by rw[key]
 have dn:B^i*(y+q*vs.getD i 0+carry+e)=B^i*y+q*(B^i*vs.getD i 0)+(carry+e)*B^i:=by rw[show y+q*vs.getD i 0+carry+e=y+(q*vs.getD i 0+(carry+e)) from by omega,fX,fX,Nat.mul_left_comm,eM (B^i) (carry+e)];omega
 have I:B^i*(u+(r+h)*B)=B^i*u+(r+h)*B^(i+1):=by rw[fX,Nat.pow_succ,Nat.mul_left_comm]
 rw[dn,I] at pz;rw[fX];generalize (r+h)*B^(i+1)=U at *;generalize (carry+e)*B^i=V at *;generalize q*(B^i*vs.getD i 0)=Y at *;generalize q*fk vs 0 i=Z at *;omega
theorem If(du g8 vs:List Nat)(j i carry:Nat)(bZ:i<vs.length)(cL:j+i<du.length)(me:dU vs)(h:dU du)(a0:carry≤1)(r:du.getD (j+i) 0=g8.getD (j+i) 0)(bU:du.length=g8.length)
  (bX:fk du j i+carry*B^i=fk g8 j i+fk vs 0 i):
  let t:=du.getD (j+i) 0+vs.getD i 0+carry
  t<18446744073709551616∧t/B≤1∧dU (du.set (j+i) (t%B))∧fk (du.set (j+i) (t%B)) j (i+1)+t/B*B^(i+1)=fk g8 j (i+1)+fk vs 0 (i+1):=by
 have H:=me.getD i;have I:=h.getD (j+i);have J:=lk;have A:(du.getD (j+i) 0+vs.getD i 0+carry)%B<B:=Nat.mod_lt _ hC;refine⟨by omega,?_,h.set _ _ A,?_⟩
 ·have:(du.getD (j+i) 0+vs.getD i 0+carry)/B<2:=by rw[Nat.div_lt_iff_lt_mul hC];omega
  omega
 rw[gx _ _ _ (by simpa using cL),td _ _ _ _ _ (aC _),gj cL,gx vs 0 i (by omega),gx g8 j i (by omega),bh,←r];have hm:=Nat.mod_add_div (du.getD (j+i) 0+vs.getD i 0+carry) B;generalize (du.getD (j+i) 0+vs.getD i 0+carry)%B=y at *;generalize (du.getD (j+i) 0+vs.getD i 0+carry)/B=e at *;generalize du.getD (j+i) 0=u at *;generalize vs.getD i 0=v at *;have pz:B^i*(y+B*e)=B^i*(u+v+carry):=by rw[hm]
 have dn:B^i*(y+B*e)=B^i*y+e*B^(i+1):=by rw[fX,Nat.pow_succ,eM e,hb]
 have F:B^i*(u+v+carry)=B^i*u+B^i*v+carry*B^i:=by rw[fX,fX,eM carry]
 rw[dn,F] at pz;generalize e*B^(i+1)=M at *;generalize carry*B^i=N at *;omega
theorem EV(U V q n I h r u y v1 v2:Nat)(Z:U=(r*B*B+u*B+y)*B^n+I)(A:V=(v1*B+v2)*B^n+h)(aa:I<B^n)(J:h<B^n)(ab:B≤2*v1)(fz:q<B)(ar:q*(v1*B+v2)≤r*B*B+u*B+y)(aw:∀re,re<B→re*(v1*B+v2)≤r*B*B+u*B+y→re≤q)(M:U<B*V):
  U/V≤q∧q≤U/V+1:=by
 have F:0<V:=by
  have:1≤v1:=by have:=hC;omega
  have bS:1*B≤v1*B:=gn _ this;have dB:1*B^n≤(v1*B+v2)*B^n:=gn _ (by have:=hC;omega)
  have:=Nat.pow_pos (n:=n) hC;omega
 constructor
 ·refine aw _ (by rw[Nat.div_lt_iff_lt_mul F];exact M) ?_;have bS:U/V*V≤U:=Nat.div_mul_le_self U V;have dB:U/V*(v1*B+v2)*B^n≤U/V*V:=by
   rw[hb];exact Nat.mul_le_mul_left _ (by omega)
  have H:U/V*(v1*B+v2)*B^n<(r*B*B+u*B+y+1)*B^n:=by rw[fq _ 1,Nat.one_mul];omega
  have:=Nat.lt_of_mul_lt_mul_right H;omega
 ·have bS:q*V≤U+V:=by
   rw[A,fX,←hb];have dB:q*(v1*B+v2)*B^n≤(r*B*B+u*B+y)*B^n:=gn _ ar;have H:q*h≤B*B^n:=Nat.mul_le_mul (Nat.le_of_lt fz) (Nat.le_of_lt J);have N:B*B^n≤(v1*B+v2)*B^n:=by
    refine gn _ ?_
    have:1*B≤v1*B:=gn _ (by have:=hC;omega);omega
   omega
  have ac:q*V≤(U/V+1)*V+V:=by have:=Nat.div_add_mod U V;have O:=Nat.mod_lt U F;rw[fq,Nat.one_mul,eM (U/V)];omega
  have Y:q*V<(U/V+2)*V:=by
   rw[A,fX,←hb];have dB:q*(v1*B+v2)*B^n≤(r*B*B+u*B+y)*B^n:=gn _ ar;have H:q*h≤B*h:=gn _ (Nat.le_of_lt fz);have ad:B*h<B*B^n:=Nat.mul_lt_mul_of_pos_left J hC;have N:B*B^n≤(v1*B+v2)*B^n:=by
    refine gn _ ?_
    have:1*B≤v1*B:=gn _ (by have:=hC;omega);omega
   have ae:q*(v1*B+v2)*B^n+q*h<U+V:=by omega
   have af:=Nat.div_add_mod U V;have O:=Nat.mod_lt U F;rw[←A];have e:(U/V+2)*V=V*(U/V)+V+V:=by rw[fq,eM (U/V)];omega
   rw[e];omega
  have:=Nat.lt_of_mul_lt_mul_right Y;omega
end Go.hV
namespace Go.hV
theorem NT(n w x R:Nat)(h:w+B^n*x=B^(n+1)+R)(hw:w<B^n)(e:R<B^n):x=B∧w=R:=by
 rw[Nat.pow_succ] at h;have a1:x=B:=by
  have ar:(w+B^n*x)/B^n=x:=by rw[Nat.add_mul_div_left _ _ (Nat.pow_pos hC),Nat.div_eq_of_lt hw,bh]
  have aw:(B^n*B+R)/B^n=B:=by rw[Nat.add_comm,Nat.add_mul_div_left _ _ (Nat.pow_pos hC),Nat.div_eq_of_lt e,bh]
  rw[←ar,h,aw]
 subst a1;exact⟨rfl,by omega⟩
theorem tg(vs:List Nat):val vs=fk vs 0 vs.length:=by rw[BR,List.take_length]
theorem EW(x y r:Nat)(aV:r<32)(a1:x<B):x%2^r+(x+B*y)/2^r%B*2^r=x+B*(y%2^r):=by
 have h:=Nat.two_pow_pos r;have e:B=2^r*2^(32-r):=by rw[←Nat.pow_add,uX];congr 1;omega
 generalize H:(2:Nat)^(32-r)=Q at *;generalize (2:Nat)^r=P at *;have dn:(x+B*y)/P=x/P+Q*y:=by rw[e,hb,Nat.add_mul_div_left _ _ h]
 have I:x/P<Q:=by rw[Nat.div_lt_iff_lt_mul h,eM,←e];exact a1
 have u:Q*y=B*(y/P)+Q*(y%P):=by
  conv=>lhs;rw[←Nat.div_add_mod y P]
  rw[fX,e,←hb,eM Q P]
 have A:x/P+Q*(y%P)<B:=by have ar:y%P+1≤P:=Nat.mod_lt _ h;have aw:=Nat.mul_le_mul_left Q ar;rw[fX,Nat.mul_one,eM Q P,←e] at aw;omega
 have F:(x+B*y)/P%B=x/P+Q*(y%P):=by rw[dn,u,show x/P+(B*(y/P)+Q*(y%P))=x/P+Q*(y%P)+B*(y/P) by omega,Nat.add_mul_mod_self_left,hT A]
 rw[F,fq,e];have dB:=Nat.mod_add_div x P;have J:Q*(y%P)*P=P*Q*(y%P):=by rw[eM,←hb]
 have M:x/P*P=P*(x/P):=eM _ _;omega
theorem EX(l out:List Nat)(w i r:Nat)(aV:r<32)(e:dU l)(h:dU out)(bZ:i<out.length)(bU:w+i<l.length)(bX:val (out.take i)*2^r+l.getD w 0%2^r=val ((l.drop w).take i)+B^i*(l.getD (w+i) 0%2^r)):
  dU (out.set i ((l.getD (w+i) 0+B*l.getD (w+i+1) 0)/2^r%B))∧val ((out.set i ((l.getD (w+i) 0+B*l.getD (w+i+1) 0)/2^r%B)).take (i+1))*2^r+l.getD w 0%2^r=val ((l.drop w).take (i+1))+B^(i+1)*(l.getD (w+(i+1)) 0%2^r):=by
 refine⟨h.set _ _ (Nat.mod_lt _ hC),?_⟩;have ar:=EW (l.getD (w+i) 0) (l.getD (w+i+1) 0) r aV (e.getD _);generalize ez:(l.getD (w+i) 0+B*l.getD (w+i+1) 0)/2^r%B=y at *;have s1:=val_succ (out.set i y) i (by simpa using bZ);have s2:=val_succ (l.drop w) i (by simp;omega);have gZ:(out.set i y).getD i 0=y:=gj bZ;rw[xO] at s2;rw[s1,s2,gZ,mI (aC _),fq,Nat.pow_succ,←Nat.add_assoc w i 1];have aw:B^i*(l.getD (w+i) 0%2^r+y*2^r)=B^i*(l.getD (w+i) 0+B*(l.getD (w+i+1) 0%2^r)):=by rw[ar]
 rw[fX,fX,←hb,←hb] at aw;omega
theorem zP(l:List Nat)(w:Nat)(e:dU l)(h:w≤l.length):val l/B^w=val (l.drop w):=by
 have ar:=lG l w h;have bS:=ik (l.take w) (e.take _);have dB:(l.take w).length=w:=by simp;omega
 rw[dB] at bS;rw[ar,Nat.add_mul_div_left _ _ (Nat.pow_pos hC),Nat.div_eq_of_lt bS,bh]
theorem Ig(l out:List Nat)(w r n:Nat)(cZ:n=32*w+r)(e:dU l)(hw:w<l.length)(bX:val out*2^r+l.getD w 0%2^r=val (l.drop w)):val out=val l/2^n:=by rw[cZ,←Ib,←Nat.div_div_eq_div_mul,zP l w e (by omega),←bX,eM,Nat.mul_add_div (Nat.two_pow_pos _),Nat.div_eq_of_lt (Nat.mod_lt _ (Nat.two_pow_pos _)),Nat.add_zero]
theorem EY(l:List Nat)(n:Nat)(e:dU l)(h:l.length≤n/32):val l/2^n=0:=by
 apply Nat.div_eq_of_lt;have ar:=ik l e;have aw:B^l.length≤B^(n/32):=pe h;have bS:(2:Nat)^n=B^(n/32)*2^(n%32):=by rw[Ib,Nat.div_add_mod]
 have dB:B^(n/32)*1≤B^(n/32)*2^(n%32):=Nat.mul_le_mul_left _ (Nat.two_pow_pos _);omega
end Go.hV
end
section
namespace Go.gF
open Go.Ab Go.hV
variable(G:Nat→af)(X:Nat→List af→ah→ai)
theorem Tz{s:ah}{k:bd}(c q:Nat)(a0:c<4294967296)(fz:q<4294967296):(aQ aF G X).aj s k (al .or (.int .u64 (c:Int)) (.int .u64 ((q*4294967296:Nat):Int)))=k (.int .u64 ((c+4294967296*q:Nat):Int)) s:=by
 have e:al .or (.int .u64 (c:Int)) (.int .u64 ((q*4294967296:Nat):Int))=some (.int .u64 (IntKind.wrap .u64 ((BitVec.ofInt 64 (c:Int) ||| BitVec.ofInt 64 ((q*4294967296:Nat):Int)).toNat:Int))):=by simp -implicitDefEqProofs only[al,gS,↓reduceIte];rfl
 rw[e,F7 _ _ (by omega) (by omega),cU,ji];congr 2
 have:c ||| q*4294967296=c+4294967296*q:=by have h:=Nat.two_pow_add_eq_or_of_lt (i:=32) (b:=c) (by omega) q;rw[Nat.or_comm,eM];rw[show(4294967296:Nat)=2^32 from rfl,←h,Nat.add_comm]
 rw[this];omega
theorem Ih(eG:IntKind)(a b:Int):∃c,∀(s:ah) (k:bd),(aQ aF G X).aj s k (al .and (.int eG a) (.int eG b))=k (.int eG c) s:=by refine⟨eG.wrap (BitVec.ofInt eG.bits a &&& BitVec.ofInt eG.bits b).toNat,fun s k=>?_⟩;rw[show al .and (.int eG a) (.int eG b)=some (.int eG (eG.wrap (BitVec.ofInt eG.bits a &&& BitVec.ofInt eG.bits b).toNat)) from by simp [al,gS]];rfl
theorem EZ(s:ah)(A:af)(l:List Nat)(n:Nat)(lost:Bool)(F:mF s A l)(r:dU l)(cZ:n<4294967296)(hp:l.length<4294967296)(ba:n/32<l.length)(j N:Nat)(nz:N=l.length-n/32):∀m i out S,i+m=N→Child s S→hl S j out→out.length=N→dU out→
  val (out.take i)*2^(n%32)+l.getD (n/32) 0%2^(n%32)=val ((l.drop (n/32)).take i)+B^i*(l.getD (n/32+i) 0%2^(n%32))→
  ∃v q,p9 (aQ aF G X) A (.int .i64 (n:Int)) (.int .i64 ((n/32:Nat):Int)) (.bool lost) (.cH (.l j) 0 N N 1) (.int .i64 (N:Int)) (.int .i64 (i:Int)) S=.ok (.ed [v,.bool lost]) s∧j5 v q∧dU q∧fr q∧val q=val l/2^n:=by
 intro m
 induction m with
 |zero=>
  intro i out S bZ e cL bU H bX;have h:¬((i:Int)<(N:Int)):=by omega
  rw[uN];simp -implicitDefEqProofs only[↓cG,↓cU,↓cb,↓bw,↓aH,↓aK,↓aD,↓aM,↓aS,↓aT,↓aE,↓aN,↓aI,↓aY,↓a3,↓bg,↓dC,↓ay,↓bH,↓ci,↓dc,↓cl,↓cm,↓cj,↓cn,↓co,↓cp,↓cq,↓cr,↓ct,↓bI,↓bJ,↓bK,↓dd,↓de,↓df,↓dg,↓dh,↓di,↓dj,↓dk,↓dl,↓cv,↓cw,↓cx,↓bO,↓cf,↓bl,↓c6,↓b8,↓cR,↓c4,↓dm,↓a4,↓aU,↓a5,↓aR,↓aG,↓a6,↓cX,↓cc,↓ck,↓cy,↓cz,↓cA,↓cB,↓cC,↓cD,↓cE,↓cF,↓dI,↓dJ,↓ds,↓dS,↓cM,↓cN,↓cV,↓dt,bY,dO,b9,decide_eq_false_iff_not,ite_not,↓reduceIte,be,aA,bi,bL,bh,bT,ca,Nat.reduceAdd,bz,↓bn,Nat.reduceLeDiff,aC,c2,c7,dP,dG,b5,eq_false h,Ek,iY];obtain⟨v,f1,f2⟩:=xN G X e cL N bU.symm (by omega) (.bool lost) rfl;refine⟨v,gC out,f2,f1,l4 H,jM out,?_⟩;rw[kM];have ml:l.getD (n/32+i) 0=0:=by simp -implicitDefEqProofs only[List.getD];rw[List.getElem?_eq_none (by omega)];rfl
  rw[ml,Nat.zero_mod,Nat.mul_zero,Nat.add_zero,iV (by omega),iV (by simp;omega)] at bX;exact Ig l out (n/32) (n%32) n (Nat.div_add_mod n 32).symm r ba bX
 |succ m O=>
  intro i out S bZ e cL bU H bX;have h:(i:Int)<(N:Int):=by omega
  have aV:n%32<32:=Nat.mod_lt _ (by omega);have M:=EX l out (n/32) i (n%32) aV r H (by omega) (by omega) bX;have a1:=r.getD (n/32+i);have ez:=r.getD (n/32+i+1);have U:B=4294967296:=rfl;rw[U] at a1 ez;have qJ:=fun(k:bd)=>(F.pA e.pA).get (T:=aF) (G:=G) (X:=X) .i64 (n/32+i) (by omega) k
  have V:=fun(S:ah) (k:bd)=>ii (T:=aF) (G:=G) (X:=X) (s:=S) (k:=k) (l.getD (n/32+i) 0) a1
  have Y:=fun(S:ah) (k:bd)=>ii (T:=aF) (G:=G) (X:=X) (s:=S) (k:=k) (l.getD (n/32+i+1) 0) ez
  have px:=fun(S:ah) (k:bd)=>tN (T:=aF) (G:=G) (X:=X) (s:=S) (k:=k) n
  have Z:=fun(S:ah) (k:bd)=>F.len (T:=aF) (G:=G) (X:=X) k S
  have u:=fun(S:ah) (k:bd)=>iv (T:=aF) (G:=G) (X:=X) (s:=S) (k:=k) i (n/32) (by omega)
  have I:=fun S k=>nD G X S k (i+n/32) (by omega)
  have aa:=fun S k=>nD G X S k i (by omega)
  have ab:i+n/32=n/32+i:=Nat.add_comm _ _;simp -implicitDefEqProofs only[ab] at u I;have ac:=fun y (k:bd)=>cL.gE (T:=aF) (G:=G) (X:=X) i N N y (by omega) (by omega) k
  have s1:=fun t (S:ah) (k:bd)=>AR (T:=aF) (G:=G) (X:=X) (s:=S) (k:=k) .i64 t (n%32) (by omega)
  have this:=O (i+1) _ _ (by omega) (e.put _ _) (cL.put (out.set i ((l.getD (n/32+i) 0+B*l.getD (n/32+i+1) 0)/2^(n%32)%B))) (by simp [bU]) M.1 M.2;refine Exists.imp (fun v aw=>Exists.imp (fun q bS=>⟨?_,bS.2⟩) aw) this;have J:sP (aQ aF G X) A (.int .i64 (n:Int)) (.int .i64 ((n/32:Nat):Int)) (.bool lost) (.cH (.l j) 0 N N 1) (.int .i64 (i:Int)) (.int .u64 ((l.getD (n/32+i) 0+4294967296*l.getD (n/32+i+1) 0:Nat):Int)) (.int .i64 (N:Int)) (.int .i64 (i:Int)) S=.ok (.ed [v,.bool lost]) s:=by rw[Ei,px,s1,dt];simp -implicitDefEqProofs only[aA];rw[ac,Eh,aa];exact bS.1
  rw[uN];simp -implicitDefEqProofs only[↓cG,↓cU,↓cb,↓bw,↓aH,↓aK,↓aD,↓aM,↓aS,↓aT,↓aE,↓aN,↓aI,↓aY,↓a3,↓bg,↓dC,↓ay,↓bH,↓ci,↓dc,↓cl,↓cm,↓cj,↓cn,↓co,↓cp,↓cq,↓cr,↓ct,↓bI,↓bJ,↓bK,↓dd,↓de,↓df,↓dg,↓dh,↓di,↓dj,↓dk,↓dl,↓cv,↓cw,↓cx,↓bO,↓cf,↓bl,↓c6,↓b8,↓cR,↓c4,↓dm,↓a4,↓aU,↓a5,↓aR,↓aG,↓a6,↓cX,↓cc,↓ck,↓cy,↓cz,↓cA,↓cB,↓cC,↓cD,↓cE,↓cF,↓dI,↓dJ,↓ds,↓dS,↓cM,↓cN,↓cV,↓dt,bY,dO,b9,decide_eq_false_iff_not,ite_not,↓reduceIte,be,aA,bi,bL,bh,bT,ca,Nat.reduceAdd,bz,↓bn,Nat.reduceLeDiff,aC,c2,c7,dP,dG,b5,eq_true h];rw[Ej,u,qJ,V,u,I,Z,bl,bw];by_cases ad:n/32+i+1<l.length
  ·have ae:=fun(k:bd)=>(F.pA e.pA).get (T:=aF) (G:=G) (X:=X) .i64 (n/32+i+1) ad k
   have gH:=fun(S:ah) (k:bd)=>Tz G X (s:=S) (k:=k) (l.getD (n/32+i) 0) (l.getD (n/32+i+1) 0) a1 ez
   have es:l.getD (n/32+i+1) 0*4294967296%18446744073709551616=l.getD (n/32+i+1) 0*4294967296:=hT (by omega);rw[if_pos (by simp -implicitDefEqProofs only[b9];omega),u,I,ae,Y,cM,es,gH];exact J
  ·rw[if_neg (by simp -implicitDefEqProofs only[b9];omega)];have ml:l.getD (n/32+i+1) 0=0:=by simp -implicitDefEqProofs only[List.getD];rw[List.getElem?_eq_none (by omega)];rfl
   rw[ml,Nat.mul_zero,Nat.add_zero] at J;exact J
theorem TA(s:ah)(e:af)(l:List Nat)(n:Nat)(r:mF s e l)(A:dU l)(cZ:n<4294967296)(hp:l.length<4294967296):
  ∃v q lost,aB aF G X 140 [e,.int .i64 (n:Int)] s=.ok (.ed [v,.bool lost]) s∧j5 v q∧dU q∧fr q∧val q=val l/2^n:=by
 rw[HZ,Ti];have u:=fun(S:ah) (k:bd)=>r.len (T:=aF) (G:=G) (X:=X) k S
 have B:=fun(S:ah) (k:bd)=>tM (T:=aF) (G:=G) (X:=X) (s:=S) (k:=k) n (by omega)
 by_cases ba:n/32<l.length
 ·have h:¬((l.length:Int)≤((n/32:Nat):Int)):=by omega
  rw[B,u,cR,bw,if_neg (by simpa using h)];have g5:=Child.ag s;have y:=r.cut (n/32) (by omega);have hlen:(l.take (n/32)).length=n/32:=by simp;omega
  have I:=nl G X s.ag (p3 e (n/32)) (l.take (n/32)) (y.pA g5.pA) (by rw[hlen];omega);have J:=y.cut (hD (l.take (n/32)) (l.take (n/32)).length) (j3 _ _);have M:=fun(S:ah) (k:bd)=>J.len (T:=aF) (G:=G) (X:=X) k S
  have N:=fun(S:ah) (k:bd)=>lR (T:=aF) (G:=G) (X:=X) (s:=S) (k:=k) l.length (n/32) (by omega) (by omega)
  have O:=fun(S:ah) (k:bd)=>o5 (T:=aF) (G:=G) (X:=X) (s:=S) (k:=k) (U 0) 4 (l.length-n/32) (l.length-n/32) (aC _) (by omega)
  have fin:∀lost,∃v q,(aQ aF G X).cg s.ag (fun NU s=>(aQ aF G X).aj s (fun F s=>(aQ aF G X).k4 s (fun H s=>(aQ aF G X).cg s (fun V s=>p9 (aQ aF G X) e (.int .i64 (n:Int)) (.int .i64 ((n/32:Nat):Int)) (.bool lost) H V (.int .i64 0) s) false H) [.int .u32 0] 4 F F) (al .sub NU (.int .i64 ((n/32:Nat):Int)))) false e=.ok (.ed [v,.bool lost]) s∧j5 v q∧dU q∧fr q∧val q=val l/2^n:=fun lost=>by have Y:=EZ G X s e l n lost r A cZ hp ba s.ag.own.length _ rfl (l.length-n/32) 0 _ _ (by omega) (g5.new (.cells (List.replicate (l.length-n/32) (U 0)))) (hl.make _ _) (by simp) (qf _) (by simp [val]);refine Exists.imp (fun v aw=>Exists.imp (fun q bS=>⟨?_,bS.2⟩) aw) Y;rw[u,N];refine(O _ _).trans ?_;rw[aY];exact bS.1
  have qJ:=fun(k:bd)=>(r.pA g5.pA).get (T:=aF) (G:=G) (X:=X) .i64 (n/32) ba k
  have px:=fun(S:ah) (k:bd)=>tN (T:=aF) (G:=G) (X:=X) (s:=S) (k:=k) n
  have s1:∀(S:ah) (k:bd),(aQ aF G X).aj S k (al .shl (.int .u32 1) (.int .i64 ((n%32:Nat):Int)))=k (.int .u32 ((1*2^(n%32)%4294967296:Nat):Int)) S:=fun S k=>F6 .i64 1 (n%32) (by omega)
  obtain⟨c,a0⟩:=Ih G X .u32 ((l.getD (n/32) 0:Nat):Int) (IntKind.wrap .u32 (((1*2^(n%32)%4294967296:Nat):Int)-1));have bx:=fun(k:bd) (S:ah)=>r.slice (T:=aF) (G:=G) (X:=X) (n/32) (by omega) k S
  rw[El,bx,(y.ao _),aZ I,M,b8];by_cases eO:(0:Int)<(((l.take (n/32)).take (hD (l.take (n/32)) (l.take (n/32)).length)).length:Int)
  ·obtain⟨v,q,ar,aw⟩:=fin true;refine⟨v,q,true,?_,aw⟩;simp -implicitDefEqProofs only[↓cG,↓cU,↓cb,↓bw,↓aH,↓aK,↓aD,↓aM,↓aS,↓aT,↓aE,↓aN,↓aI,↓aY,↓a3,↓bg,↓dC,↓ay,↓bH,↓ci,↓dc,↓cl,↓cm,↓cj,↓cn,↓co,↓cp,↓cq,↓cr,↓ct,↓bI,↓bJ,↓bK,↓dd,↓de,↓df,↓dg,↓dh,↓di,↓dj,↓dk,↓dl,↓cv,↓cw,↓cx,↓bO,↓cf,↓bl,↓c6,↓b8,↓cR,↓c4,↓dm,↓a4,↓aU,↓a5,↓aR,↓aG,↓a6,↓cX,↓cc,↓ck,↓cy,↓cz,↓cA,↓cB,↓cC,↓cD,↓cE,↓cF,↓dI,↓dJ,↓ds,↓dS,↓cM,↓cN,↓cV,↓dt,bY,dO,b9,decide_eq_false_iff_not,ite_not,↓reduceIte,be,aA,bi,bL,bh,bT,ca,Nat.reduceAdd,bz,↓bn,Nat.reduceLeDiff,aC,c2,c7,dP,dG,b5,eq_true eO];simpa only[↓cG,↓cU,↓cb,↓bw,↓aH,↓aK,↓aD,↓aM,↓aS,↓aT,↓aE,↓aN,↓aI,↓aY,↓a3,↓bg,↓dC,↓ay,↓bH,↓ci,↓dc,↓cl,↓cm,↓cj,↓cn,↓co,↓cp,↓cq,↓cr,↓ct,↓bI,↓bJ,↓bK,↓dd,↓de,↓df,↓dg,↓dh,↓di,↓dj,↓dk,↓dl,↓cv,↓cw,↓cx,↓bO,↓cf,↓bl,↓c6,↓b8,↓cR,↓c4,↓dm,↓a4,↓aU,↓a5,↓aR,↓aG,↓a6,↓cX,↓cc,↓ck,↓cy,↓cz,↓cA,↓cB,↓cC,↓cD,↓cE,↓cF,↓dI,↓dJ,↓ds,↓dS,↓cM,↓cN,↓cV,↓dt,bY,dO,b9,decide_eq_false_iff_not,ite_not,↓reduceIte,be,aA,bi,bL,bh,bT,ca,Nat.reduceAdd,bz,↓bn,Nat.reduceLeDiff,aC,c2,c7,dP,dG,b5] using ar
  ·obtain⟨v,q,ar,aw⟩:=fin (decide (¬c=0));refine⟨v,q,decide (¬c=0),?_,aw⟩;simp -implicitDefEqProofs only[↓cG,↓cU,↓cb,↓bw,↓aH,↓aK,↓aD,↓aM,↓aS,↓aT,↓aE,↓aN,↓aI,↓aY,↓a3,↓bg,↓dC,↓ay,↓bH,↓ci,↓dc,↓cl,↓cm,↓cj,↓cn,↓co,↓cp,↓cq,↓cr,↓ct,↓bI,↓bJ,↓bK,↓dd,↓de,↓df,↓dg,↓dh,↓di,↓dj,↓dk,↓dl,↓cv,↓cw,↓cx,↓bO,↓cf,↓bl,↓c6,↓b8,↓cR,↓c4,↓dm,↓a4,↓aU,↓a5,↓aR,↓aG,↓a6,↓cX,↓cc,↓ck,↓cy,↓cz,↓cA,↓cB,↓cC,↓cD,↓cE,↓cF,↓dI,↓dJ,↓ds,↓dS,↓cM,↓cN,↓cV,↓dt,bY,dO,b9,decide_eq_false_iff_not,ite_not,↓reduceIte,be,aA,bi,bL,bh,bT,ca,Nat.reduceAdd,bz,↓bn,Nat.reduceLeDiff,aC,c2,c7,dP,dG,b5,eq_false eO,↓qJ,↓px,↓s1,↓f0,↓a0];simpa only[↓cG,↓cU,↓cb,↓bw,↓aH,↓aK,↓aD,↓aM,↓aS,↓aT,↓aE,↓aN,↓aI,↓aY,↓a3,↓bg,↓dC,↓ay,↓bH,↓ci,↓dc,↓cl,↓cm,↓cj,↓cn,↓co,↓cp,↓cq,↓cr,↓ct,↓bI,↓bJ,↓bK,↓dd,↓de,↓df,↓dg,↓dh,↓di,↓dj,↓dk,↓dl,↓cv,↓cw,↓cx,↓bO,↓cf,↓bl,↓c6,↓b8,↓cR,↓c4,↓dm,↓a4,↓aU,↓a5,↓aR,↓aG,↓a6,↓cX,↓cc,↓ck,↓cy,↓cz,↓cA,↓cB,↓cC,↓cD,↓cE,↓cF,↓dI,↓dJ,↓ds,↓dS,↓cM,↓cN,↓cV,↓dt,bY,dO,b9,decide_eq_false_iff_not,ite_not,↓reduceIte,be,aA,bi,bL,bh,bT,ca,Nat.reduceAdd,bz,↓bn,Nat.reduceLeDiff,aC,c2,c7,dP,dG,b5] using ar
 ·have h:(l.length:Int)≤((n/32:Nat):Int):=by omega
  refine⟨.bx 1 [] .nil,[],decide ((0:Int)<(l.length:Int)),?_,j5.nil,(fun x (h:x∈[])=>absurd h rc:dU []),(fun h=>absurd rfl h:fr []),?_⟩
  ·rw[B,u,cR,bw,if_pos (by simpa using h),u,b8];exact k5 (.ag s) _ _ _ _ rfl rfl
  ·rw[EY l n A (by omega)];rfl
structure afW (q X Y:Nat):Prop where
 lt:q<B
 le:q*Y≤X
 max:∀re,re<B→re*Y≤X→re≤q
theorem TB(q:Nat)(h:0<q)(aw:q<18446744073709551616):sv q 1=q-1:=by unfold sv;omega
theorem E0(s:ah)(J pL:af)(du vs:List Nat)(j:Nat)(hu:mF s J du)(bX:mF s pL vs)(M:dU du)(me:dU vs)(cZ:2≤vs.length)(cL:j+vs.length<du.length)(hp:du.length<4294967296)
  (aq:B≤2*vs.getD (vs.length-1) 0)(Y:du.getD (j+vs.length) 0≤vs.getD (vs.length-1) 0)(S:ah)(F:Child s S):∀(m q r:Nat),r+m=B→0<m→
  q*vs.getD (vs.length-1) 0+r=du.getD (j+vs.length) 0*B+du.getD (j+vs.length-1) 0→
  (∀re,re<B→re*(vs.getD (vs.length-1) 0*B+vs.getD (vs.length-2) 0)≤du.getD (j+vs.length) 0*B*B+du.getD (j+vs.length-1) 0*B+du.getD (j+vs.length-2) 0→re≤q)→
  ∃u:Nat,sN (aQ aF G X) J (.int .i64 (j:Int)) pL (.int .i64 (vs.length:Int)) (.int .u64 (q:Int)) (.int .u64 (r:Int)) S=.ok (.int .u64 (u:Int)) s∧
   afW u (du.getD (j+vs.length) 0*B*B+du.getD (j+vs.length-1) 0*B+du.getD (j+vs.length-2) 0) (vs.getD (vs.length-1) 0*B+vs.getD (vs.length-2) 0):=by
 have au:=lk;have bP:=M.getD (j+vs.length);have av:=M.getD (j+vs.length-1);have ax:=M.getD (j+vs.length-2);have lb:=me.getD (vs.length-1);have ay:=me.getD (vs.length-2);obtain⟨az,Z,aa⟩:=(hu.pA F.pA).ptr (T:=aF) (G:=G) (X:=X) .i64 (j+vs.length-2) (by omega);obtain⟨aA,ab,ac⟩:=(bX.pA F.pA).ptr (T:=aF) (G:=G) (X:=X) .i64 (vs.length-2) (by omega);have nC:=fun(k:bd)=>(bX.pA F.pA).get (T:=aF) (G:=G) (X:=X) .i64 (vs.length-1) (by omega) k
 have i1:=fun(S:ah) (k:bd)=>iK (T:=aF) (G:=G) (X:=X) (s:=S) (k:=k) vs.length (by omega) (by have:=hu.len (T:=aF) (G:=G) (X:=X);omega)
 have i2:=fun(S:ah) (k:bd)=>CI (T:=aF) (G:=G) (X:=X) (s:=S) (k:=k) vs.length (by omega) (by omega)
 have i3:=fun(S:ah) (k:bd)=>iv (T:=aF) (G:=G) (X:=X) (s:=S) (k:=k) j vs.length (by omega)
 have i4:=fun(S:ah) (k:bd)=>CI (T:=aF) (G:=G) (X:=X) (s:=S) (k:=k) (j+vs.length) (by omega) (by omega)
 generalize du.getD (j+vs.length) 0=A at *;generalize du.getD (j+vs.length-1) 0=I at *;generalize du.getD (j+vs.length-2) 0=y at *;generalize vs.getD (vs.length-1) 0=v1 at *;generalize vs.getD (vs.length-2) 0=v2 at *;have cu:=fun(S:ah) (k:bd)=>ii (T:=aF) (G:=G) (X:=X) (s:=S) (k:=k) y (by omega)
 have ad:=fun(S:ah) (k:bd)=>ii (T:=aF) (G:=G) (X:=X) (s:=S) (k:=k) v2 (by omega)
 have ae:=fun(S:ah) (k:bd)=>ii (T:=aF) (G:=G) (X:=X) (s:=S) (k:=k) v1 (by omega)
 intro m
 induction m using Nat.strongRecOn with
 |ind m an=>
  intro q r hm lh fz ag;have aB:r<B:=by omega
  have lg:A*B*B+I*B+y=q*v1*B+r*B+y:=by rw[←fq,←fq,fz]
  have aC:q≤B+1:=by
   have ar:A*B≤v1*B:=gn _ Y;have aw:q*v1<(B+2)*v1:=by rw[fq,eM B v1];omega
   have:=Nat.lt_of_mul_lt_mul_right aw;omega
  have down:0<q→(∀re,re<B→re*(v1*B+v2)≤A*B*B+I*B+y→re≤q-1)→∃u:Nat,w5 (aQ aF G X) J (.int .i64 (j:Int)) pL (.int .i64 (vs.length:Int)) (.int .u64 (q:Int)) (.int .u64 (r:Int)) S=.ok (.int .u64 (u:Int)) s∧afW u (A*B*B+I*B+y) (v1*B+v2):=fun eO ai=>by
   have aj:(q-1)*v1+(r+v1)=A*B+I:=by
    have:(q-1)*v1+v1=q*v1:=by rw[←Nat.succ_mul];congr 1;omega
    omega
   have ak:(r+v1)%18446744073709551616=r+v1:=hT (by omega);have dn:=TB q eO (by omega);rw[Ef];by_cases ao:B≤r+v1
   ·have N:(4294967296:Int)≤((r+v1:Nat):Int):=by omega
    refine⟨q-1,?_,?_,?_,ai⟩
    ·rw[ds,dn,i1,nC,ae,dI,ak,cR,bw,if_pos (by simpa using N),uM];exact iU F _ _
    ·
     by_cases H:q≤B
     ·omega
     ·exfalso;have O:q=B+1:=by omega
      rw[O,fq,Nat.one_mul] at fz;have ar:A*B≤v1*B:=gn _ Y;rw[eM v1 B] at ar;omega
    ·rw[lg];have H:q-1≤B:=by omega
     have O:(q-1)*v2≤B*B:=Nat.mul_le_mul H (by omega);have al:B*B≤(r+v1)*B:=gn _ ao;have aD:(q-1)*(v1*B+v2)=(q-1)*v1*B+(q-1)*v2:=by rw[fX,hb]
     have aE:(q-1)*v1*B+(r+v1)*B=q*v1*B+r*B:=by rw[←fq,aj,←fz,fq]
     omega
   ·have N:¬(4294967296:Int)≤((r+v1:Nat):Int):=by omega
    have aG:0<v1:=by omega
    obtain⟨u,ar,aw⟩:=an (B-(r+v1)) (by omega) (q-1) (r+v1) (by omega) (by omega) aj ai;refine⟨u,?_,aw⟩;rw[ds,dn,i1,nC,ae,dI,ak,cR,bw,if_neg (by simpa using N)];exact ar
  rw[Eg];by_cases c:B≤q
  ·have oK:(4294967296:Int)≤(q:Int):=by omega
   obtain⟨u,ar,aw⟩:=down (by omega) (fun re h _=>by omega);refine⟨u,?_,aw⟩;simp -implicitDefEqProofs only[↓cR,↓bw,↓cb,↓wS,eq_true oK,dP,Bool.true_eq_false,if_false,↓reduceIte,ar]
  ·have oK:¬(4294967296:Int)≤(q:Int):=by omega
   have ap:q*v2<18446744073709551616:=by
    have:q*v2≤B*B:=Nat.mul_le_mul (by omega) (by omega);have bS:q*v2≤(B-1)*(B-1):=Nat.mul_le_mul (by omega) (by omega);have dB:(B-1)*(B-1)<18446744073709551616:=by decide
    omega
   have em:q*v2%18446744073709551616=q*v2:=hT ap;have es:r*4294967296%18446744073709551616=r*4294967296:=hT (by omega);have gH:=fun(S:ah) (k:bd)=>wU (T:=aF) (G:=G) (X:=X) (s:=S) (k:=k) r y (by omega) (by omega)
   have am:q*(v1*B+v2)=q*v1*B+q*v2:=by rw[fX,hb]
   have U:=fun(S:ah) (k:bd)=>cM (T:=aF) (G:=G) (X:=X) (s:=S) (k:=k) r
   rw[es] at U;have V:=fun(S:ah) (k:bd)=>dS (T:=aF) (G:=G) (X:=X) (s:=S) (k:=k) q v2
   rw[em] at V;by_cases d:r*4294967296+y<q*v2
   ·have gg:((r*4294967296+y:Nat):Int)<((q*v2:Nat):Int):=by omega
    have eO:0<q:=by
     rcases Nat.eq_zero_or_pos q with e|e
     ·subst e;omega
     ·exact e
    obtain⟨u,ar,aw⟩:=down eO (fun re h H=>by
     have O:=ag re h H;rcases Nat.lt_or_ge re q with al|al
     ·omega
     ·have:re=q:=by omega
      subst this;rw[lg,am,lk] at H;rw[lk] at *;omega)
    refine⟨u,?_,aw⟩;simp -implicitDefEqProofs only[↓cR,↓b8,↓bw,↓cb,↓wS,eq_false oK,dG,↓reduceIte,b5,↓i2,↓ab,↓ac,↓ad,↓V,↓U,↓i3,↓i4,↓Z,↓aa,↓cu,↓gH,b9,dP,eq_true gg,ar]
   ·have gg:¬((r*4294967296+y:Nat):Int)<((q*v2:Nat):Int):=by omega
    refine⟨q,?_,by omega,?_,ag⟩
    ·simp -implicitDefEqProofs only[↓cR,↓b8,↓bw,↓cb,↓wS,eq_false oK,dG,↓reduceIte,b5,↓i2,↓ab,↓ac,↓ad,↓V,↓U,↓i3,↓i4,↓Z,↓aa,↓cu,↓gH,b9,dP,eq_false gg,uM];exact iU F _ _
    ·rw[lg,am,lk] at *;omega
theorem TC(s:ah)(F pL:af)(du vs:List Nat)(j:Nat)(hu:mF s F du)(bX:mF s pL vs)(u:dU du)(me:dU vs)(cZ:2≤vs.length)(cL:j+vs.length<du.length)(hp:du.length<4294967296)
  (M:B≤2*vs.getD (vs.length-1) 0)(N:du.getD (j+vs.length) 0≤vs.getD (vs.length-1) 0):
  ∃H:Nat,aB aF G X 139 [F,.int .i64 (j:Int),pL] s=.ok (.int .u64 (H:Int)) s∧
   afW H (du.getD (j+vs.length) 0*B*B+du.getD (j+vs.length-1) 0*B+du.getD (j+vs.length-2) 0) (vs.getD (vs.length-1) 0*B+vs.getD (vs.length-2) 0):=by
 have O:=lk;have y:=Child.ag s;have bP:=u.getD (j+vs.length);have ac:=u.getD (j+vs.length-1);have lb:=me.getD (vs.length-1);have ad:=me.getD (vs.length-2);have ae:=u.getD (j+vs.length-2);have r:vs.getD (vs.length-1) 0≠0:=by omega
 have I:du.getD (j+vs.length) 0*B+du.getD (j+vs.length-1) 0<18446744073709551616:=by rw[O] at *;omega
 have U:=E0 G X s F pL du vs j hu bX u me cZ cL hp M N s.ag y
  (B-(du.getD (j+vs.length) 0*B+du.getD (j+vs.length-1) 0)%vs.getD (vs.length-1) 0) ((du.getD (j+vs.length) 0*B+du.getD (j+vs.length-1) 0)/vs.getD (vs.length-1) 0) ((du.getD (j+vs.length) 0*B+du.getD (j+vs.length-1) 0)%vs.getD (vs.length-1) 0)
  (by have:=Nat.mod_lt (du.getD (j+vs.length) 0*B+du.getD (j+vs.length-1) 0) (Nat.pos_of_ne_zero r);omega) (by have:=Nat.mod_lt (du.getD (j+vs.length) 0*B+du.getD (j+vs.length-1) 0) (Nat.pos_of_ne_zero r);omega)
  (by rw[eM];exact Nat.div_add_mod _ _) (fun re ai h=>by
   rw[Nat.le_div_iff_mul_le (Nat.pos_of_ne_zero r)];have ar:re*vs.getD (vs.length-1) 0*B≤re*(vs.getD (vs.length-1) 0*B+vs.getD (vs.length-2) 0):=by rw[fX,hb];omega
   have aw:re*vs.getD (vs.length-1) 0*B<(du.getD (j+vs.length) 0*B+du.getD (j+vs.length-1) 0+1)*B:=by rw[fq,fq,Nat.one_mul];omega
   have:=Nat.lt_of_mul_lt_mul_right aw;omega)
 refine Exists.imp (fun H aw=>⟨?_,aw.2⟩) U;have ar:=aw.1;have V:=fun(k:bd)=>(hu.pA y.pA).get (T:=aF) (G:=G) (X:=X) .i64 (j+vs.length) (by omega) k
 have Y:=fun(k:bd)=>(hu.pA y.pA).get (T:=aF) (G:=G) (X:=X) .i64 (j+vs.length-1) (by omega) k
 have nC:=fun(k:bd)=>(bX.pA y.pA).get (T:=aF) (G:=G) (X:=X) .i64 (vs.length-1) (by omega) k
 have Z:=fun(S:ah) (k:bd)=>bX.len (T:=aF) (G:=G) (X:=X) k S
 have i1:=fun(S:ah) (k:bd)=>iK (T:=aF) (G:=G) (X:=X) (s:=S) (k:=k) vs.length (by omega) (by omega)
 have i3:=fun(S:ah) (k:bd)=>iv (T:=aF) (G:=G) (X:=X) (s:=S) (k:=k) j vs.length (by omega)
 have i4:=fun(S:ah) (k:bd)=>iK (T:=aF) (G:=G) (X:=X) (s:=S) (k:=k) (j+vs.length) (by omega) (by omega)
 rw[O] at I ar bP ac lb;clear M N U aw ae ad;generalize du.getD (j+vs.length) 0=e at *;generalize du.getD (j+vs.length-1) 0=A at *;generalize vs.getD (vs.length-1) 0=v1 at *;have aa:=fun(S:ah) (k:bd)=>ii (T:=aF) (G:=G) (X:=X) (s:=S) (k:=k) e (by omega)
 have ab:=fun(S:ah) (k:bd)=>ii (T:=aF) (G:=G) (X:=X) (s:=S) (k:=k) A (by omega)
 have J:=fun(S:ah) (k:bd)=>ii (T:=aF) (G:=G) (X:=X) (s:=S) (k:=k) v1 (by omega)
 have es:e*4294967296%18446744073709551616=e*4294967296:=by clear ar I V Y nC Z i1 i3 i4 aa ab J;omega
 have gH:=fun(S:ah) (k:bd)=>wU (T:=aF) (G:=G) (X:=X) (s:=S) (k:=k) e A (by omega) (by omega)
 have d1:=fun(S:ah) (k:bd)=>I5 (T:=aF) (G:=G) (X:=X) (s:=S) (k:=k) (e*4294967296+A) v1 r I
 have d2:=fun(S:ah) (k:bd)=>AP (T:=aF) (G:=G) (X:=X) (s:=S) (k:=k) (e*4294967296+A) v1 r
 rw[HY,Th,Z,i3,V,aa,cM,es,i3,i4,Y,ab,gH,i1,nC,J,d1,i1,nC,J,d2];exact ar
theorem th(s:ah)(j:Nat)(a b:List Nat):(s.put j a).put j b=s.put j b:=by simp [ah.put]
theorem nm(s:ah)(j:Nat)(a:List Nat):(s.put j a).aa=s.aa:=rfl
theorem BS{s:ah}{oe:Nat}{du:List Nat}(h:hl s oe du)(i N x:Nat)(bZ:i<du.length)(nz:i<N)(k:bd):(aQ aF G X).bV s.ag (fun v S=>(aQ aF G X).bm S k 1 v (U x)) 1 (.cH (.g s.aa oe) 0 N N 1) (.int .i64 (i:Int))=k .dead (s.put oe (du.set i x)).ag:=by
 rw[gY _ _ _ _ _ _ _ nz,jZ];have e:(U x).e9=true:=rfl;have cW:s.ag.aa=s.aa+1:=(Child.ag s).aa;have r:s.ag.get (.g s.aa oe)=some (.cells (du.map U)):=(Child.ag s).pA.2 _ _ _ (aC _) (by simpa [ah.get,hl] using h);simp -implicitDefEqProofs only[fh,e,af.cells,bT,ca,bh,e7,bz,bD];unfold h9;rw[r];simp -implicitDefEqProofs only[Nat.mul_one,bT,ca,bh,show Nat.ble (i+1) (du.map U).length=true from ec (by simp;omega),show s.ag.gL (.g s.aa oe) [U x]=true from by simp [ah.gL,af.aX,af.bb],List.all_cons,show(U x).en=true from rfl,List.all_nil,bz,bD];have u:s.ro.length≤s.aa:=by unfold ah.aa;omega
 have y:s.ag.set (.g s.aa oe) (.cells ((du.map U).set i (U x)))=some (s.put oe (du.set i x)).ag:=by simp -implicitDefEqProofs only[ah.set,cW];rw[if_neg (by omega),if_pos ⟨by omega,u⟩];simp [ah.ag,ah.put,List.map_set]
 show(match s.ag.set (.g s.aa oe) (.cells ((du.map U).set i (U x))) with |some s=>k .dead s|none=>.fail)=_;rw[y]
section
variable(s:ah)(oe j N q:Nat)(g8 vs:List Nat)(pL:af)(eO:hl s oe g8)(nz:g8.length=N)(bX:j5 pL vs)(me:dU vs)(cL:j+vs.length<N)(hp:N<4294967296)
include eO nz bX me cL hp
theorem vJ(du:List Nat)(bU:du.length=N)(i:Nat)(bZ:i<N)(k:bd):(aQ aF G X).bV (s.put oe du).ag (fun v S=>(aQ aF G X).aq S k none v) 1 (.cH (.g s.aa oe) 0 N N 1) (.int .i64 (i:Int))=k (U (du.getD i 0)) (s.put oe du).ag:=by have ar:=(eO.put du).rd N N (by omega) (aC _);rw[iV (by omega)] at ar;exact(ar.pA (Child.ag _).pA).get .i64 i (by omega) k
theorem E1(U:Nat)(e:List Nat)(am:dU e)(fz:0<q)(an:q<B)(V:U%val vs<val vs)(ao:fk e j (vs.length+1)+val vs=B^(vs.length+1)+U%val vs):∀(m i:Nat) (du:List Nat) (carry:Nat),i+m=vs.length→du.length=N→dU du→e.length=N→carry≤1→(∀k,(k<j∨j+i≤k)→du.getD k 0=e.getD k 0)→fk du j i+carry*B^i=fk e j i+fk vs 0 i→
  ∃r,sM (aQ aF G X) (.cH (.g s.aa oe) 0 N N 1) (.int .i64 (j:Int)) pL (.int .u64 (q:Int)) (.int .u64 (carry:Int)) (.int .i64 (vs.length:Int)) (.int .i64 (i:Int)) (s.put oe du).ag=.ok (.int .u32 ((q-1:Nat):Int)) (s.put oe r)∧r.length=N∧dU r∧(∀k,(k<j∨j+vs.length<k)→r.getD k 0=e.getD k 0)∧fk r j (vs.length+1)=U%val vs:=by
 have H:=lk;have Y:=fun(S:ah) (k:bd)=>(bX.rd s).len (T:=aF) (G:=G) (X:=X) k S
 intro m
 induction m with
 |zero=>
  intro i du carry bZ bU u M a0 y hw;have Z:i=vs.length:=by omega
  subst Z;have h:¬((vs.length:Int)<(vs.length:Int)):=by omega
  have ab:du.getD (j+vs.length) 0=e.getD (j+vs.length) 0:=y _ (.inr (aC _));have F:=fun(S:ah) (k:bd)=>iv (T:=aF) (G:=G) (X:=X) (s:=S) (k:=k) j vs.length (by omega)
  have I:=fun(k:bd)=>vJ G X s oe j N g8 vs pL eO nz bX me cL hp du bU (j+vs.length) (by omega) k
  have gE:=fun x (k:bd)=>BS G X (eO.put du) (j+vs.length) N x (by omega) (by omega) k
  simp -implicitDefEqProofs only[nm,th] at gE;have dn:=TB q fz (by omega);have J:(q-1)%4294967296=q-1:=hT (by omega);have ac:carry%4294967296=carry:=hT (by omega);rw[←tg,gx e j vs.length (by omega)] at *;have key:=NT vs.length (fk du j vs.length) (du.getD (j+vs.length) 0+carry) (U%val vs) (by rw[fX,ab,eM _ carry];omega) (tf du j vs.length u) (Nat.lt_trans V (by have:=ik vs me;exact this))
  refine⟨du.set (j+vs.length) ((du.getD (j+vs.length) 0+carry)%4294967296),?_,by simpa using bU,u.set _ _ (Nat.mod_lt _ (by decide)),fun k cK=>?_,?_⟩
  ·rw[uK,bl,bw,if_neg (by simp),Ec,Y,F,I,dt,ac,MR];simp -implicitDefEqProofs only[aA];rw[gE,ds,dn,dt,J,aR]
  ·exact(hV.getD_set_ne (by omega)).trans (y k (by omega))
  ·have ad:=gx (du.set (j+vs.length) ((du.getD (j+vs.length) 0+carry)%4294967296)) j vs.length (by simp;omega);have ae:(du.set (j+vs.length) ((du.getD (j+vs.length) 0+carry)%4294967296)).getD (j+vs.length) 0=(du.getD (j+vs.length) 0+carry)%4294967296:=hV.gj (by omega);rw[ad,ae,td _ _ _ _ _ (aC _),key.1,key.2,←H,Nat.mod_self,Nat.mul_zero,Nat.add_zero]
 |succ m af=>
  intro i du carry bZ bU u M a0 y hw;have h:(i:Int)<(vs.length:Int):=by omega
  have A:=If du e vs j i carry (by omega) (by omega) me u a0 (y _ (.inr (aC _))) (by omega) hw;simp -implicitDefEqProofs only[] at A;have bP:=u.getD (j+i);have O:=me.getD i;rw[H] at bP O A;have F:=fun(S:ah) (k:bd)=>iv (T:=aF) (G:=G) (X:=X) (s:=S) (k:=k) j i (by omega)
  have ai:=fun S k=>nD G X S k i (by omega)
  have I:=fun(k:bd)=>vJ G X s oe j N g8 vs pL eO nz bX me cL hp du bU (j+i) (by omega) k
  have aj:=fun(k:bd)=>(bX.rd (s.put oe du).ag).get (T:=aF) (G:=G) (X:=X) .i64 i (by omega) k
  have ak:=fun(S:ah) (k:bd)=>ii (T:=aF) (G:=G) (X:=X) (s:=S) (k:=k) (du.getD (j+i) 0) bP
  have al:=fun(S:ah) (k:bd)=>ii (T:=aF) (G:=G) (X:=X) (s:=S) (k:=k) (vs.getD i 0) O
  have gE:=fun x (k:bd)=>BS G X (eO.put du) (j+i) N x (by omega) (by omega) k
  simp -implicitDefEqProofs only[nm,th] at gE;have dn:(du.getD (j+i) 0+vs.getD i 0)%18446744073709551616=du.getD (j+i) 0+vs.getD i 0:=hT (by omega);have J:(du.getD (j+i) 0+vs.getD i 0+carry)%18446744073709551616=du.getD (j+i) 0+vs.getD i 0+carry:=hT (by omega)
  have:=af (i+1) (du.set (j+i) ((du.getD (j+i) 0+vs.getD i 0+carry)%4294967296)) ((du.getD (j+i) 0+vs.getD i 0+carry)/4294967296) (by omega) (by simpa using bU) A.2.2.1 M A.2.1 (fun k cK=>(hV.getD_set_ne (by omega)).trans (y k (by omega))) (by rw[H];exact A.2.2.2);refine Exists.imp (fun r aw=>⟨?_,aw.2⟩) this;rw[uK,bl,bw,if_pos (by simpa using h),Eb,F,I,ak,aj,al,dI,dn,dI,J,F,dt];simp -implicitDefEqProofs only[aA];rw[gE,cN,Ea,ai];exact aw.1
theorem E2(aL:0<vs.length)(CT:dU g8)(ad:q<B)(ae:0<val vs)(aM:fk g8 j (vs.length+1)/val vs≤q)(aN:q≤fk g8 j (vs.length+1)/val vs+1):∀(m i:Nat) (du:List Nat) (carry e:Nat),i+m=vs.length→du.length=N→dU du→carry<B→e≤1→(∀k,(k<j∨j+i≤k)→du.getD k 0=g8.getD k 0)→fk du j i+q*fk vs 0 i=fk g8 j i+(carry+e)*B^i→
  ∃r,p8 (aQ aF G X) (.cH (.g s.aa oe) 0 N N 1) (.int .i64 (j:Int)) pL (.int .u64 (q:Int)) (.int .u64 (carry:Int)) (.int .u64 (e:Int)) (.int .i64 (vs.length:Int)) (.int .i64 (i:Int)) (s.put oe du).ag=.ok (.int .u32 ((fk g8 j (vs.length+1)/val vs:Nat):Int)) (s.put oe r)∧r.length=N∧dU r∧(∀k,(k<j∨j+vs.length<k)→r.getD k 0=g8.getD k 0)∧fk r j (vs.length+1)=fk g8 j (vs.length+1)%val vs:=by
 have H:=lk;have V:=fun(S:ah) (k:bd)=>(bX.rd s).len (T:=aF) (G:=G) (X:=X) k S
 intro m
 induction m with
 |zero=>
  intro i du carry e bZ bU I a0 af J hw;have al:i=vs.length:=by omega
  subst al;have h:¬((vs.length:Int)<(vs.length:Int)):=by omega
  have an:du.getD (j+vs.length) 0=g8.getD (j+vs.length) 0:=J _ (.inr (aC _));have bP:=I.getD (j+vs.length);rw[H] at bP a0;have M:=fun(S:ah) (k:bd)=>iv (T:=aF) (G:=G) (X:=X) (s:=S) (k:=k) j vs.length (by omega)
  have Y:=fun(k:bd)=>vJ G X s oe j N g8 vs pL eO nz bX me cL hp du bU (j+vs.length) (by omega) k
  have Z:=fun(S:ah) (k:bd)=>ii (T:=aF) (G:=G) (X:=X) (s:=S) (k:=k) (du.getD (j+vs.length) 0) bP
  have gE:=fun x (k:bd)=>BS G X (eO.put du) (j+vs.length) N x (by omega) (by omega) k
  simp -implicitDefEqProofs only[nm,th] at gE;have cW:=zN (du.getD (j+vs.length) 0) carry e bP a0 (by omega) (by omega);have ab:sv (sv (du.getD (j+vs.length) 0) carry) e=lH (lH (du.getD (j+vs.length) 0) carry) e:=rfl;rw[←tg] at hw;have ao:=gx g8 j vs.length (by omega);have gs:∀x,fk (du.set (j+vs.length) x) j (vs.length+1)=fk du j vs.length+B^vs.length*x:=fun x=>by have ap:=gx (du.set (j+vs.length) x) j vs.length (by simp;omega);have aq:(du.set (j+vs.length) x).getD (j+vs.length) 0=x:=hV.gj (by omega);rw[ap,aq,td _ _ _ _ _ (aC _)]
  have U:dU (du.set (j+vs.length) (lH (lH (du.getD (j+vs.length) 0) carry) e%4294967296)):=I.set _ _ (by rw[H];exact Nat.mod_lt _ (by decide));have ai:∀x k,(k<j∨j+vs.length<k)→(du.set (j+vs.length) x).getD k 0=g8.getD k 0:=fun x k cK=>(hV.getD_set_ne (by omega)).trans (J k (by omega))
  have pre:p8 (aQ aF G X) (.cH (.g s.aa oe) 0 N N 1) (.int .i64 (j:Int)) pL (.int .u64 (q:Int)) (.int .u64 (carry:Int)) (.int .u64 (e:Int)) (.int .i64 (vs.length:Int)) (.int .i64 (vs.length:Int)) (s.put oe du).ag
    = (aQ aF G X).aO (.bool (decide (((lH (lH (du.getD (j+vs.length) 0) carry) e/9223372036854775808:Nat):Int)=0))) ((aQ aF G X).b6 (s.put oe (du.set (j+vs.length) (lH (lH (du.getD (j+vs.length) 0) carry) e%4294967296))).ag (fun ar s=>(aQ aF G X).aW false [some ar] s) .u32 (.int .u64 (q:Int)))
     (w3 (aQ aF G X) (.cH (.g s.aa oe) 0 N N 1) (.int .i64 (j:Int)) pL (.int .u64 (q:Int)) (s.put oe (du.set (j+vs.length) (lH (lH (du.getD (j+vs.length) 0) carry) e%4294967296))).ag):=by
   rw[uL,bl,bw,if_neg (by simp),Ee,V,M,Y,Z,dJ,dJ,ab,V,M,dt];simp -implicitDefEqProofs only[aA];rw[gE,cV,bO]
  rw[pre,bw];generalize lH (lH (du.getD (j+vs.length) 0) carry) e=t at *;have aP:=cW.2;generalize mx:t/9223372036854775808=A at *;generalize aS:t%4294967296=y at *;have O:fk du j vs.length+B^vs.length*y+q*val vs=fk g8 j (vs.length+1)+A*B^(vs.length+1):=by
   rw[ao,←an];have k1:B^vs.length*(y+carry+e)=B^vs.length*(du.getD (j+vs.length) 0+B*A):=by rw[H,cW.1]
   have dn:B^vs.length*(y+carry+e)=B^vs.length*y+(carry+e)*B^vs.length:=by rw[Nat.add_assoc,fX,eM _ (carry+e)]
   have au:B^vs.length*(du.getD (j+vs.length) 0+B*A)=B^vs.length*du.getD (j+vs.length) 0+A*B^(vs.length+1):=by rw[fX,Nat.pow_succ,←hb,eM _ A]
   rw[dn,au] at k1;omega
  rw[←gs] at O;have aT:=Nat.div_add_mod (fk g8 j (vs.length+1)) (val vs);have av:=Nat.mod_lt (fk g8 j (vs.length+1)) ae;have aU:=tf (du.set (j+vs.length) y) j (vs.length+1) U;by_cases ac:A=0
  ·have ax:q*val vs≤fk g8 j (vs.length+1):=by rw[ac] at O;omega
   have F:q=fk g8 j (vs.length+1)/val vs:=by have:=(Nat.le_div_iff_mul_le ae).2 ax;omega
   have ay:q%4294967296=q:=hT (by omega);refine⟨du.set (j+vs.length) y,?_,by simpa using bU,U,ai y,?_⟩
   ·rw[if_pos (by rw[ac];decide),dt,ay,aR,←F]
   ·rw[ac,F,eM] at O;omega
  ·have aj:A=1:=by omega
   rw[aj,Nat.one_mul] at O;have F:q=fk g8 j (vs.length+1)/val vs+1:=by
    have:¬q≤fk g8 j (vs.length+1)/val vs:=fun hle=>by
     have aV:q*val vs≤fk g8 j (vs.length+1):=by have:=gn (val vs) hle;rw[eM (fk g8 j (vs.length+1)/val vs)] at this;omega
     omega
    omega
   have az:=E1 G X s oe j N q g8 vs pL eO nz bX me cL hp (fk g8 j (vs.length+1)) (du.set (j+vs.length) y) U (by rw[F];exact Nat.succ_pos _) ad av (by rw[F,fq,Nat.one_mul,eM (fk g8 j (vs.length+1)/val vs)] at O;omega) vs.length 0 (du.set (j+vs.length) y) 0 (by omega) (by simpa using bU) U (by simpa using bU) (by omega) (fun k _=>rfl) (by simp [zO])
   obtain⟨r,gZ,g2,aB,n9,iO⟩:=az;refine⟨r,?_,g2,aB,fun k cK=>(n9 k cK).trans (ai y k cK),iO⟩;rw[if_neg (by rw[aj];decide),Ed,V];have aD:q-1=fk g8 j (vs.length+1)/val vs:=by rw[F];rfl
   rw[aD] at gZ;exact gZ
 |succ m aE=>
  intro i du carry e bZ bU I a0 af J hw;have h:(i:Int)<(vs.length:Int):=by omega
  have u:=Ie du g8 vs j i q carry e ad (by omega) (by omega) me I a0 af (J _ (.inr (aC _))) (by omega) hw;simp -implicitDefEqProofs only[] at u;have bP:=I.getD (j+i);have ak:=me.getD i;have M:=fun(S:ah) (k:bd)=>iv (T:=aF) (G:=G) (X:=X) (s:=S) (k:=k) j i (by omega)
  have aG:=fun S k=>nD G X S k i (by omega)
  have Y:=fun(k:bd)=>vJ G X s oe j N g8 vs pL eO nz bX me cL hp du bU (j+i) (by omega) k
  have aH:=fun(k:bd)=>(bX.rd (s.put oe du).ag).get (T:=aF) (G:=G) (X:=X) .i64 i (by omega) k
  rw[H] at bP ak;have Z:=fun(S:ah) (k:bd)=>ii (T:=aF) (G:=G) (X:=X) (s:=S) (k:=k) (du.getD (j+i) 0) bP
  have aI:=fun(S:ah) (k:bd)=>ii (T:=aF) (G:=G) (X:=X) (s:=S) (k:=k) (vs.getD i 0) ak
  have gE:=fun x (k:bd)=>BS G X (eO.put du) (j+i) N x (by omega) (by omega) k
  simp -implicitDefEqProofs only[nm,th] at gE;have aJ:q*vs.getD i 0%18446744073709551616=q*vs.getD i 0:=hT (by have:=u.1;omega);have aK:(q*vs.getD i 0+carry)%18446744073709551616=q*vs.getD i 0+carry:=hT u.1;have am:=fun(S:ah) (k:bd)=>MS (T:=aF) (G:=G) (X:=X) (s:=S) (k:=k) (q*vs.getD i 0+carry) u.1
  have ab:∀a b c,sv (sv a b) c=lH (lH a b) c:=fun _ _ _=>rfl
  have:=aE (i+1) _ _ _ (by omega) (by simpa using bU) u.2.2.2.2.1 u.2.1 u.2.2.1 (fun k cK=>(hV.getD_set_ne (by omega)).trans (J k (by omega))) u.2.2.2.2.2;refine Exists.imp (fun r aw=>⟨?_,aw.2⟩) this;have bS:=aw.1;rw[H] at bS;rw[uL,bl,bw,if_pos (by simpa using h),D9,aH,aI,dS,aJ,dI,aK,cN,M,Y,Z,am,dJ,dJ,ab,M,dt];simp -implicitDefEqProofs only[aA];rw[gE,cV,D8,aG];exact bS
end
end Go.gF
end
section
namespace Go.hV
theorem getD_eq{a b:List Nat}(bU:a.length=b.length)(k:Nat)(h:a.getD k 0=b.getD k 0):a[k]? =b[k]?:=by
 by_cases cK:k<a.length
 ·have e:k<b.length:=by omega
  simp only[List.getD,eb cK,eb e,Option.getD_some] at h;rw[eb cK,eb e,h]
 ·rw[List.getElem?_eq_none (by omega),List.getElem?_eq_none (by omega)]
theorem E3{a b:List Nat}(bU:a.length=b.length)(j:Nat)(h:∀k,k<j→a.getD k 0=b.getD k 0):a.take j=b.take j:=by
 apply List.ext_getElem?;intro k;rw[List.getElem?_take,List.getElem?_take];split
 ·exact getD_eq bU k (h k (by assumption))
 ·rfl
theorem E4{a b:List Nat}(bU:a.length=b.length)(j:Nat)(h:∀k,j≤k→a.getD k 0=b.getD k 0):a.drop j=b.drop j:=by apply List.ext_getElem?;intro k;rw[List.getElem?_drop,List.getElem?_drop];exact getD_eq bU _ (h _ (by omega))
theorem ti{du vs:List Nat}{j:Nat}(cL:j+vs.length<du.length)(me:dU vs)(r:val (du.drop (j+1))<val vs):
  val (du.drop (j+vs.length+1))=0∧fk du (j+1) vs.length<val vs∧fk du j (vs.length+1)=du.getD j 0+B*fk du (j+1) vs.length:=by
 have ar:=te du (j+1) vs.length (by omega);have aw:=ik vs me;have eO:val (du.drop (j+1+vs.length))=0:=by
  rcases Nat.eq_zero_or_pos (val (du.drop (j+1+vs.length))) with h|h
  ·exact h
  ·have:B^vs.length*1≤B^vs.length*val (du.drop (j+1+vs.length)):=Nat.mul_le_mul_left _ h;omega
 have e:j+vs.length+1=j+1+vs.length:=by omega
 refine⟨by rw[e];exact eO,by omega,?_⟩;have bS:=te du j (vs.length+1) (by omega);have dB:=mT du j (by omega);rw[show j+(vs.length+1)=j+1+vs.length by omega,eO] at bS;rw[eO,Nat.mul_zero,Nat.add_zero] at ar;rw[Nat.mul_zero,Nat.add_zero,dB,ar] at bS;exact bS.symm
theorem aal{du vs:List Nat}{j:Nat}(cL:j+vs.length<du.length)(me:dU vs)(cZ:0<vs.length)(r:val (du.drop (j+1))<val vs):du.getD (j+vs.length) 0≤vs.getD (vs.length-1) 0:=by
 obtain⟨_,aw,_⟩:=ti cL me r;have bS:=gx du (j+1) (vs.length-1) (by omega);have dB:=gx vs 0 (vs.length-1) (by omega);have A:=tf vs 0 (vs.length-1) me;have e:vs.length-1+1=vs.length:=by omega
 rw[e] at bS dB;rw[←tg] at dB;rw[show j+1+(vs.length-1)=j+vs.length by omega] at bS;rw[bh] at dB;by_cases h:du.getD (j+vs.length) 0≤vs.getD (vs.length-1) 0
 ·exact h
 ·have u:vs.getD (vs.length-1) 0+1≤du.getD (j+vs.length) 0:=by omega
  have y:=Nat.mul_le_mul_left (B^(vs.length-1)) u;rw[fX,Nat.mul_one] at y;omega
theorem TD{du vs:List Nat}{j q:Nat}(cL:j+vs.length<du.length)(e:dU du)(me:dU vs)(cZ:2≤vs.length)(h:B≤2*vs.getD (vs.length-1) 0)(r:val (du.drop (j+1))<val vs)(fz:q<B)
  (ar:q*(vs.getD (vs.length-1) 0*B+vs.getD (vs.length-2) 0)≤du.getD (j+vs.length) 0*B*B+du.getD (j+vs.length-1) 0*B+du.getD (j+vs.length-2) 0)
  (aw:∀re,re<B→re*(vs.getD (vs.length-1) 0*B+vs.getD (vs.length-2) 0)≤du.getD (j+vs.length) 0*B*B+du.getD (j+vs.length-1) 0*B+du.getD (j+vs.length-2) 0→re≤q):
  fk du j (vs.length+1)/val vs≤q∧q≤fk du j (vs.length+1)/val vs+1:=by
 obtain⟨m,hm⟩:∃m,vs.length=m+2:=⟨vs.length-2,by omega⟩;obtain⟨_,t2,t3⟩:=ti cL me r;refine EV (fk du j (vs.length+1)) (val vs) q m (fk du j m) (fk vs 0 m) _ _ _ _ _ ?_ ?_ (tf _ _ _ e) (tf _ _ _ me) h fz ar aw ?_
 ·rw[hm,gx du j (m+2) (by omega),gx du j (m+1) (by omega),gx du j m (by omega),show B^(m+2)=B^m*B*B by rw[Nat.pow_succ,Nat.pow_succ],show B^(m+1)=B^m*B from Nat.pow_succ ..,show j+(m+2)-1=j+(m+1) by omega,show j+(m+2)-2=j+m by omega];generalize du.getD (j+(m+2)) 0=a;generalize du.getD (j+(m+1)) 0=b;generalize du.getD (j+m) 0=c;generalize B^m=P;rw[fq,fq];have dn:P*B*B*a=a*B*B*P:=by ac_rfl
  have u:P*B*b=b*B*P:=by ac_rfl
  have y:P*c=c*P:=eM _ _;omega
 ·have:=tg vs;rw[hm] at this ⊢;rw[this,gx vs 0 (m+1) (by omega),gx vs 0 m (by omega),Nat.pow_succ,bh,bh,show m+2-1=m+1 by omega,show m+2-2=m by omega,fq];generalize vs.getD (m+1) 0=b;generalize vs.getD m 0=c;generalize B^m=P;have u:P*B*b=b*B*P:=by ac_rfl
  have y:P*c=c*P:=eM _ _;omega
 ·rw[t3];have bS:=e.getD j;have dB:=Nat.mul_le_mul_left B t2;rw[Nat.succ_eq_add_one,fX,Nat.mul_one] at dB;omega
theorem Ii(T P C D W q V r:Nat)(hm:V*q+r=W):T+P*r+P*((q+C*D)*V)=T+P*W+P*C*(D*V):=by subst hm;rw[fq,fX,fX,eM q V,hb P C,hb C D];omega
theorem aam{du vs:List Nat}{j:Nat}(cL:j+vs.length<du.length)(e:dU du)(me:dU vs)(h:val (du.drop (j+1))<val vs):fk du j (vs.length+1)/val vs<B:=by
 obtain⟨t1,t2,t3⟩:=ti cL me h;have r:0<val vs:=by omega
 rw[Nat.div_lt_iff_lt_mul r,t3];have bS:=e.getD j;have dB:=Nat.mul_le_mul_left B t2;rw[Nat.succ_eq_add_one,fX,Nat.mul_one] at dB;omega
theorem NV{du e os vs:List Nat}{U0 j:Nat}(bU:e.length=du.length)(cL:j+vs.length<du.length)(y:dU du)(me:dU vs)(h:j<os.length)
  (hinv:val du+B^(j+1)*(val (os.drop (j+1))*val vs)=U0)(r:val (du.drop (j+1))<val vs)
  (u:∀k,(k<j∨j+vs.length<k)→e.getD k 0=du.getD k 0)(hw:fk e j (vs.length+1)=fk du j (vs.length+1)%val vs):
  fk du j (vs.length+1)/val vs<B∧val e+B^j*(val ((os.set j (fk du j (vs.length+1)/val vs)).drop j)*val vs)=U0∧val (e.drop j)<val vs:=by
 obtain⟨t1,t2,t3⟩:=ti cL me r;have A:0<val vs:=by omega
 have fz:=aam cL y me r;have F:e.drop (j+vs.length+1)=du.drop (j+vs.length+1):=E4 bU _ (fun k cK=>u k (by omega));have H:e.take j=du.take j:=E3 bU _ (fun k cK=>u k (by omega));have d1:=te du j (vs.length+1) (by omega);have d2:=te e j (vs.length+1) (by omega);rw[show j+(vs.length+1)=j+vs.length+1 by omega] at d1 d2;rw[F,t1,hw] at d2;rw[t1] at d1;have s1:=lG du j (by omega);have s2:=lG e j (by omega);rw[H] at s2;have hm:=Nat.div_add_mod (fk du j (vs.length+1)) (val vs);have gH:=mT (os.set j (fk du j (vs.length+1)/val vs)) j (by simpa using h);rw[gj h,ta (i:=j+1) (j:=j) (by omega)] at gH;generalize fk du j (vs.length+1)=W at *;refine⟨fz,?_,by rw[d2,Nat.mul_zero,Nat.add_zero];exact Nat.mod_lt W A⟩;rw[Nat.mul_zero,Nat.add_zero] at d1 d2;rw[gH,←hinv,s2,s1,d1,d2,Nat.pow_succ];exact Ii _ _ _ _ _ _ _ _ hm
theorem NW{b vs:List Nat}{c:Nat}(A:dU b)(Y:fr b)(F:b≠[])(me:dU vs)(H:fr vs)(bX:val vs=val b*2^c)(ar:2147483648≤b.getD (b.length-1) 0*2^c)(aw:b.getD (b.length-1) 0*2^c<4294967296):
  vs.length=b.length∧B≤2*vs.getD (vs.length-1) 0:=by
 have bU:0<b.length:=List.length_pos_iff.2 F;have I:=Nat.two_pow_pos c;have e:=val_succ b (b.length-1) (by omega);rw[show b.length-1+1=b.length by omega,List.take_length] at e;have J:=ik (b.take (b.length-1)) (A.take _);rw[show(b.take (b.length-1)).length=b.length-1 by simp] at J;have M:B=4294967296:=rfl;have Z:2^c≤2147483648*2:=by
  by_cases h:b.getD (b.length-1) 0=0
  ·rw[h] at ar;omega
  ·have:=gn (2^c) (show 1≤b.getD (b.length-1) 0 by omega);omega
 have N:val vs<B^b.length:=by
  rw[bX,e,show B^b.length=B^(b.length-1)*B by rw[←Nat.pow_succ];congr 1;omega];have O:(b.getD (b.length-1) 0+1)*2^c≤B:=by
   have aa:c≤32:=by
    by_cases a0:c≤32
    ·exact a0
    ·have:2^33≤2^c:=Nat.pow_le_pow_right (by omega) (by omega);omega
   have r:B=2^(32-c)*2^c:=by rw[←Nat.pow_add,uX];congr 1;omega
   have:b.getD (b.length-1) 0<2^(32-c):=by rw[←M,r] at aw;exact Nat.lt_of_mul_lt_mul_right aw
   rw[r];exact gn _ this
  have U:(val (b.take (b.length-1))+B^(b.length-1)*b.getD (b.length-1) 0)*2^c<B^(b.length-1)*((b.getD (b.length-1) 0+1)*2^c):=by rw[←hb];apply Nat.mul_lt_mul_of_pos_right _ I;rw[fX,Nat.mul_one];omega
  exact gy U (Nat.mul_le_mul_left _ O)
 have V:B^(b.length-1)*2147483648≤val vs:=by
  rw[bX,e,fq,hb]
  have:=Nat.mul_le_mul_left (B^(b.length-1)) ar;omega
 have ab:=Nat.pow_pos (n:=b.length-1) hC;have eu:vs≠[]:=fun h=>by subst h;simp [val] at V;omega
 have ac:vs.length≤b.length:=rC H N;have ad:b.length≤vs.length:=by
  have ae:=ik vs me;by_cases h:b.length≤vs.length
  ·exact h
  ·have:B^vs.length≤B^(b.length-1):=pe (by omega);omega
 have hlen:vs.length=b.length:=by omega
 refine⟨hlen,?_⟩;have u:=val_succ vs (vs.length-1) (by omega);rw[show vs.length-1+1=vs.length by omega,List.take_length] at u;have y:=ik (vs.take (vs.length-1)) (me.take _);rw[show(vs.take (vs.length-1)).length=vs.length-1 by simp] at y;rw[hlen] at u y ⊢;by_cases h:B≤2*vs.getD (b.length-1) 0
 ·exact h
 ·have bS:vs.getD (b.length-1) 0+1≤2147483648:=by omega
  have dB:=Nat.mul_le_mul_left (B^(b.length-1)) bS;rw[fX,Nat.mul_one] at dB;omega
theorem NX{a b du:List Nat}{c V:Nat}(h:dU a)(r:fr b)(e:b≠[])(u:dU du)(hle:b.length≤a.length)(bU:du.length=a.length+1)(hu:val du=val a*2^c)(y:V=val b*2^c):val (du.drop (a.length-b.length+1))<V:=by have A:0<b.length:=List.length_pos_iff.2 e;rw[←zP du _ u (by omega),Nat.div_lt_iff_lt_mul (Nat.pow_pos hC),hu,y];have ar:=ik a h;have aw:=qz b r e;have bS:=gn (B^(a.length-b.length+1)) aw;rw[←Nat.pow_add,show b.length-1+(a.length-b.length+1)=a.length by omega] at bS;rw[hb,eM (2^c),←hb];exact Nat.mul_lt_mul_of_pos_right (gy ar bS) (Nat.two_pow_pos c)
end Go.hV
end
section
namespace Go.gF
open Go.Ab Go.hV
variable(G:Nat→af)(X:Nat→List af→ah→ai)
theorem TE(s:ah)(oe j N q:Nat)(g8 vs:List Nat)(pL:af)(eO:hl s oe g8)(nz:g8.length=N)(bX:j5 pL vs)(me:dU vs)(cL:j+vs.length<N)(hp:N<4294967296)(h:0<vs.length)(CT:dU g8)(r:q<B)(u:0<val vs)(y:fk g8 j (vs.length+1)/val vs≤q)(A:q≤fk g8 j (vs.length+1)/val vs+1):
  ∃e,aB aF G X 138 [.cH (.g s.aa oe) 0 N N 1,.int .i64 (j:Int),pL,.int .u64 (q:Int)] s=.ok (.int .u32 ((fk g8 j (vs.length+1)/val vs:Nat):Int)) (s.put oe e)∧e.length=N∧dU e∧(∀k,(k<j∨j+vs.length<k)→e.getD k 0=g8.getD k 0)∧fk e j (vs.length+1)=fk g8 j (vs.length+1)%val vs:=by
 rw[HX,Tg,(bX.rd s).len]
 have:=E2 G X s oe j N q g8 vs pL eO nz bX me cL hp h CT r u y A vs.length 0 g8 0 0 (by omega) nz CT hC (by omega) (fun _ _=>rfl) (by simp [zO]);rw[MU eO] at this;exact this
theorem E5(s:ah)(c U0 N M oe e:Nat)(pL:af)(vs:List Nat)(bX:j5 pL vs)(me:dU vs)(cZ:2≤vs.length)(U:B≤2*vs.getD (vs.length-1) 0)(az:N=M-1+vs.length+1)(aB:0<M)(hp:N<4294967296)(eu:oe≠e)(a0:c<4294967296):
  ∀(m k:Nat) (du os:List Nat) (S:ah),k+m=M→Child s S→hl S oe du→hl S e os→du.length=N→os.length=M→dU du→dU os→val du+B^m*(val (os.drop m)*val vs)=U0→val (du.drop m)<val vs→
  ∃v w q r,sR (aQ aF G X) (.int .i64 (c:Int)) pL (.cH (.l oe) 0 N N 1) (.cH (.l e) 0 M M 1) (.int .i64 (M:Int)) (.int .i64 (k:Int)) S=.ok (.ed [v,w]) s∧j5 v q∧dU q∧fr q∧j5 w r∧dU r∧fr r∧val q=U0/val vs∧val r=U0%val vs/2^c:=by
 intro m
 induction m with
 |zero=>
  intro k du os S cK I hu F lu gz y J hinv u;have h:¬((k:Int)<(M:Int)):=by omega
  have A:=hu.rd N N (by omega) (aC _);rw[iV (by omega)] at A;have ad:=nl G X S _ du A (by omega);have V:=A.cut (hD du du.length) (j3 _ _);obtain⟨w,r,lost,ae,Y,ag,ai,Uu⟩:=TA G X S _ (du.take (hD du du.length)) c V (y.take _) a0 (by have:=j3 du du.length;simp;omega);obtain⟨v,aj,bS⟩:∃v,j5 v (gC os)∧(aQ aF G X).bj S (fun v s=>(aQ aF G X).aW false [some v,some w] s) 135 [.cH (.g S.aa e) 0 M M 1]=.ok (.ed [v,w]) s:=by
   have aV:=F.rd M M (by omega) (aC _);rw[iV (by omega)] at aV;rw[aZ (nl G X S _ os aV (by omega))];have hle:=j3 os os.length;obtain⟨v,ar,aw⟩:=nR (S:=S) (j:=e) (off:=0) (cap:=M) (gC os) (n:=hD os os.length) (iM os).symm F (by rw[bY,iM];simp [gC,List.map_take]) (by rw[iM];simpa using hle)
   exact⟨v,aw,k5 I _ _ _ _ ar (Y.freeze S)⟩
  rw[Nat.pow_zero,Nat.one_mul,bY] at hinv;rw[bY] at u;have O:0<val vs:=by omega
  have ak:val (du.take (hD du du.length))=val du:=kM du;refine⟨v,w,gC os,r,?_,aj,l4 J,jM os,Y,ag,ai,?_,?_⟩
  ·rw[uO,bl,bw,if_neg (by simpa using h),Er,iY,aZ ad,V.ao,aA,aZ ae,gX 0 _ w rfl,gX 1 _ _ rfl,iY];exact bS
  ·rw[kM,←hinv,Nat.add_mul_div_right _ _ O,Nat.div_eq_of_lt u,bh]
  ·rw[Uu,ak,←hinv,Nat.add_mul_mod_self_right,hT u]
 |succ m al=>
  intro k du os S cK I hu F lu gz y J hinv u;have h:(k:Int)<(M:Int):=by omega
  have cL:m+vs.length<du.length:=by omega
  have A:=hu.rd N N (by omega) (aC _);rw[iV (by omega)] at A;obtain⟨am,an,he⟩:=TC G X S _ pL du vs m A (bX.rd S) y me cZ cL (by omega) U (aal cL me (by omega) u);have Z:=TD cL y me cZ U u he.lt he.le he.max;have O:0<val vs:=by omega
  obtain⟨H,ap,aq,au,av,hw⟩:=TE G X S oe m N am du vs pL hu lu bX me (by omega) hp (by omega) y he.lt O Z.1 Z.2;obtain⟨d1,d2,d3⟩:=NV (U0:=U0) (j:=m) (os:=os) (by omega) cL y me (by omega) hinv u av hw;have ab:hl (S.put oe H) e os:=F.I6 eu _;have gE:=fun x (k:bd)=>ab.gE (T:=aF) (G:=G) (X:=X) m M M x (by omega) (by omega) k
  have ax:=fun(S:ah) (k:bd)=>iK (T:=aF) (G:=G) (X:=X) (s:=S) (k:=k) M (by omega) (by omega)
  have ac:=fun(S:ah) (l9:bd)=>lR (T:=aF) (G:=G) (X:=X) (s:=S) (k:=l9) (M-1) k (by omega) (by omega)
  have ay:=fun(S:ah) (l9:bd)=>ij (T:=aF) (G:=G) (X:=X) (s:=S) (k:=l9) k (by omega)
  rw[show M-1-k=m by omega] at ac
  have:=al (k+1) H _ _ (by omega) ((I.put oe H).put e _) ((hu.put H).I6 (Ne.symm eu) _) (ab.put (os.set m (fk du m (vs.length+1)/val vs))) aq (by simpa using gz) au (J.set _ _ d1) d2 d3;refine Exists.imp (fun v ar=>Exists.imp (fun w aw=>Exists.imp (fun q bS=>Exists.imp (fun r dB=>⟨?_,dB.2⟩) bS) aw) ar) this;rw[uO,bl,bw,if_pos (by simpa using h),Ep,aY,ax,ac,iY,aA,bX.ao,aZ an];simp -implicitDefEqProofs only[aA,iY,bX.ao];rw[nQ ap (nm _ _ _)];simp -implicitDefEqProofs only[aA];rw[gE,Eo,ay];exact dB.1
theorem TF(s:ah)(H O:af)(a b:List Nat)(u:j5 H a)(A:j5 O b)(F:dU a)(J:dU b)(ae:fr a)(I:fr b)(M:b≠[])(hp:a.length<2147483648)(a7:b.length<2147483648):
  ∃v w q r,aB aF G X 114 [H,O] s=.ok (.ed [v,w]) s∧j5 v q∧dU q∧fr q∧j5 w r∧dU r∧fr r∧val q=val a/val b∧val r=val a%val b:=by
 have ai:=Child.ag s;have a8:0<b.length:=List.length_pos_iff.2 M;have aq:=Tu G X s.ag H O a b (u.rd _) (A.rd _) F J ae I (by omega) (by omega);have aj:=fun(S:ah) (k:bd)=>(u.rd S).len (T:=aF) (G:=G) (X:=X) k S
 have aa:=fun(S:ah) (k:bd)=>(A.rd S).len (T:=aF) (G:=G) (X:=X) k S
 rw[H3,Tl,u.ao,A.ao,aZ aq];by_cases N:val a<val b
 ·refine⟨.bx 1 [] .nil,H,[],a,?_,j5.nil,(fun x (h:x∈[])=>absurd h rc:dU []),(fun h=>absurd rfl h:fr []),u,F,ae,?_,?_⟩
  ·have:qg (val a) (val b)<0:=by simp [qg,N]
   rw[bl,bw,if_pos (by simpa using this)];exact k5 ai _ _ _ _ rfl (u.freeze _)
  ·rw[Nat.div_eq_of_lt N];rfl
  ·rw[hT N]
 have hle:val b≤val a:=Nat.not_lt.1 N;have hlen:b.length≤a.length:=by
  by_cases h:b.length≤a.length
  ·exact h
  ·have:=oH F I (Nat.not_le.1 h);omega
 have au:¬qg (val a) (val b)<0:=by simp -implicitDefEqProofs only[qg,if_neg N];split<;> decide
 rw[bl,bw,if_neg (by simpa using au),Et,aa,bO,bw];by_cases ar:b.length=1
 ·rw[if_pos (by simp [ar])];have ab:=fun(k:bd)=>(A.rd s.ag).get (T:=aF) (G:=G) (X:=X) .i64 0 (by omega) k
  have ac:val b=b.getD 0 0:=by
   match b,ar with
   |[x],_=>simp [val]
  have cW:b.getD 0 0≠0:=by rw[←ac];intro e;exact M ((uW I).1 e)
  have ak:=J.getD 0;obtain⟨v,q,av,V,aw,ax,ay⟩:=Tx G X s.ag H a (b.getD 0 0) (u.rd _) F cW ak (by omega);have ap:=j5.fo [val a%b.getD 0 0];have az:=nl G X s.ag _ _ (ap.rd s.ag) (by simp);have aD:val a%b.getD 0 0<B:=Nat.lt_trans (Nat.mod_lt _ (by omega)) ak;have or:dU [val a%b.getD 0 0]:=fun x a1=>by rw[List.mem_singleton.1 a1];exact aD
  refine⟨v,_,q,gC [val a%b.getD 0 0],?_,V,aw,ax,ap.cut _,l4 or,jM _,by rw[ay,ac],by rw[kM,ac];simp [val]⟩;refine(ab _).trans ?_;rw[u.ao,aA,aZ av,gX 0 _ v rfl,gX 1 _ _ rfl];have fo:=fun(k:bd)=>uD (T:=aF) (G:=G) (X:=X) (s:=s.ag) (k:=k) [val a%b.getD 0 0]
  refine(fo _).trans ?_;rw[ap.ao,aZ az];exact k5 ai _ _ _ _ (V.freeze _) ((ap.cut _).freeze _)
 ·rw[if_neg (by simp;omega),Es];have ab:=fun(k:bd)=>(A.rd s.ag).get (T:=aF) (G:=G) (X:=X) .i64 (b.length-1) (by omega) k
  have aE:=fun(S:ah) (k:bd)=>iK (T:=aF) (G:=G) (X:=X) (s:=S) (k:=k) b.length (by omega) (by omega)
  have a9:=lk;have bP:=J.getD (b.length-1);have g6:=I M;obtain⟨c,aG,ba,aH,aI⟩:=Tw G X s.ag (b.getD (b.length-1) 0) (by omega) g6;obtain⟨pL,vs,aJ,V,me,aK,Y⟩:=EU G X s.ag O b c (A.rd _) J (by omega) (by omega);obtain⟨bb,gk⟩:=NW J I M me aK Y aH aI;have aL:=fun S k=>nD G X S k a.length (by omega)
  have aM:=fun(S:ah) (k:bd)=>lR (T:=aF) (G:=G) (X:=X) (s:=S) (k:=k) a.length b.length hlen (by omega)
  have aN:=fun S k=>nD G X S k (a.length-b.length) (by omega)
  have aO:=fun(S:ah) (k:bd)=>o5 (T:=aF) (G:=G) (X:=X) (s:=S) (k:=k) (U 0) 4 (a.length+1) (a.length+1) (aC _) (by omega)
  have aP:=fun(S:ah) (k:bd)=>o5 (T:=aF) (G:=G) (X:=X) (s:=S) (k:=k) (U 0) 4 (a.length-b.length+1) (a.length-b.length+1) (aC _) (by omega)
  let y:=s.ag.new (.cells (List.replicate (a.length+1) (U 0)))
  have A1:hl y s.ag.own.length (List.replicate (a.length+1) 0):=hl.make _ _;obtain⟨bc,ad,aQ,tz,aR,aS,el⟩:=EU G X y H a c (u.rd _) F (by omega) (by omega);have aT:ad.length≤a.length+1:=by
   apply rC aS;rw[el,Nat.pow_succ];have aU:=ik a F;have aV:2^c≤B:=by have:2^c≤2^32:=Nat.pow_le_pow_right (by omega) (by omega);rw[uX];exact this
   exact gy (Nat.mul_lt_mul_of_pos_right aU (Nat.two_pow_pos c)) (Nat.mul_le_mul_left _ aV)
  let du:=ad++(List.replicate (a.length+1) 0).drop ad.length
  have al:du.length=a.length+1:=by simp [du];omega
  have am:val du=val a*2^c:=by simp -implicitDefEqProofs only[du,nV,List.drop_replicate,EN,Nat.mul_zero,Nat.add_zero,el]
  have an:dU du:=fun x a1=>by
   rcases List.mem_append.1 a1 with h|h
   ·exact aR x h
   ·exact qf _ x (List.mem_of_mem_drop h)
  have aW:=fun(k:bd)=>A1.copy (T:=aF) (G:=G) (X:=X) (n:=a.length+1) (tz.rd y) (by simpa using aT) (by simp) k
  have A2:hl (y.put s.ag.own.length du) s.ag.own.length du:=A1.put du
  let Z:=(y.put s.ag.own.length du).new (.cells (List.replicate (a.length-b.length+1) (U 0)))
  have A3:hl Z s.ag.own.length du:=A2.new _;have A4:hl Z (y.put s.ag.own.length du).own.length (List.replicate (a.length-b.length+1) 0):=hl.make _ _;have aX:Child s Z:=(((Child.ag s).new _).put _ _).new _;have eu:s.ag.own.length≠(y.put s.ag.own.length du).own.length:=by have:=A2.lt;omega
  have a0:=E5 G X s c (val a*2^c) (a.length+1) (a.length-b.length+1) s.ag.own.length (y.put s.ag.own.length du).own.length pL vs V me (by omega) gk (by omega) (by omega) (by omega) eu (by omega) (a.length-b.length+1) 0 du _ Z (by omega) aX A3 A4 al (by simp) an (qf _)
   (by rw[am,lm (by simp)];simp [val]) (NX F I M an hlen al am Y)
  obtain⟨v,w,q,r,gZ,g2,a2,n9,iO,a3,a4,a5,a6⟩:=a0;refine⟨v,w,q,r,?_,g2,a2,n9,iO,a3,a4,?_,?_⟩
  ·rw[aa,aE];refine(ab _).trans ?_;rw[aA,aZ aG,A.ao,aA,aZ aJ,aj,aL];refine(aO _ _).trans ?_;rw[u.ao];refine(aZ aQ).trans ?_;refine(aW _).trans ?_;rw[aj,aa,aM,aN];refine(aP _ _).trans ?_;rw[aY];exact gZ
  ·rw[a5,Y,Nat.mul_div_mul_right _ _ (Nat.two_pow_pos c)]
  ·rw[a6,Y,Nat.mul_mod_mul_right,Nat.mul_div_cancel _ (Nat.two_pow_pos c)]
def i5(neg:Bool)(l:List Nat):Bool:=if l.length=0 then !neg else decide (l.length≤128)&&decide (l.getD (l.length-1) 0≠0)
abbrev l5(neg:Bool)(v:af):af:=.agg [.bool neg,v]
theorem vK(s:ah)(neg:Bool)(v:af)(l:List Nat)(h:j5 v l)(u:l.length<9223372036854775807):aB aF G X 87 [l5 neg v] s=.ok (.bool (i5 neg l)) s:=by
 have y:=Child.ag s;have e:=fun(S:ah) (k:bd)=>(h.rd S).len (T:=aF) (G:=G) (X:=X) k S
 rw[M9,ZE];by_cases eO:l.length=0
 ·have ml:(l.length:Int)=0:=by omega
  simp -implicitDefEqProofs only[↓cG,↓cU,↓cb,↓bw,↓aH,↓aK,↓aD,↓aM,↓aS,↓aT,↓aE,↓aN,↓aI,↓aY,↓a3,↓bg,↓dC,↓ay,↓bH,↓ci,↓dc,↓cl,↓cm,↓cj,↓cn,↓co,↓cp,↓cq,↓cr,↓ct,↓bI,↓bJ,↓bK,↓dd,↓de,↓df,↓dg,↓dh,↓di,↓dj,↓dk,↓dl,↓cv,↓cw,↓cx,↓bO,↓cf,↓bl,↓c6,↓b8,↓cR,↓c4,↓dm,↓a4,↓aU,↓a5,↓aR,↓aG,↓a6,↓cX,↓cc,↓ck,↓cy,↓cz,↓cA,↓cB,↓cC,↓cD,↓cE,↓cF,↓dI,↓dJ,↓ds,↓dS,↓cM,↓cN,↓cV,↓dt,bY,dO,b9,decide_eq_false_iff_not,ite_not,↓reduceIte,be,aA,bi,bL,bh,bT,ca,Nat.reduceAdd,bz,↓bn,Nat.reduceLeDiff,aC,c2,c7,dP,dG,b5,↓e,eq_true ml,i5,if_pos eO]
 ·have ml:¬(l.length:Int)=0:=by omega
  by_cases ar:l.length≤128
  ·have dn:(l.length:Int)≤128:=by omega
   have g:=fun(k:bd)=>(h.rd s.ag).get (T:=aF) (G:=G) (X:=X) .i64 (l.length-1) (by omega) k
   have r:=fun(S:ah) (k:bd)=>iK (T:=aF) (G:=G) (X:=X) (s:=S) (k:=k) l.length (by omega) (by omega)
   simp -implicitDefEqProofs only[↓cG,↓cU,↓cb,↓bw,↓aH,↓aK,↓aD,↓aM,↓aS,↓aT,↓aE,↓aN,↓aI,↓aY,↓a3,↓bg,↓dC,↓ay,↓bH,↓ci,↓dc,↓cl,↓cm,↓cj,↓cn,↓co,↓cp,↓cq,↓cr,↓ct,↓bI,↓bJ,↓bK,↓dd,↓de,↓df,↓dg,↓dh,↓di,↓dj,↓dk,↓dl,↓cv,↓cw,↓cx,↓bO,↓cf,↓bl,↓c6,↓b8,↓cR,↓c4,↓dm,↓a4,↓aU,↓a5,↓aR,↓aG,↓a6,↓cX,↓cc,↓ck,↓cy,↓cz,↓cA,↓cB,↓cC,↓cD,↓cE,↓cF,↓dI,↓dJ,↓ds,↓dS,↓cM,↓cN,↓cV,↓dt,bY,dO,b9,decide_eq_false_iff_not,ite_not,↓reduceIte,be,aA,bi,bL,bh,bT,ca,Nat.reduceAdd,bz,↓bn,Nat.reduceLeDiff,aC,c2,c7,dP,dG,b5,↓e,eq_false ml,xm,eq_true dn,↓r,↓g,i5,if_neg eO,dR ar,ey];congr 3;simp -implicitDefEqProofs only[ne_eq,eq_iff_iff];omega
  ·have dn:¬(l.length:Int)≤128:=by omega
   simp -implicitDefEqProofs only[↓cG,↓cU,↓cb,↓bw,↓aH,↓aK,↓aD,↓aM,↓aS,↓aT,↓aE,↓aN,↓aI,↓aY,↓a3,↓bg,↓dC,↓ay,↓bH,↓ci,↓dc,↓cl,↓cm,↓cj,↓cn,↓co,↓cp,↓cq,↓cr,↓ct,↓bI,↓bJ,↓bK,↓dd,↓de,↓df,↓dg,↓dh,↓di,↓dj,↓dk,↓dl,↓cv,↓cw,↓cx,↓bO,↓cf,↓bl,↓c6,↓b8,↓cR,↓c4,↓dm,↓a4,↓aU,↓a5,↓aR,↓aG,↓a6,↓cX,↓cc,↓ck,↓cy,↓cz,↓cA,↓cB,↓cC,↓cD,↓cE,↓cF,↓dI,↓dJ,↓ds,↓dS,↓cM,↓cN,↓cV,↓dt,bY,dO,b9,decide_eq_false_iff_not,ite_not,↓reduceIte,be,aA,bi,bL,bh,bT,ca,Nat.reduceAdd,bz,↓bn,Nat.reduceLeDiff,aC,c2,c7,dP,dG,b5,↓e,eq_false ml,xm,eq_false dn,i5,if_neg eO,b0 ar,gm]
theorem TG(s:ah)(jk y:Bool)(v1 v2:af)(h r:List Nat)(ar:j5 v1 h)(aw:j5 v2 r)(wj:h.length<9223372036854775807)(A:r.length<9223372036854775807):aB aF G X 113 [l5 jk v1,l5 y v2] s=.ok (.bool (i5 jk h&&i5 y r)) s:=by
 rw[H2,Tk];have u:=vK G X s.ag jk v1 h ar wj;have B:=vK G X s.ag y v2 r aw A;cases e:i5 jk h with
 |false=>rw[e] at u;simp -implicitDefEqProofs only[↓cG,↓cU,↓cb,↓bw,↓aH,↓aK,↓aD,↓aM,↓aS,↓aT,↓aE,↓aN,↓aI,↓aY,↓a3,↓bg,↓dC,↓ay,↓bH,↓ci,↓dc,↓cl,↓cm,↓cj,↓cn,↓co,↓cp,↓cq,↓cr,↓ct,↓bI,↓bJ,↓bK,↓dd,↓de,↓df,↓dg,↓dh,↓di,↓dj,↓dk,↓dl,↓cv,↓cw,↓cx,↓bO,↓cf,↓bl,↓c6,↓b8,↓cR,↓c4,↓dm,↓a4,↓aU,↓a5,↓aR,↓aG,↓a6,↓cX,↓cc,↓ck,↓cy,↓cz,↓cA,↓cB,↓cC,↓cD,↓cE,↓cF,↓dI,↓dJ,↓ds,↓dS,↓cM,↓cN,↓cV,↓dt,bY,dO,b9,decide_eq_false_iff_not,ite_not,↓reduceIte,be,aA,bi,bL,bh,bT,ca,Nat.reduceAdd,bz,↓bn,Nat.reduceLeDiff,aC,c2,c7,dP,dG,b5,↓(aZ u),gm]
 |true=>rw[e] at u;simp -implicitDefEqProofs only[↓cG,↓cU,↓cb,↓bw,↓aH,↓aK,↓aD,↓aM,↓aS,↓aT,↓aE,↓aN,↓aI,↓aY,↓a3,↓bg,↓dC,↓ay,↓bH,↓ci,↓dc,↓cl,↓cm,↓cj,↓cn,↓co,↓cp,↓cq,↓cr,↓ct,↓bI,↓bJ,↓bK,↓dd,↓de,↓df,↓dg,↓dh,↓di,↓dj,↓dk,↓dl,↓cv,↓cw,↓cx,↓bO,↓cf,↓bl,↓c6,↓b8,↓cR,↓c4,↓dm,↓a4,↓aU,↓a5,↓aR,↓aG,↓a6,↓cX,↓cc,↓ck,↓cy,↓cz,↓cA,↓cB,↓cC,↓cD,↓cE,↓cF,↓dI,↓dJ,↓ds,↓dS,↓cM,↓cN,↓cV,↓dt,bY,dO,b9,decide_eq_false_iff_not,ite_not,↓reduceIte,be,aA,bi,bL,bh,bT,ca,Nat.reduceAdd,bz,↓bn,Nat.reduceLeDiff,aC,c2,c7,dP,dG,b5,↓(aZ u),↓(aZ B),ey,if_true]
theorem E6(s:ah)(neg:Bool)(v:af)(l:List Nat)(h:j5 v l)(ab:dU l)(A:l.length<4294967296)(bU:(gC l).length≤128):
  ∃w,aB aF G X 115 [.bool neg,v] s=.ok (.ed [l5 (neg&&decide (gC l≠[])) w,.int .i64 0]) s∧j5 w (gC l):=by
 have F:=Child.ag s;have H:=fun(S:ah)=>nl G X S v l (h.rd _) (by omega)
 have a0:j5 (p3 v (hD l l.length)) (gC l):=h.cut _;generalize ac:p3 v (hD l l.length)=FH at *;generalize hm:gC l=m at *;have y:=fun(S:ah) (k:bd)=>(a0.rd S).len (T:=aF) (G:=G) (X:=X) k S
 have I:¬(128:Int)<(m.length:Int):=by omega
 let e:=s.ag.new (.cells [.bool false,.bx 1 [] .nil])
 let r:=e.new (.cells (List.replicate m.length (U 0)))
 have A1:hl r e.own.length (List.replicate m.length 0):=hl.make _ _;have mk:=fun(k:bd)=>o5 (T:=aF) (G:=G) (X:=X) (s:=e) (k:=k) (U 0) 4 m.length m.length (aC _) (by omega)
 have B:=fun(k:bd)=>A1.copy (T:=aF) (G:=G) (X:=X) (n:=m.length) (a0.rd r) (by simp) (by simp) k
 have ml:m++(List.replicate m.length 0).drop m.length=m:=by rw[List.drop_replicate,Nat.sub_self];simp
 rw[ml] at B;have A2:hl (r.put e.own.length m) e.own.length m:=A1.put m;have g5:Child s (r.put e.own.length m):=((F.new _).new _).put _ _;have J:(r.put e.own.length m).own[0]? =some (.cells [.bool false,.bx 1 [] .nil]):=rfl;have fin:∀b:Bool,∃w,(aQ aF G X).iJ [.bool false,.bx 1 [] .nil] [(0,1,.bool b),(1,1,.cH (.l e.own.length) 0 m.length m.length 1)] (r.put e.own.length m) (fun M s=>(aQ aF G X).bm s (fun ad s=>(aQ aF G X).aW false [k3 s (.ref (.l 0) 0) (some 2),some (.int .i64 0)] s) 2 (.ref (.l 0) 0) (af.ao s.aa M))=.ok (.ed [l5 b w,.int .i64 0]) s∧j5 w m:=fun b=>by
  have N:=fun(k:bd)=>qw (T:=aF) (G:=G) (X:=X) (S:=r.put e.own.length m) (k:=k) (n:=2) (vs:=[.bool b,.cH (.g (r.put e.own.length m).aa e.own.length) 0 m.length m.length 1]) J rfl rfl rfl
  let u:ah:={r.put e.own.length m with own:=(r.put e.own.length m).own.set 0 (.cells [.bool b,.cH (.g (r.put e.own.length m).aa e.own.length) 0 m.length m.length 1])}
  have A3:hl u e.own.length m:=by have:u.own[1]? =(r.put e.own.length m).own[1]?:=ix (by decide);exact this.trans A2
  have O:Child s u:=⟨g5.up,g5.ro⟩;obtain⟨w,ar,aw⟩:=nR (S:=u) (j:=e.own.length) (off:=0) (cap:=m.length) (n:=m.length) m rfl A3 (by rw[bY];exact iV (by simp)) (by simp);refine⟨w,?_,aw⟩;have A:∀k:bd,(aQ aF G X).iJ [.bool false,.bx 1 [] .nil] [(0,1,.bool b),(1,1,.cH (.l e.own.length) 0 m.length m.length 1)] (r.put e.own.length m) k=k (.agg [.bool b,.cH (.g (r.put e.own.length m).aa e.own.length) 0 m.length m.length 1]) (r.put e.own.length m):=fun k=>rfl
  rw[A,be];refine(N _).trans ?_;have V:k3 u (.ref (.l 0) 0) (some 2)=some (.agg [.bool b,.cH (.g (r.put e.own.length m).aa e.own.length) 0 m.length m.length 1]):=rz (j:=0) (by rfl) rfl;show(aQ aF G X).aW false [k3 u (.ref (.l 0) 0) (some 2),some (.int .i64 0)] u=_;rw[V];refine k5 O _ _ _ _ ?_ rfl;show(e5 (et u) [_,_]).map af.agg=_;simp -implicitDefEqProofs only[e5];rw[show et u (.bool b)=some (.bool b) from rfl,show et u (.cH (.g (r.put e.own.length m).aa e.own.length) 0 m.length m.length 1)=some w from ar];rfl
 have Y:decide ((0:Int)<(m.length:Int))=decide (m≠[]):=by
  congr 1;cases m with
  |nil=>simp
  |cons x m=>simp
 obtain⟨w,hw,Z⟩:=fin (neg&&decide (m≠[]));refine⟨w,?_,Z⟩;rw[H4,Tm,cG,h.ao,aZ (H _),y,b8,bw,if_neg (by simpa using I),Eu,y];refine(mk _).trans ?_;refine(B _).trans ?_;rw[cj,ci];cases neg with
 |false=>exact hw
 |true=>
  rw[if_pos rfl]
  dsimp only
  rw[y,b8,Y];rw[ey] at hw;rw[ey];exact hw
theorem E7(s:ah)(v:af)(l:List Nat)(h:j5 v l)(r:dU l)(bU:l.length≤2):aB aF G X 116 [v] s=.ok (.int .u64 (val l:Int)) s:=by
 have H:=Child.ag s;have u:=fun(S:ah) (k:bd)=>(h.rd S).len (T:=aF) (G:=G) (X:=X) k S
 have step:∀(i x:Nat),i<l.length→x=val (l.take i)→oF (aQ aF G X) v (.int .u64 (x:Int)) (.int .i64 (l.length:Int)) (.int .i64 (i:Int)) s.ag=oF (aQ aF G X) v (.int .u64 ((val (l.take (i+1)):Nat):Int)) (.int .i64 (l.length:Int)) (.int .i64 ((i+1:Nat):Int)) s.ag:=fun i x bZ a1=>by
  have ar:(i:Int)<(l.length:Int):=by omega
  have g:=fun(k:bd)=>(h.rd s.ag).get (T:=aF) (G:=G) (X:=X) .i64 i bZ k
  have cW:=r.getD i;rw[lk] at cW;have A:=fun(S:ah) (k:bd)=>ii (T:=aF) (G:=G) (X:=X) (s:=S) (k:=k) (l.getD i 0) cW
  have zA:∀(S:ah) (k:bd),(aQ aF G X).aj S k (al .mul (.int .i64 32) (.int .i64 (i:Int)))=k (.int .i64 ((32*i:Nat):Int)) S:=fun S k=>by rw[gq,e4 _ (by omega) (by omega)];congr 2
  have s1:=fun(S:ah) (k:bd)=>AQ (T:=aF) (G:=G) (X:=X) (s:=S) (k:=k) .i64 (l.getD i 0) (32*i) (by omega)
  have B:=fun(S:ah) (l9:bd)=>ij (T:=aF) (G:=G) (X:=X) (s:=S) (k:=l9) i (by omega)
  have F:=ik (l.take i) (r.take i);have hle:(l.take i).length=i:=by simp;omega
  rw[hle,uX,←Nat.pow_mul] at F;have vs:=val_succ l i bZ;have gH:∀(S:ah) (k:bd),(aQ aF G X).aj S k (al .or (.int .u64 (x:Int)) (.int .u64 ((l.getD i 0*2^(32*i)%18446744073709551616:Nat):Int)))=k (.int .u64 ((val (l.take (i+1)):Nat):Int)) S:=fun S k=>by
   have I:l.getD i 0*2^(32*i)<18446744073709551616-2^(32*i)+1:=by
    have:i=0∨i=1:=by omega
    rcases this with rfl |rfl
    ·show l.getD 0 0*1<18446744073709551616-1+1;omega
    ·show l.getD 1 0*4294967296<18446744073709551616-4294967296+1;omega
   have fS:2^(32*i)≤4294967296:=by
    have:i=0∨i=1:=by omega
    rcases this with rfl |rfl <;> simp
   rw[hT (by omega)];have e:al .or (.int .u64 (x:Int)) (.int .u64 ((l.getD i 0*2^(32*i):Nat):Int))=some (.int .u64 (IntKind.wrap .u64 ((BitVec.ofInt 64 (x:Int) ||| BitVec.ofInt 64 ((l.getD i 0*2^(32*i):Nat):Int)).toNat:Int))):=by simp -implicitDefEqProofs only[al,gS,↓reduceIte];rfl
   rw[e,F7 _ _ (by omega) (by omega),cU,ji];congr 2
   have:x ||| l.getD i 0*2^(32*i)=x+l.getD i 0*2^(32*i):=by rw[Nat.or_comm,eM,←Nat.two_pow_add_eq_or_of_lt (by omega),Nat.add_comm]
   rw[this,vs,a1,uX,←Nat.pow_mul,eM (2^(32*i))];omega
  rw[uP,bl,bw,if_pos (by simpa using ar),Ew,g,A,zA,s1,gH,Ev,B]
 have last:oF (aQ aF G X) v (.int .u64 (val l:Int)) (.int .i64 (l.length:Int)) (.int .i64 (l.length:Int)) s.ag=.ok (.int .u64 (val l:Int)) s:=by rw[uP,bl,bw,if_neg (by simp),Ex,aR]
 rw[H5,Tn,u]
 match l,bU with
 |[],_=>exact last
 |[x],_=>exact(step 0 0 (by simp) rfl).trans last
 |[x,y],_=>exact((step 0 0 (by simp) rfl).trans (step 1 _ (by simp) rfl)).trans last
theorem f5{s:ah}{k:bd}(op:bd→ai):(aQ aF G X).ae (.bool true) true op s k=op k:=rfl
theorem gP{s:ah}{k:bd}(op:bd→ai):(aQ aF G X).ae (.bool false) true op s k=k (.ed []) s:=rfl
theorem ee{s:ah}{k:bd}(op:bd→ai):(aQ aF G X).ae (.bool false) false op s k=op k:=rfl
theorem hi{s:ah}{k:bd}(op:bd→ai):(aQ aF G X).ae (.bool true) false op s k=k (.ed []) s:=rfl
theorem fH{s:ah}{k:bd}(a b:af):(aQ aF G X).bs s k (.bool true) a b=k a s:=rfl
theorem ew{s:ah}{k:bd}(a b:af):(aQ aF G X).bs s k (.bool false) a b=k b s:=rfl
theorem ek(a b:ai):(aQ aF G X).aO (.bool true) a b=a:=rfl
theorem eg(a b:ai):(aQ aF G X).aO (.bool false) a b=b:=rfl
theorem E8{s S:ah}(e:Child s S){j:Nat}{cs:List af}(h:S.own[j]? =some (.cells cs))(a0:cs.length=2)(b:Bool){w:af}{m:List Nat}(hw:j5 w m)(n:Int):
  (aQ aF G X).bm S (fun r s=>(aQ aF G X).aW false [k3 s (.ref (.l j) 0) (some 2),some (.int .i64 n)] s) 2 (.ref (.l j) 0) (.agg [.bool b,w])=.ok (.ed [l5 b w,.int .i64 n]) s:=by
 rw[qw (n:=2) h rfl a0 (by simp -implicitDefEqProofs only[List.all_cons,hw.en,List.all_nil];rfl)];have cL:=(dy.1 h).1;rw[rz (n:=2) (cs:=[.bool b,w]) (by simp [cL]) rfl];have g5:Child s {S with own:=S.own.set j (.cells [.bool b,w])}:=⟨e.up,e.ro⟩;refine k5 g5 (.agg [.bool b,w]) (.int .i64 n) (.agg [.bool b,w]) (.int .i64 n) ?_ rfl;show(e5 (et _) [_,_]).map af.agg=_;simp -implicitDefEqProofs only[e5];rw[hw.et,show et _ (.bool b)=some (.bool b) from rfl];rfl
theorem Ij(s S:ah)(y:Child s S)(A:S.own[0]? =some (.cells [.bool false,.bx 1 [] .nil])):∀(b m n:Nat),m<b→n<18446744073709551616→m<18446744073709551616→
  ∃w r,vt (aQ aF G X) (.ref (.l 0) 0) (.int .u64 (n:Int)) (.int .u64 (m:Int)) S=.ok (.ed [l5 false w,.int .i64 0]) s∧j5 w r∧dU r∧fr r∧val r=Nat.gcd n m:=by
 intro b
 induction b with
 |zero=>intro m n h;omega
 |succ b B=>
  intro m n N cZ hm;rw[GK,b8];by_cases eO:m=0
  ·subst eO;have F:=fun(S:ah) (k:bd)=>dt (T:=aF) (G:=G) (X:=X) (s:=S) (k:=k) .u64 n
   have H:=fun(S:ah) (k:bd)=>dt (T:=aF) (G:=G) (X:=X) (s:=S) (k:=k) .u64 (n/4294967296)
   have fo:=fun(k:bd)=>uD (T:=aF) (G:=G) (X:=X) (s:=S) (k:=k) [n%4294967296,n/4294967296%4294967296]
   have ap:=j5.fo [n%4294967296,n/4294967296%4294967296];have e:dU [n%4294967296,n/4294967296%4294967296]:=fun x a1=>by rw[lk];simp at a1;omega
   have bX:val [n%4294967296,n/4294967296%4294967296]=n:=by simp -implicitDefEqProofs only[val,lk];omega
   have bU:(gC [n%4294967296,n/4294967296%4294967296]).length≤128:=by
    rw[iM]
    have:=j3 [n%4294967296,n/4294967296%4294967296] 2;exact Nat.le_trans this (by decide)
   obtain⟨w,I,u⟩:=E6 G X S false _ _ ap e (by simp) bU;refine⟨w,_,?_,u,l4 e,jM _,by rw[kM,bX,Nat.gcd_zero_right]⟩;rw[show decide ((0:Int)<((0:Nat):Int))=false from rfl,eg,GJ,F,cN,H];refine(fo _).trans ?_;rw[ap.ao,bi,aZ I,gX 0 _ _ rfl,gX 1 _ _ rfl,be];exact E8 G X y A rfl _ u 0
  ·have ar:(0:Int)<(m:Int):=by omega
   obtain⟨w,r,aw,bS,dB,J,M⟩:=B (n%m) m (by have:=Nat.mod_lt n (Nat.pos_of_ne_zero eO);omega) hm (by have:=Nat.mod_lt n (Nat.pos_of_ne_zero eO);omega);refine⟨w,r,?_,bS,dB,J,by rw[M,Nat.gcd_comm,←Nat.gcd_rec,Nat.gcd_comm]⟩;rw[dR ar,ek,GI,AP _ _ eO];exact aw
theorem Ik(s S:ah)(aa:Child s S)(ab:S.own[0]? =some (.cells [.bool false,.bx 1 [] .nil])):∀(b:Nat) (u A:af) (x y:List Nat),val y<b→j5 u x→j5 A y→dU x→dU y→fr x→fr y→x.length≤128→y.length≤128→
  ∃w r,vu (aQ aF G X) (.ref (.l 0) 0) u A S=.ok (.ed [l5 false w,.int .i64 0]) s∧j5 w r∧dU r∧fr r∧val r=Nat.gcd (val x) (val y):=by
 intro b
 induction b with
 |zero=>intro u A x y h;omega
 |succ b al=>
  intro u A x y aB H I F M U V am ac;have N:=fun(S:ah) (k:bd)=>(H.rd S).len (T:=aF) (G:=G) (X:=X) k S
  have J:=fun(S:ah) (k:bd)=>(I.rd S).len (T:=aF) (G:=G) (X:=X) k S
  have ad:(y=[]∨(x.length≤2∧y.length≤2))→∃w r,Bp (aQ aF G X) (.ref (.l 0) 0) u A S=.ok (.ed [l5 false w,.int .i64 0]) s∧j5 w r∧dU r∧fr r∧val r=Nat.gcd (val x) (val y):=fun ae=>by
   by_cases aw:x.length≤2
   ·have ag:y.length≤2:=by
     rcases ae with h|h
     ·subst h;simp
     ·exact h.2
    have small:∀l:List Nat,dU l→l.length≤2→val l<18446744073709551616:=fun l an bU=>by
     have bS:=ik l an;have dB:B^l.length≤B^2:=pe bU;have aC:B^2=18446744073709551616:=by decide
     omega
    obtain⟨w,r,gZ,g2⟩:=Ij G X s S aa ab (val y+1) (val y) (val x) (by omega) (small x F aw) (small y M ag);refine⟨w,r,?_,g2⟩;have e:¬(2:Int)<(x.length:Int):=by omega
    rw[xn,N,b8,b0 e,eg,GL,H.ao,aZ (E7 G X S u x H F aw),I.ao,aZ (E7 G X S A y I M ag)];exact gZ
   ·have ez:y=[]:=by
     rcases ae with h|h
     ·exact h
     ·exact absurd h.1 aw
    subst ez;have e:(2:Int)<(x.length:Int):=by omega
    have ai:gC x=x:=by have ar:=kM x;exact val_inj (l4 F) F (xM (l4 F) F (jM x) U ar) ar
    obtain⟨w,aq,Y⟩:=E6 G X S false u x H F (by omega) (by rw[ai];exact am);rw[ai] at Y;refine⟨w,x,?_,Y,F,U,by simp [val]⟩;rw[xn,N,b8,dR e,ek,H.ao,bi,aZ aq,gX 0 _ _ rfl,gX 1 _ _ rfl,be];exact E8 G X aa ab rfl _ Y 0
  by_cases ez:y=[]
  ·obtain⟨w,r,gZ,g2⟩:=ad (.inl ez);refine⟨w,r,?_,g2⟩;have e:¬(0:Int)<(y.length:Int):=by subst ez;simp
   rw[pd,J,b8,b0 e];simp -implicitDefEqProofs only[gP,ew,eg];exact gZ
  ·have e:(0:Int)<(y.length:Int):=by have:=List.length_pos_iff.2 ez;omega
   have au:val y≠0:=fun h=>ez ((uW V).1 h)
   have aj:∃w r,Bo (aQ aF G X) (.ref (.l 0) 0) u A S=.ok (.ed [l5 false w,.int .i64 0]) s∧j5 w r∧dU r∧fr r∧val r=Nat.gcd (val x) (val y):=by
    obtain⟨v,w,q,r,av,aD,aE,aG,ap,or,ak,eq,ax⟩:=TF G X S u A x y H I F M U V ez (by omega) (by omega);have aH:=Nat.mod_lt (val x) (Nat.pos_of_ne_zero au);have ay:r.length≤128:=by have bS:=ik y M;have dB:B^y.length≤B^128:=pe ac;exact rC ak (by omega)
    obtain⟨az,rk,gZ,g2,aA,n9,iO⟩:=al A w y r (by omega) I ap M or V ak ac ay;refine⟨az,rk,?_,g2,aA,n9,by rw[iO,ax,Nat.gcd_comm,←Nat.gcd_rec,Nat.gcd_comm]⟩;rw[GH,H.ao,I.ao,aZ av,gX 0 _ v rfl,gX 1 _ w rfl];exact gZ
   by_cases aw:2<x.length
   ·obtain⟨w,r,gZ,g2⟩:=aj;refine⟨w,r,?_,g2⟩;have O:(2:Int)<(x.length:Int):=by omega
    rw[pd,J,b8,dR e];simp -implicitDefEqProofs only[f5,hi,fH,ek,↓N,↓b8,dR O];exact gZ
   ·have O:¬(2:Int)<(x.length:Int):=by omega
    by_cases bS:2<y.length
    ·obtain⟨w,r,gZ,g2⟩:=aj;refine⟨w,r,?_,g2⟩;have Z:(2:Int)<(y.length:Int):=by omega
     rw[pd,J,b8,dR e];simp -implicitDefEqProofs only[f5,hi,ee,fH,ew,ek,↓N,↓J,↓b8,b0 O,dR Z];exact gZ
    ·obtain⟨w,r,gZ,g2⟩:=ad (.inr ⟨by omega,by omega⟩);refine⟨w,r,?_,g2⟩;have Z:¬(2:Int)<(y.length:Int):=by omega
     rw[pd,J,b8,dR e];simp -implicitDefEqProofs only[f5,hi,ee,fH,ew,eg,↓N,↓J,↓b8,b0 O,b0 Z];exact gZ
theorem og{n:Bool}{l:List Nat}(h:i5 n l=true):fr l∧l.length≤128:=by
 unfold i5 at h;split at h
 ·rename_i eO;exact⟨fun eu=>absurd (jj eO) eu,by omega⟩
 ·simp -implicitDefEqProofs only[bo,b9] at h;exact⟨fun _=>h.2,h.1⟩
theorem aan(s:ah)(jk e:Bool)(v1 v2:af)(x y:List Nat)(h:j5 v1 x)(u:j5 v2 y)(B:dU x)(F:dU y)(a1:i5 jk x=true)(ez:i5 e y=true):
  ∃w r,aB aF G X 90 [l5 jk v1,l5 e v2] s=.ok (.ed [l5 false w,.int .i64 0]) s∧j5 w r∧dU r∧fr r∧val r=Nat.gcd (val x) (val y):=by
 obtain⟨H,I⟩:=og a1;obtain⟨J,M⟩:=og ez;have N:Child s (s.ag.new (.cells [.bool false,.bx 1 [] .nil])):=(Child.ag s).new _;obtain⟨w,r,ar,aw⟩:=Ik G X s _ N (by rfl) (val y+1) v1 v2 x y (by omega) h u B F H J I M;refine⟨w,r,?_,aw⟩;have A:=TG G X (s.ag.new (.cells [.bool false,.bx 1 [] .nil])) jk e v1 v2 x y h u (by omega) (by omega);rw[a1,ez,bz] at A;rw[Na,ZF];simp -implicitDefEqProofs only[↓cG,↓cU,↓cb,↓bw,↓aH,↓aK,↓aD,↓aM,↓aS,↓aT,↓aE,↓aN,↓aI,↓aY,↓a3,↓bg,↓dC,↓ay,↓bH,↓ci,↓dc,↓cl,↓cm,↓cj,↓cn,↓co,↓cp,↓cq,↓cr,↓ct,↓bI,↓bJ,↓bK,↓dd,↓de,↓df,↓dg,↓dh,↓di,↓dj,↓dk,↓dl,↓cv,↓cw,↓cx,↓bO,↓cf,↓bl,↓c6,↓b8,↓cR,↓c4,↓dm,↓a4,↓aU,↓a5,↓aR,↓aG,↓a6,↓cX,↓cc,↓ck,↓cy,↓cz,↓cA,↓cB,↓cC,↓cD,↓cE,↓cF,↓dI,↓dJ,↓ds,↓dS,↓cM,↓cN,↓cV,↓dt,bY,dO,b9,decide_eq_false_iff_not,ite_not,↓reduceIte,be,aA,bi,bL,bh,bT,ca,Nat.reduceAdd,bz,↓bn,Nat.reduceLeDiff,aC,c2,c7,dP,dG,b5,↓(aZ A),hK,GM];exact ar
def tU(n:Bool)(l:List Nat):Bool:= !n&&decide (l=[1])
theorem NY{l:List Nat}(h:l.length=1):l=[1]↔l.getD 0 0=1:=by
 match l,h with
 |[x],_=>simp [List.getD]
theorem Mf(s:ah)(n:Bool)(v:af)(l:List Nat)(h:j5 v l):aB aF G X 89 [l5 n v] s=.ok (.bool (tU n l)) s:=by
 have r:=fun(S:ah) (k:bd)=>(h.rd S).len (T:=aF) (G:=G) (X:=X) k S
 rw[Nd,ZI];cases n with
 |true=>simp -implicitDefEqProofs only[↓cG,↓cU,↓cb,↓bw,↓aH,↓aK,↓aD,↓aM,↓aS,↓aT,↓aE,↓aN,↓aI,↓aY,↓a3,↓bg,↓dC,↓ay,↓bH,↓ci,↓dc,↓cl,↓cm,↓cj,↓cn,↓co,↓cp,↓cq,↓cr,↓ct,↓bI,↓bJ,↓bK,↓dd,↓de,↓df,↓dg,↓dh,↓di,↓dj,↓dk,↓dl,↓cv,↓cw,↓cx,↓bO,↓cf,↓bl,↓c6,↓b8,↓cR,↓c4,↓dm,↓a4,↓aU,↓a5,↓aR,↓aG,↓a6,↓cX,↓cc,↓ck,↓cy,↓cz,↓cA,↓cB,↓cC,↓cD,↓cE,↓cF,↓dI,↓dJ,↓ds,↓dS,↓cM,↓cN,↓cV,↓dt,bY,dO,b9,decide_eq_false_iff_not,ite_not,↓reduceIte,be,aA,bi,bL,bh,bT,ca,Nat.reduceAdd,bz,↓bn,Nat.reduceLeDiff,aC,c2,c7,dP,dG,b5,hK,tU,gm]
 |false=>
  by_cases ar:l.length=1
  ·have e:(l.length:Int)=1:=by omega
   have g:=fun(k:bd)=>(h.rd s.ag).get (T:=aF) (G:=G) (X:=X) .i64 0 (by omega) k
   have g':∀k:bd,(aQ aF G X).bV s.ag (fun v S=>(aQ aF G X).aq S k none v) 1 v (.int .i64 0)=k (U (l.getD 0 0)) s.ag:=g;simp -implicitDefEqProofs only[↓cG,↓cU,↓cb,↓bw,↓aH,↓aK,↓aD,↓aM,↓aS,↓aT,↓aE,↓aN,↓aI,↓aY,↓a3,↓bg,↓dC,↓ay,↓bH,↓ci,↓dc,↓cl,↓cm,↓cj,↓cn,↓co,↓cp,↓cq,↓cr,↓ct,↓bI,↓bJ,↓bK,↓dd,↓de,↓df,↓dg,↓dh,↓di,↓dj,↓dk,↓dl,↓cv,↓cw,↓cx,↓bO,↓cf,↓bl,↓c6,↓b8,↓cR,↓c4,↓dm,↓a4,↓aU,↓a5,↓aR,↓aG,↓a6,↓cX,↓cc,↓ck,↓cy,↓cz,↓cA,↓cB,↓cC,↓cD,↓cE,↓cF,↓dI,↓dJ,↓ds,↓dS,↓cM,↓cN,↓cV,↓dt,bY,dO,b9,decide_eq_false_iff_not,ite_not,↓reduceIte,be,aA,bi,bL,bh,bT,ca,Nat.reduceAdd,bz,↓bn,Nat.reduceLeDiff,aC,c2,c7,dP,dG,b5,hz,tU,ey,↓r,eq_true e,↓g'];congr 3;rw[eq_iff_iff,NY ar];omega
  ·have e:¬(l.length:Int)=1:=by omega
   have:¬l=[1]:=fun e=>ar (by rw[e];rfl)
   simp -implicitDefEqProofs only[↓cG,↓cU,↓cb,↓bw,↓aH,↓aK,↓aD,↓aM,↓aS,↓aT,↓aE,↓aN,↓aI,↓aY,↓a3,↓bg,↓dC,↓ay,↓bH,↓ci,↓dc,↓cl,↓cm,↓cj,↓cn,↓co,↓cp,↓cq,↓cr,↓ct,↓bI,↓bJ,↓bK,↓dd,↓de,↓df,↓dg,↓dh,↓di,↓dj,↓dk,↓dl,↓cv,↓cw,↓cx,↓bO,↓cf,↓bl,↓c6,↓b8,↓cR,↓c4,↓dm,↓a4,↓aU,↓a5,↓aR,↓aG,↓a6,↓cX,↓cc,↓ck,↓cy,↓cz,↓cA,↓cB,↓cC,↓cD,↓cE,↓cF,↓dI,↓dJ,↓ds,↓dS,↓cM,↓cN,↓cV,↓dt,bY,dO,b9,decide_eq_false_iff_not,ite_not,↓reduceIte,be,aA,bi,bL,bh,bT,ca,Nat.reduceAdd,bz,↓bn,Nat.reduceLeDiff,aC,c2,c7,dP,dG,b5,hz,tU,ey,↓r,eq_false e,eq_false this]
theorem aao(s:ah)(n:Bool)(v:af)(l:List Nat)(h:j5 v l):aB aF G X 88 [l5 n v] s=.ok (.bool (decide (l=[]))) s:=by
 have e:=fun(S:ah) (k:bd)=>(h.rd S).len (T:=aF) (G:=G) (X:=X) k S
 rw[Nc,ZH];simp -implicitDefEqProofs only[↓cG,↓cU,↓cb,↓bw,↓aH,↓aK,↓aD,↓aM,↓aS,↓aT,↓aE,↓aN,↓aI,↓aY,↓a3,↓bg,↓dC,↓ay,↓bH,↓ci,↓dc,↓cl,↓cm,↓cj,↓cn,↓co,↓cp,↓cq,↓cr,↓ct,↓bI,↓bJ,↓bK,↓dd,↓de,↓df,↓dg,↓dh,↓di,↓dj,↓dk,↓dl,↓cv,↓cw,↓cx,↓bO,↓cf,↓bl,↓c6,↓b8,↓cR,↓c4,↓dm,↓a4,↓aU,↓a5,↓aR,↓aG,↓a6,↓cX,↓cc,↓ck,↓cy,↓cz,↓cA,↓cB,↓cC,↓cD,↓cE,↓cF,↓dI,↓dJ,↓ds,↓dS,↓cM,↓cN,↓cV,↓dt,bY,dO,b9,decide_eq_false_iff_not,ite_not,↓reduceIte,be,aA,bi,bL,bh,bT,ca,Nat.reduceAdd,bz,↓bn,Nat.reduceLeDiff,aC,c2,c7,dP,dG,b5,↓e];congr 3;rw[eq_iff_iff];cases l<;> simp <;> omega
def nW(jk e:Bool)(x y:List Nat):Bool:=i5 jk x&&i5 e y&& !e&&decide (y≠[])&&decide (Nat.gcd (val x) (val y)=1)
theorem E9{l:List Nat}(e:dU l)(r:fr l):l=[1]↔val l=1:=by
 constructor
 ·intro h;subst h;simp [val]
 ·intro h;have gH:dU [1]:=fun x a1=>by rw[List.mem_singleton.1 a1,lk];omega
  have u:fr [1]:=fun _=>by simp
  have v1:val [1]=1:=by simp [val]
  exact val_inj e gH (xM e gH r u (by rw[h,v1])) (by rw[h,v1])
theorem aap(s:ah)(jk h:Bool)(v1 v2:af)(x y:List Nat)(F:j5 v1 x)(B:j5 v2 y)(M:dU x)(H:dU y)(N:x.length<9223372036854775807)(O:y.length<9223372036854775807):
  aB aF G X 71 [.agg [.bool jk,v1,.bool h,v2]] s=.ok (.bool (nW jk h x y)) s:=by
 have u:=vK G X s.ag jk v1 x F N;have A:=vK G X s.ag h v2 y B O;have I:=aao G X s.ag h v2 y B;have ls:=Mf G X s.ag h v2 y B;rw[Nb,ZG];cases dn:i5 jk x with
 |false=>rw[dn] at u;simp -implicitDefEqProofs only[↓cG,↓cU,↓cb,↓bw,↓aH,↓aK,↓aD,↓aM,↓aS,↓aT,↓aE,↓aN,↓aI,↓aY,↓a3,↓bg,↓dC,↓ay,↓bH,↓ci,↓dc,↓cl,↓cm,↓cj,↓cn,↓co,↓cp,↓cq,↓cr,↓ct,↓bI,↓bJ,↓bK,↓dd,↓de,↓df,↓dg,↓dh,↓di,↓dj,↓dk,↓dl,↓cv,↓cw,↓cx,↓bO,↓cf,↓bl,↓c6,↓b8,↓cR,↓c4,↓dm,↓a4,↓aU,↓a5,↓aR,↓aG,↓a6,↓cX,↓cc,↓ck,↓cy,↓cz,↓cA,↓cB,↓cC,↓cD,↓cE,↓cF,↓dI,↓dJ,↓ds,↓dS,↓cM,↓cN,↓cV,↓dt,bY,dO,b9,decide_eq_false_iff_not,ite_not,↓reduceIte,be,aA,bi,bL,bh,bT,ca,Nat.reduceAdd,bz,↓bn,Nat.reduceLeDiff,aC,c2,c7,dP,dG,b5,↓(aZ u),hz,nW,dn,gm]
 |true=>
  rw[dn] at u;cases e:i5 h y with
  |false=>rw[e] at A;simp -implicitDefEqProofs only[↓cG,↓cU,↓cb,↓bw,↓aH,↓aK,↓aD,↓aM,↓aS,↓aT,↓aE,↓aN,↓aI,↓aY,↓a3,↓bg,↓dC,↓ay,↓bH,↓ci,↓dc,↓cl,↓cm,↓cj,↓cn,↓co,↓cp,↓cq,↓cr,↓ct,↓bI,↓bJ,↓bK,↓dd,↓de,↓df,↓dg,↓dh,↓di,↓dj,↓dk,↓dl,↓cv,↓cw,↓cx,↓bO,↓cf,↓bl,↓c6,↓b8,↓cR,↓c4,↓dm,↓a4,↓aU,↓a5,↓aR,↓aG,↓a6,↓cX,↓cc,↓ck,↓cy,↓cz,↓cA,↓cB,↓cC,↓cD,↓cE,↓cF,↓dI,↓dJ,↓ds,↓dS,↓cM,↓cN,↓cV,↓dt,bY,dO,b9,decide_eq_false_iff_not,ite_not,↓reduceIte,be,aA,bi,bL,bh,bT,ca,Nat.reduceAdd,bz,↓bn,Nat.reduceLeDiff,aC,c2,c7,dP,dG,b5,↓(aZ u),↓(aZ A),hK,hz,nW,dn,e,gm,Bool.and_false]
  |true=>
   rw[e] at A;cases h with
   |true=>simp -implicitDefEqProofs only[↓cG,↓cU,↓cb,↓bw,↓aH,↓aK,↓aD,↓aM,↓aS,↓aT,↓aE,↓aN,↓aI,↓aY,↓a3,↓bg,↓dC,↓ay,↓bH,↓ci,↓dc,↓cl,↓cm,↓cj,↓cn,↓co,↓cp,↓cq,↓cr,↓ct,↓bI,↓bJ,↓bK,↓dd,↓de,↓df,↓dg,↓dh,↓di,↓dj,↓dk,↓dl,↓cv,↓cw,↓cx,↓bO,↓cf,↓bl,↓c6,↓b8,↓cR,↓c4,↓dm,↓a4,↓aU,↓a5,↓aR,↓aG,↓a6,↓cX,↓cc,↓ck,↓cy,↓cz,↓cA,↓cB,↓cC,↓cD,↓cE,↓cF,↓dI,↓dJ,↓ds,↓dS,↓cM,↓cN,↓cV,↓dt,bY,dO,b9,decide_eq_false_iff_not,ite_not,↓reduceIte,be,aA,bi,bL,bh,bT,ca,Nat.reduceAdd,bz,↓bn,Nat.reduceLeDiff,aC,c2,c7,dP,dG,b5,↓(aZ u),↓(aZ A),hK,nW,dn,e,gm,Bool.and_false]
   |false=>
    by_cases ez:y=[]
    ·simp -implicitDefEqProofs only[↓cG,↓cU,↓cb,↓bw,↓aH,↓aK,↓aD,↓aM,↓aS,↓aT,↓aE,↓aN,↓aI,↓aY,↓a3,↓bg,↓dC,↓ay,↓bH,↓ci,↓dc,↓cl,↓cm,↓cj,↓cn,↓co,↓cp,↓cq,↓cr,↓ct,↓bI,↓bJ,↓bK,↓dd,↓de,↓df,↓dg,↓dh,↓di,↓dj,↓dk,↓dl,↓cv,↓cw,↓cx,↓bO,↓cf,↓bl,↓c6,↓b8,↓cR,↓c4,↓dm,↓a4,↓aU,↓a5,↓aR,↓aG,↓a6,↓cX,↓cc,↓ck,↓cy,↓cz,↓cA,↓cB,↓cC,↓cD,↓cE,↓cF,↓dI,↓dJ,↓ds,↓dS,↓cM,↓cN,↓cV,↓dt,bY,dO,b9,decide_eq_false_iff_not,ite_not,↓reduceIte,be,aA,bi,bL,bh,bT,ca,Nat.reduceAdd,bz,↓bn,Nat.reduceLeDiff,aC,c2,c7,dP,dG,b5,↓(aZ u),↓(aZ A),↓(aZ I),hK,nW,dn,e,ez,gm,Bool.and_false,ne_eq,not_true_eq_false]
    ·obtain⟨U,ac⟩:=og e;simp -implicitDefEqProofs only[↓cG,↓cU,↓cb,↓bw,↓aH,↓aK,↓aD,↓aM,↓aS,↓aT,↓aE,↓aN,↓aI,↓aY,↓a3,↓bg,↓dC,↓ay,↓bH,↓ci,↓dc,↓cl,↓cm,↓cj,↓cn,↓co,↓cp,↓cq,↓cr,↓ct,↓bI,↓bJ,↓bK,↓dd,↓de,↓df,↓dg,↓dh,↓di,↓dj,↓dk,↓dl,↓cv,↓cw,↓cx,↓bO,↓cf,↓bl,↓c6,↓b8,↓cR,↓c4,↓dm,↓a4,↓aU,↓a5,↓aR,↓aG,↓a6,↓cX,↓cc,↓ck,↓cy,↓cz,↓cA,↓cB,↓cC,↓cD,↓cE,↓cF,↓dI,↓dJ,↓ds,↓dS,↓cM,↓cN,↓cV,↓dt,bY,dO,b9,decide_eq_false_iff_not,ite_not,↓reduceIte,be,aA,bi,bL,bh,bT,ca,Nat.reduceAdd,bz,↓bn,Nat.reduceLeDiff,aC,c2,c7,dP,dG,b5,↓(aZ u),↓(aZ A),↓(aZ I),↓(aZ ls),hK,nW,dn,e,eq_false ez,hz,ey,ne_eq,not_false_eq_true,GO];by_cases ar:y=[1]
     ·have:Nat.gcd (val x) (val y)=1:=by rw[(E9 H U).1 ar,Nat.gcd_one_right]
      simp -implicitDefEqProofs only[tU,hz,ey,dR ar,eq_true this,↓cG,↓cU,↓cb,↓bw,↓aH,↓aK,↓aD,↓aM,↓aS,↓aT,↓aE,↓aN,↓aI,↓aY,↓a3,↓bg,↓dC,↓ay,↓bH,↓ci,↓dc,↓cl,↓cm,↓cj,↓cn,↓co,↓cp,↓cq,↓cr,↓ct,↓bI,↓bJ,↓bK,↓dd,↓de,↓df,↓dg,↓dh,↓di,↓dj,↓dk,↓dl,↓cv,↓cw,↓cx,↓bO,↓cf,↓bl,↓c6,↓b8,↓cR,↓c4,↓dm,↓a4,↓aU,↓a5,↓aR,↓aG,↓a6,↓cX,↓cc,↓ck,↓cy,↓cz,↓cA,↓cB,↓cC,↓cD,↓cE,↓cF,↓dI,↓dJ,↓ds,↓dS,↓cM,↓cN,↓cV,↓dt,bY,dO,b9,decide_eq_false_iff_not,ite_not,↓reduceIte,be,aA,bi,bL,bh,bT,ca,Nat.reduceAdd,bz,↓bn,Nat.reduceLeDiff,aC,c2,c7,dP,dG,b5,if_true]
     ·obtain⟨w,r,V,J,or,Y,Z⟩:=aan G X s.ag jk false v1 v2 x y F B M H dn e;have aa:=fun S:ah=>Mf G X S false w r J
      have ab:=fun(k:bd)=>cX (T:=aF) (G:=G) (X:=X) (s:=s.ag) (k:=k) 2 [.bool false,w] [.bool false,.bx 1 [] .nil] rfl rfl (by simp -implicitDefEqProofs only[List.all_cons,J.en,List.all_nil];rfl)
      simp -implicitDefEqProofs only[tU,hz,ey,b0 ar,b5,if_false,GN,↓cG,↓cU,↓cb,↓bw,↓aH,↓aK,↓aD,↓aM,↓aS,↓aT,↓aE,↓aN,↓aI,↓aY,↓a3,↓bg,↓dC,↓ay,↓bH,↓ci,↓dc,↓cl,↓cm,↓cj,↓cn,↓co,↓cp,↓cq,↓cr,↓ct,↓bI,↓bJ,↓bK,↓dd,↓de,↓df,↓dg,↓dh,↓di,↓dj,↓dk,↓dl,↓cv,↓cw,↓cx,↓bO,↓cf,↓bl,↓c6,↓b8,↓cR,↓c4,↓dm,↓a4,↓aU,↓a5,↓aR,↓aG,↓a6,↓cX,↓cc,↓ck,↓cy,↓cz,↓cA,↓cB,↓cC,↓cD,↓cE,↓cF,↓dI,↓dJ,↓ds,↓dS,↓cM,↓cN,↓cV,↓dt,bY,dO,b9,decide_eq_false_iff_not,ite_not,↓reduceIte,be,aA,bi,bL,bh,bT,ca,Nat.reduceAdd,bz,↓bn,Nat.reduceLeDiff,aC,c2,c7,dP,dG,b5,↓(aZ V),↓nh,↓ni,↓ab,↓(aZ (aa _))];rw[j0 ((Child.ag s).new _)];congr 3;rw[eq_iff_iff,E9 or Y,Z]
end Go.gF
end
section
namespace Go.hV
theorem getD_none(l:List Nat)(i:Nat)(h:l.length≤i):l.getD i 0=0:=by simp only[List.getD];rw[List.getElem?_eq_none h];rfl
end Go.hV
end
section
namespace Go.gF
open Go.Ab Go.hV
variable(G:Nat→af)(X:Nat→List af→ah→ai)
abbrev I(n:Int):af:=.int .i64 n
structure fV where
 neg:Bool
 g9:List Nat
 g:e0
def fV.v(n:fV):af:=.bx 1 (n.g9.map U) n.g
structure kA (n:fV):Prop where
 g:∀a,n.g≠.cP a
 ok:dU n.g9
 len:n.g9.length<9223372036854775807
theorem kA.jA{n:fV}(h:kA n):j5 n.v n.g9:=⟨n.g,rfl,h.g⟩
structure az where
 name:List Nat
 op:Int
 args:List Int
 qJ:e0
 g6:fV
 bP:fV
 lF:fV
 lb:fV
 nB:Int
abbrev i6(l:List Int)(g:e0):af:=.bx 1 (l.map I) g
def az.cs(x:az):List af:=[.str x.name,I x.op,i6 x.args x.qJ,.bool x.g6.neg,x.g6.v,.bool x.bP.neg,x.bP.v,.bool x.lF.neg,x.lF.v,.bool x.lb.neg,x.lb.v,I x.nB]
def az.enc(x:az):af:=.agg x.cs
structure lc (x:az):Prop where
 qJ:∀a,x.qJ≠.cP a
 Ol:x.args.length<9223372036854775807
 g6:kA x.g6
 bP:kA x.bP
 lF:kA x.lF
 lb:kA x.lb
theorem jN{g:e0}(h:∀a,g≠.cP a)(sz:Nat)(es:List af):af.bb (.bx sz es g)=true:=by cases g<;> first|rfl |exact absurd rfl (h _)
theorem nn{g:e0}(h:∀a,g≠.cP a)(d:Nat):g.ao d=g:=by cases g<;> first|rfl |exact absurd rfl (h _)
theorem mU{g:e0}(h:∀a,g≠.cP a)(S:ah)(sz:Nat)(es:List af):Ab.freeze S (.bx sz es g)=some (.bx sz es g):=by show Ab.et S _=_;cases g<;> first|rfl |exact absurd rfl (h _)
theorem lc.bb{x:az}(h:lc x):x.enc.bb=true:=by simp -implicitDefEqProofs only[az.enc,az.cs,af.bb,af.aX,fV.v,jN h.qJ,jN h.g6.g,jN h.bP.g,jN h.lF.g,jN h.lb.g,bz]
theorem az.cells(x:az):x.cs.all af.en=true:=rfl
def gB(op:Int):List Int:=
 if op=2 then[0] else if op=3 then[1,1] else if op=4 then[2,2] else if op=5 then[1,1] else if op=6∨op=7 then[1,1,1] else if op=8 then[2,3] else if op=9 then[3,3]
 else if op=10∨op=11 then[1,2] else if op=12 then[1,1] else if op=13 then[1,2] else if op=14 then[1,1,1] else if op=15 then[1,3] else if op=16 then[3] else[]
def hJ(op:Int):Int:=
 if op=1∨op=2∨op=4∨op=8∨op=9∨op=12∨op=13∨op=16 then 1 else if op=3∨op=10∨op=11∨op=14∨op=15 then 2 else if op=5∨op=6∨op=7 then 3 else 0
def jd(op:Int):Bool:=decide (op=8∨op=9∨op=14∨op=15)
def tj(op:Int):e0:=if 2≤op∧op≤16 then .exact else .nil
abbrev pt(op:Int):af:=.ed [i6 (gB op) (tj op),I (hJ op),.bool (jd op)]
theorem xP{S:ah}{k:bd}(l:List Int):(aQ aF G X).bf S k 1 (l.map I)=k (i6 l .exact) S:=by
 refine kn 1 _ ?_ ?_
 ·induction l with
  |nil=>rfl
  |cons x l e=>simp -implicitDefEqProofs only[fc,af.aX,e,Bool.and_true];rfl
 ·induction l with
  |nil=>rfl
  |cons x l e=>simp -implicitDefEqProofs only[fc,List.all_cons,e,Bool.and_true];rfl
theorem abo{s S:ah}(e:Child s S)(v:af)(n:Int)(b:Bool)(bX:Ab.freeze S v=some v):(aQ aF G X).aW false [some v,some (.int .i64 n),some (.bool b)] S=.ok (.ed [v,.int .i64 n,.bool b]) s:=by obtain⟨ar,aw⟩:=e;show l1 false [some v,some (.int .i64 n),some (.bool b)] S=_;unfold l1;simp -implicitDefEqProofs only[e5,fp,ep,cond_false,bX,show Ab.freeze S (.int .i64 n)=some (.int .i64 n) from rfl,show Ab.freeze S (.bool b)=some (.bool b) from rfl,qM,ar,aw]
theorem xQ(op:Int):op=1∨op=2∨op=3∨op=4∨op=5∨op=6∨op=7∨op=8∨op=9∨op=10∨op=11∨op=12∨op=13∨op=14∨op=15∨op=16∨(op≠1∧op≠2∧op≠3∧op≠4∧op≠5∧op≠6∧op≠7∧op≠8∧op≠9∧op≠10∧op≠11∧op≠12∧op≠13∧op≠14∧op≠15∧op≠16):=by omega
theorem BT(op:Int)(s:ah):aB aF G X 21 [I op] s=.ok (pt op) s:=by
 rw[Nn,ZR];rcases xQ op with h|h|h|h|h|h|h|h|h|h|h|h|h|h|h|h|h
 all_goals try (subst h;kernel_rfl)
 obtain⟨ar,aw,bS,dB,r,u,y,A,B,F,H,J,M,N,O,U⟩:=h;simp -implicitDefEqProofs only[bO,eg,b0 ar,b0 aw,b0 bS,b0 dB,b0 r,b0 u,b0 y,b0 A,b0 B,b0 F,b0 H,b0 J,b0 M,b0 N,b0 O,b0 U,G9,G8,G7];have e:pt op=.ed [i6 [] .nil,I 0,.bool false]:=by
  unfold pt;have g:tj op=.nil:=by unfold tj;rw[if_neg (by omega)]
  rw[g];simp [gB,hJ,jd,ar,aw,bS,dB,r,u,y,A,B,F,H,J,M,N,O,U]
 rw[e];exact abo G X (.ag s) _ _ _ rfl
theorem Mg(op:Int)(s:ah):aB aF G X 34 [I op] s=.ok (pt op) s:=by
 rw[Nl,ZP];rcases xQ op with h|h|h|h|h|h|h|h|h|h|h|h|h|h|h|h|h
 all_goals try (subst h;kernel_rfl)
 obtain⟨ar,aw,bS,dB,r,u,y,A,B,F,H,J,M,N,O,U⟩:=h;simp -implicitDefEqProofs only[bO,eg,b0 ar,b0 aw,b0 bS,b0 dB,b0 r,b0 u,b0 y,b0 A,b0 B,b0 F,b0 H,b0 J,b0 M,b0 N,b0 O,b0 U,G6,G5,G4];have e:pt op=.ed [i6 [] .nil,I 0,.bool false]:=by
  unfold pt;have g:tj op=.nil:=by unfold tj;rw[if_neg (by omega)]
  rw[g];simp [gB,hJ,jd,ar,aw,bS,dB,r,u,y,A,B,F,H,J,M,N,O,U]
 rw[e];exact abo G X (.ag s) _ _ _ rfl
theorem aaq(x:az)(s:ah):aB aF G X 48 [x.enc] s=.ok (I (hJ x.op)) s:=by rw[Nk,ZO];simp -implicitDefEqProofs only[az.enc,az.cs,↓cG,↓cU,↓cb,↓bw,↓aH,↓aK,↓aD,↓aM,↓aS,↓aT,↓aE,↓aN,↓aI,↓aY,↓a3,↓bg,↓dC,↓ay,↓bH,↓ci,↓dc,↓cl,↓cm,↓cj,↓cn,↓co,↓cp,↓cq,↓cr,↓ct,↓bI,↓bJ,↓bK,↓dd,↓de,↓df,↓dg,↓dh,↓di,↓dj,↓dk,↓dl,↓cv,↓cw,↓cx,↓fF,↓f0,↓gq,↓bO,↓cf,↓bl,↓c6,↓b8,↓cR,↓c4,↓dm,↓a4,↓aU,↓a5,↓aR,↓aG,↓a6,↓cX,↓cc,↓ck,↓cy,↓cz,↓cA,↓cB,↓cC,↓cD,↓cE,↓cF,bY,dO,List.cons_append,List.nil_append,b9,decide_eq_false_iff_not,ite_not,↓reduceIte,be,aA,bi,bL,e6,ei,ej,bh,bT,ca,Nat.reduceAdd,List.all_cons,List.all_nil,dA,dr,dF,dV,bz,↓bn,Nat.reduceLeDiff,aC,c2,c7,↓(aZ (BT G X x.op _)),nh,ni,tO]
theorem aar(x:az)(s:ah):aB aF G X 43 [x.enc] s=.ok (.bool (jd x.op)) s:=by rw[Nh,ZL];simp -implicitDefEqProofs only[az.enc,az.cs,↓cG,↓cU,↓cb,↓bw,↓aH,↓aK,↓aD,↓aM,↓aS,↓aT,↓aE,↓aN,↓aI,↓aY,↓a3,↓bg,↓dC,↓ay,↓bH,↓ci,↓dc,↓cl,↓cm,↓cj,↓cn,↓co,↓cp,↓cq,↓cr,↓ct,↓bI,↓bJ,↓bK,↓dd,↓de,↓df,↓dg,↓dh,↓di,↓dj,↓dk,↓dl,↓cv,↓cw,↓cx,↓fF,↓f0,↓gq,↓bO,↓cf,↓bl,↓c6,↓b8,↓cR,↓c4,↓dm,↓a4,↓aU,↓a5,↓aR,↓aG,↓a6,↓cX,↓cc,↓ck,↓cy,↓cz,↓cA,↓cB,↓cC,↓cD,↓cE,↓cF,bY,dO,List.cons_append,List.nil_append,b9,decide_eq_false_iff_not,ite_not,↓reduceIte,be,aA,bi,bL,e6,ei,ej,bh,bT,ca,Nat.reduceAdd,List.all_cons,List.all_nil,dA,dr,dF,dV,bz,↓bn,Nat.reduceLeDiff,aC,c2,c7,↓(aZ (BT G X x.op _)),nh,ni,tO]
def acc(want is:Int):Bool:=decide (is=want)||(decide (want=0)&&(decide (is=2)||decide (is=3)))
theorem aas(want is:Int)(s:ah):aB aF G X 50 [I want,I is] s=.ok (.bool (acc want is)) s:=by
 rw[Nm,ZQ,bO];unfold acc;by_cases ar:is=want
 ·simp -implicitDefEqProofs only[dR ar,hi,fH,aG,Bool.true_or,b7]
 ·simp -implicitDefEqProofs only[b0 ar,ee,ew,Bool.false_or,bO];by_cases aw:want=0
  ·simp -implicitDefEqProofs only[dR aw,f5,bO,ey];by_cases bS:is=2
   ·simp -implicitDefEqProofs only[dR bS,hi,f5,fH,aG,Bool.true_or]
   ·simp -implicitDefEqProofs only[b0 bS,ee,f5,ew,fH,aG,Bool.false_or,bO]
  ·simp -implicitDefEqProofs only[b0 aw,gP,ee,ew,aG,gm,b7]
def mJ(jk e:fV):Bool:= !jk.neg&& !e.neg&&decide (jk.g9=[])&&decide (e.g9=[])
abbrev pu(jk e:fV):af:=.agg [.bool jk.neg,jk.v,.bool e.neg,e.v]
theorem ahm(l:List Nat):decide (((l.map U).length:Int)=0)=decide (l=[]):=by congr 1;rw[eq_iff_iff];cases l<;> simp <;> omega
theorem Mh(jk e:fV)(s:ah):aB aF G X 72 [pu jk e] s=.ok (.bool (mJ jk e)) s:=by
 rw[No,ZS];unfold mJ;cases ar:jk.neg with
 |true=>simp -implicitDefEqProofs only[fV.v,ar,↓cG,↓cU,↓cb,↓bw,↓aH,↓aK,↓aD,↓aM,↓aS,↓aT,↓aE,↓aN,↓aI,↓aY,↓a3,↓bg,↓dC,↓ay,↓bH,↓ci,↓dc,↓cl,↓cm,↓cj,↓cn,↓co,↓cp,↓cq,↓cr,↓ct,↓bI,↓bJ,↓bK,↓dd,↓de,↓df,↓dg,↓dh,↓di,↓dj,↓dk,↓dl,↓cv,↓cw,↓cx,↓bO,↓cf,↓bl,↓c6,↓b8,↓cR,↓c4,↓dm,↓a4,↓aU,↓a5,↓aR,↓aG,↓a6,↓cX,↓cc,↓ck,↓cy,↓cz,↓cA,↓cB,↓cC,↓cD,↓cE,↓cF,↓dI,↓dJ,↓ds,↓dS,↓cM,↓cN,↓cV,↓dt,bY,dO,b9,decide_eq_false_iff_not,ite_not,↓reduceIte,be,aA,bi,bL,bh,bT,ca,Nat.reduceAdd,bz,↓bn,Nat.reduceLeDiff,aC,c2,c7,dP,dG,b5,hK,gm,b7,gP,ew]
 |false=>
  cases aw:e.neg with
  |true=>simp -implicitDefEqProofs only[fV.v,ar,aw,↓cG,↓cU,↓cb,↓bw,↓aH,↓aK,↓aD,↓aM,↓aS,↓aT,↓aE,↓aN,↓aI,↓aY,↓a3,↓bg,↓dC,↓ay,↓bH,↓ci,↓dc,↓cl,↓cm,↓cj,↓cn,↓co,↓cp,↓cq,↓cr,↓ct,↓bI,↓bJ,↓bK,↓dd,↓de,↓df,↓dg,↓dh,↓di,↓dj,↓dk,↓dl,↓cv,↓cw,↓cx,↓bO,↓cf,↓bl,↓c6,↓b8,↓cR,↓c4,↓dm,↓a4,↓aU,↓a5,↓aR,↓aG,↓a6,↓cX,↓cc,↓ck,↓cy,↓cz,↓cA,↓cB,↓cC,↓cD,↓cE,↓cF,↓dI,↓dJ,↓ds,↓dS,↓cM,↓cN,↓cV,↓dt,bY,dO,b9,decide_eq_false_iff_not,ite_not,↓reduceIte,be,aA,bi,bL,bh,bT,ca,Nat.reduceAdd,bz,↓bn,Nat.reduceLeDiff,aC,c2,c7,dP,dG,b5,hK,hz,gm,Bool.and_false,b7,gP,f5,ew,fH]
  |false=>
   by_cases bS:jk.g9=[]
   ·simp -implicitDefEqProofs only[fV.v,ar,aw,↓cG,↓cU,↓cb,↓bw,↓aH,↓aK,↓aD,↓aM,↓aS,↓aT,↓aE,↓aN,↓aI,↓aY,↓a3,↓bg,↓dC,↓ay,↓bH,↓ci,↓dc,↓cl,↓cm,↓cj,↓cn,↓co,↓cp,↓cq,↓cr,↓ct,↓bI,↓bJ,↓bK,↓dd,↓de,↓df,↓dg,↓dh,↓di,↓dj,↓dk,↓dl,↓cv,↓cw,↓cx,↓bO,↓cf,↓bl,↓c6,↓b8,↓cR,↓c4,↓dm,↓a4,↓aU,↓a5,↓aR,↓aG,↓a6,↓cX,↓cc,↓ck,↓cy,↓cz,↓cA,↓cB,↓cC,↓cD,↓cE,↓cF,↓dI,↓dJ,↓ds,↓dS,↓cM,↓cN,↓cV,↓dt,bY,dO,b9,decide_eq_false_iff_not,ite_not,↓reduceIte,be,aA,bi,bL,bh,bT,ca,Nat.reduceAdd,bz,↓bn,Nat.reduceLeDiff,aC,c2,c7,dP,dG,b5,hz,ey,ahm,eq_true bS,if_true]
   ·have h:¬((jk.g9.map U).length:Int)=0:=by
     rw[d0];have:=List.length_pos_iff.2 bS;omega
    simp -implicitDefEqProofs only[fV.v,ar,aw,↓cG,↓cU,↓cb,↓bw,↓aH,↓aK,↓aD,↓aM,↓aS,↓aT,↓aE,↓aN,↓aI,↓aY,↓a3,↓bg,↓dC,↓ay,↓bH,↓ci,↓dc,↓cl,↓cm,↓cj,↓cn,↓co,↓cp,↓cq,↓cr,↓ct,↓bI,↓bJ,↓bK,↓dd,↓de,↓df,↓dg,↓dh,↓di,↓dj,↓dk,↓dl,↓cv,↓cw,↓cx,↓bO,↓cf,↓bl,↓c6,↓b8,↓cR,↓c4,↓dm,↓a4,↓aU,↓a5,↓aR,↓aG,↓a6,↓cX,↓cc,↓ck,↓cy,↓cz,↓cA,↓cB,↓cC,↓cD,↓cE,↓cF,↓dI,↓dJ,↓ds,↓dS,↓cM,↓cN,↓cV,↓dt,bY,dO,b9,decide_eq_false_iff_not,ite_not,↓reduceIte,be,aA,bi,bL,bh,bT,ca,Nat.reduceAdd,bz,↓bn,Nat.reduceLeDiff,aC,c2,c7,dP,dG,b5,hz,ey,eq_false h,eq_false bS,gm]
theorem Mi{s:ah}{k:bd}(a b:List Nat):(aQ aF G X).aj s k (al .eql (.str a) (.str b))=k (.bool (decide (a=b))) s:=by show k (.bool (a==b)) s=_;congr 2;exact(by rw[Bool.eq_iff_iff];simp)
theorem aat{S:ah}{k:bd}{d j o:Nat}{cs:List af}{c:af}(h:S.get (.g d j)=some (.cells cs))(a0:cs[o]? =some c):(aQ aF G X).aq S k none (.ref (.g d j) o)=k c S:=by
 rw[hh];simp -implicitDefEqProofs only[dZ,h,e3]
 have:cs.drop o=c::cs.drop (o+1):=by have e:=(dy.1 a0);rw[iy e.1,e.2]
 rw[this];rfl
theorem aau(o x:az)(s:ah)(d j:Nat)(cW:d≤s.aa)(h:s.get (.g d j)=some (.cells x.cs)):aB aF G X 74 [o.enc,.ref (.g d j) 0] s=.ok (.bool (decide (o.name=x.name))) s:=by
 have aw:s.ag.get (.g d j)=some (.cells x.cs):=(Child.ag s).pA.2 d j _ cW h;have l:=fun(k:bd)=>aat G X (k:=k) (o:=0+0) aw (c:=.str x.name) rfl
 rw[Nq,ZU];simp -implicitDefEqProofs only[az.enc];rw[aH];simp -implicitDefEqProofs only[az.cs] at *;rw[dC,bY,bg,ay,l,Mi,aG]
def qh(Mj:List Nat):List az→Nat→Int
 |[],_=> -1
 |o::r,i=>if o.name=Mj then(i:Int) else qh Mj r (i+1)
theorem q5(Mj:List Nat):∀(l:List az) (i:Nat),decide (0≤qh Mj l i)=l.any fun o=>decide (o.name=Mj)
 |[],i=>rfl
 |o::r,i=>by
  rw[List.any_cons];by_cases h:o.name=Mj
  ·have e:qh Mj (o::r) i=(i:Int):=if_pos h;simp [e,h]
  ·have e:qh Mj (o::r) i=qh Mj r (i+1):=if_neg h;have u:=q5 Mj r (i+1);simp [e,h] at u ⊢;exact u
abbrev bc(l:List az)(g:e0):af:=.bx 12 (l.map az.enc) g
theorem BU(x:az):x.cs.take 12=x.cs:=rfl
theorem aav(l:List az)(g:e0)(x:az)(s:ah)(d j:Nat)(cW:d≤s.aa)(h:s.get (.g d j)=some (.cells x.cs))(bU:l.length<9223372036854775807):aB aF G X 62 [bc l g,.fn 74 [.ref (.g d j) 0]] s=.ok (I (qh x.name l 0)) s:=by
 have loop:∀n i:Nat,i+n=l.length→vy (aQ aF G X) (bc l g) (.fn 74 [.ref (.g d j) 0]) (.int .i64 (l.length:Int)) (.int .i64 (i:Int)) s.ag=.ok (I (qh x.name (l.drop i) i)) s:=by
  intro n
  induction n with
  |zero=>
   intro i bZ;have e:¬(i:Int)<(l.length:Int):=by omega
   rw[xu,bl,b0 e,eg,Hc,aR,lm (by omega)];rfl
  |succ n u=>
   intro i bZ;have e:(i:Int)<(l.length:Int):=by omega
   have r:i<l.length:=by omega
   have y:(l.map az.enc)[i]? =some l[i].enc:=by simp [r]
   have c:=aau G X l[i] x s.ag d j (by have:=(Child.ag s).aa;omega) ((Child.ag s).pA.2 d j _ cW h);have A:=fun S k=>nD G X S k i (by omega)
   rw[xu,bl,dR e,ek,Hb,lC _ _ _ _ _ _ y];simp -implicitDefEqProofs only[az.enc,af.cells];rw[bn _ _ (aC 12),BU,be,bH];simp -implicitDefEqProofs only[az.enc] at c;simp -implicitDefEqProofs only[List.cons_append,List.nil_append];rw[aZ c,iy r,qh];by_cases cZ:l[i].name=x.name
   ·rw[dR cZ,ek,aR,if_pos cZ]
   ·rw[b0 cZ,eg,Ha,A,if_neg cZ];exact u (i+1) (by omega)
 rw[Ns,ZW,aI,d0];exact loop l.length 0 (by omega)
theorem aaw(l:List az)(g:e0)(b2:∀a,g≠.cP a)(x:az)(s:ah)(d j:Nat)(cW:d≤s.aa)(h:s.get (.g d j)=some (.cells x.cs))(bU:l.length<9223372036854775807):aB aF G X 73 [bc l g,.fn 74 [.ref (.g d j) 0]] s=.ok (.bool (l.any fun o=>decide (o.name=x.name))) s:=by
 have c:=aav G X l g x s.ag d j (by have:=(Child.ag s).aa;omega) ((Child.ag s).pA.2 d j _ cW h) bU;rw[Np,ZT];have e:af.ao s.ag.aa (bc l g)=bc l g:=by simp -implicitDefEqProofs only[af.ao,nn b2]
 rw[e,e6,aZ c,cR,q5,aG]
def qi(pre:List az)(w a:Int):Bool:=decide (0≤a∧a<(pre.length:Int))&&acc w (match pre[a.toNat]? with |some o=>hJ o.op|none=>0)
def hv(pre:List az):List Int→List Int→Bool
 |w::ws,a::as=>qi pre w a&&hv pre ws as
 |_,_=>true
def xR(op nB:Int):Bool:=if jd op=true then decide (nB=1∨nB=2) else decide (nB=0)
def jr(jk e:fV):Bool:=nW jk.neg e.neg jk.g9 e.g9
def q6(x:az):Bool:=
 if x.op=1 then jr x.g6 x.bP&&jr x.lF x.lb else if x.op=2 then jr x.g6 x.bP&&mJ x.lF x.lb else mJ x.g6 x.bP&&mJ x.lF x.lb
def nX(pre:List az)(x:az):Bool:=pre.any fun o=>decide (o.name=x.name)
def wf(pre:List az)(x:az):Bool:=
 decide (hJ x.op≠0)&&decide ((gB x.op).length=x.args.length)&&decide (x.name≠[])&&(hv pre (gB x.op) x.args&&(xR x.op x.nB&&(q6 x&& !nX pre x)))
section
variable(x:az)(s:ah)(k:bd)
theorem ahn:(aQ aF G X).aq (s.new (.cells x.cs)) k none (.ref (.l s.own.length) 0)=k (.str x.name) (s.new (.cells x.cs)):=ck _ _
theorem afX(o:Nat)(c:af)(h:x.cs[o]? =some c):(aQ aF G X).aq (s.new (.cells x.cs)) k none (.ref (.l s.own.length) o)=k c (s.new (.cells x.cs)):=ga (by simp [ah.new]) h
theorem zQ:(aQ aF G X).aq (s.new (.cells x.cs)) k none (.ref (.l s.own.length) 1)=k (I x.op) (s.new (.cells x.cs)):=afX G X x s k 1 _ rfl
theorem abp:(aQ aF G X).aq (s.new (.cells x.cs)) k none (.ref (.l s.own.length) 2)=k (i6 x.args x.qJ) (s.new (.cells x.cs)):=afX G X x s k 2 _ rfl
theorem tV:(aQ aF G X).aq (s.new (.cells x.cs)) k none (.ref (.l s.own.length) 11)=k (I x.nB) (s.new (.cells x.cs)):=afX G X x s k 11 _ rfl
theorem abq(o:Nat)(h:o+4≤12):(aQ aF G X).aq (s.new (.cells x.cs)) k (some 4) (.ref (.l s.own.length) o)=k (.agg ((x.cs.drop o).take 4)) (s.new (.cells x.cs)):=by rw[hh];simp -implicitDefEqProofs only[dZ,hB,e3];rw[show Nat.ble 4 (x.cs.drop o).length=true from ec (by simp;show 4≤12-o;omega)];rfl
theorem TH:(aQ aF G X).aq (s.new (.cells x.cs)) k (some 4) (.ref (.l s.own.length) 3)=k (pu x.g6 x.bP) (s.new (.cells x.cs)):=abq G X x s k 3 (by omega)
theorem TI:(aQ aF G X).aq (s.new (.cells x.cs)) k (some 4) (.ref (.l s.own.length) 7)=k (pu x.lF x.lb) (s.new (.cells x.cs)):=abq G X x s k 7 (by omega)
end
theorem Fa{jk e:fV}(ar:kA jk)(aw:kA e)(s:ah):aB aF G X 71 [pu jk e] s=.ok (.bool (jr jk e)) s:=aap G X s jk.neg e.neg jk.v e.v jk.g9 e.g9 ar.jA aw.jA ar.ok aw.ok ar.len aw.len
theorem Mk(l:List az){g:e0}(b2:∀a,g≠.cP a)(n:Nat)(cZ:n≤l.length)(S:ah)(k:bd):(aQ aF G X).l2 12 (bc l g) none (some (.int .i64 (n:Int))) none S k=k (bc (l.take n) (p2 g l.length n)) S:=by show nP 12 (.bx 12 (l.map az.enc) g) none (some (.int .i64 (n:Int))) none S k=_;unfold nP;simp -implicitDefEqProofs only[qH,gW,e7,Nat.zero_le,ec (Nat.zero_le n),show Nat.ble n (l.map az.enc).length=true from ec (by simpa using cZ),show qs g 0 n (l.map az.enc)=true from by cases g<;> first|rfl |exact absurd rfl (b2 _),bz,bD,bY,Nat.sub_zero,List.map_take,bc];cases g<;> first|rfl |exact absurd rfl (b2 _)|simp [p2]
theorem hE(l:List az){g:e0}(b2:∀a,g≠.cP a)(d:Nat):af.ao d (bc l g)=bc l g:=by simp -implicitDefEqProofs only[af.ao,nn b2]
theorem BV(d i o:Nat):af.ao d (.ref (.l i) o)=.ref (.g d i) o:=rfl
theorem Il(s:ah)(o:b4):(s.new o).get (.g (s.new o).aa s.own.length)=some o:=by simp [ah.get,ah.new]
theorem rD{s:ah}{k:bd}(b:Bool):(aQ aF G X).aj s k (kP .not (.bool b))=k (.bool (!b)) s:=c4 b
section
variable(pre:List az)(x:az)(g:e0)(b2:∀a,g≠.cP a)(s:ah)(fS:pre.length<9223372036854775806)(a1:lc x)
include b2 fS
theorem Im:Bs (aQ aF G X) (bc (pre++[x]) g) (.int .i64 (pre.length:Int)) (.ref (.l s.ag.own.length) 0) (s.ag.new (.cells x.cs))=.ok (.bool (!nX pre x)) s:=by
 have bx:=fun(S:ah) (k:bd)=>Mk G X (pre++[x]) b2 pre.length (by simp) S k
 rw[List.take_left' rfl] at bx;have e:=wV b2 (pre++[x]).length pre.length;have c:=aaw G X pre _ e x (s.ag.new (.cells x.cs)) _ _ (aC _) (Il s.ag (.cells x.cs)) (by omega);rw[GW,bx,cG,BV,hE _ e,e6];rw[aZ c,c4,j0 ((Child.ag s).new _)];rfl
include a1
theorem Io:Bt (aQ aF G X) (bc (pre++[x]) g) (.int .i64 (pre.length:Int)) (.ref (.l s.ag.own.length) 0) (s.ag.new (.cells x.cs))=.ok (.bool (q6 x&& !nX pre x)) s:=by
 have e:=Im G X pre x g b2 s fS;have h:=Fa G X a1.g6 a1.bP (s.ag.new (.cells x.cs));have y:=Fa G X a1.lF a1.lb (s.ag.new (.cells x.cs));have dn:=Mh G X x.g6 x.bP (s.ag.new (.cells x.cs));have r:=Mh G X x.lF x.lb (s.ag.new (.cells x.cs));have fin:=fun b=>j0 (T:=aF) (G:=G) (X:=X) ((Child.ag s).new (.cells x.cs)) b
 rw[GX,ay,bh,zQ,bO];unfold q6;by_cases ar:x.op=1
 ·simp -implicitDefEqProofs only[dR ar,hi,fH,ay,bh,↓zQ,↓bO,f5,↓TH,be,↓(aZ h),rD,if_pos ar,b7];cases bX:jr x.g6 x.bP with
  |false=>simp -implicitDefEqProofs only[hz,hi,fH,ee,gP,f5,ew,ek,fin,gm,b7]
  |true=>
   simp -implicitDefEqProofs only[hK,ee,gP,ew,f5,b7,↓TI,be,↓(aZ y),rD];cases u:jr x.lF x.lb with
   |false=>simp -implicitDefEqProofs only[hz,hK,hi,fH,ee,gP,f5,ew,ek,fin,gm,ey,b7]
   |true=>simp -implicitDefEqProofs only[hK,ee,gP,ew,fH,f5,b7,rD,eg,e,ey]
 ·by_cases aw:x.op=2
  ·simp -implicitDefEqProofs only[b0 ar,ee,ew,ay,bh,↓zQ,↓bO,dR aw,f5,↓TH,be,↓(aZ h),rD,if_neg ar,if_pos aw,b7];cases bX:jr x.g6 x.bP with
   |false=>simp -implicitDefEqProofs only[hz,hi,fH,ee,gP,f5,ew,ek,fin,gm,b7]
   |true=>
    simp -implicitDefEqProofs only[hK,hz,ee,gP,ew,fH,f5,b7,↓TI,be,↓(aZ r),rD];cases u:mJ x.lF x.lb with
    |false=>simp -implicitDefEqProofs only[hz,hK,hi,fH,ee,gP,f5,ew,ek,fin,gm,ey,b7]
    |true=>simp -implicitDefEqProofs only[hK,ee,gP,ew,fH,f5,b7,rD,eg,e,ey]
  ·simp -implicitDefEqProofs only[b0 ar,ee,ew,ay,bh,↓zQ,↓bO,b0 aw,gP,f5,↓TH,be,↓(aZ dn),rD,if_neg ar,if_neg aw,b7,hz];cases bX:mJ x.g6 x.bP with
   |false=>simp -implicitDefEqProofs only[hz,hi,fH,ee,gP,f5,ew,ek,fin,gm,b7]
   |true=>
    simp -implicitDefEqProofs only[hK,hz,ee,gP,ew,fH,f5,b7,↓TI,be,↓(aZ r),rD];cases u:mJ x.lF x.lb with
    |false=>simp -implicitDefEqProofs only[hz,hK,hi,fH,ee,gP,f5,ew,ek,fin,gm,ey,b7]
    |true=>simp -implicitDefEqProofs only[hK,ee,gP,ew,fH,f5,b7,rD,eg,e,ey]
theorem Ip:Bu (aQ aF G X) (bc (pre++[x]) g) (.int .i64 (pre.length:Int)) (.ref (.l s.ag.own.length) 0) (.bool (jd x.op)) (s.ag.new (.cells x.cs))=.ok (.bool (xR x.op x.nB&&(q6 x&& !nX pre x))) s:=by
 have h:=Io G X pre x g b2 s fS a1;have fin:=fun b=>j0 (T:=aF) (G:=G) (X:=X) ((Child.ag s).new (.cells x.cs)) b
 have e:∀(a b:Bool) (k:bd) (S:ah),(aQ aF G X).aj S k ((oi .bool (.bool a) (.bool b)).map fun b=>.bool (bif true then !b else b))=k (.bool (!(a==b))) S:=fun a b k S=>rfl
 rw[GY,ay,bh,tV,bO];unfold xR;cases r:jd x.op with
 |true=>
  by_cases ar:x.nB=1
  ·simp -implicitDefEqProofs only[dR ar,hi,fH,e,show(!(true==true))=false from rfl,ee,hK,gP,ew,eg,h,if_true,eq_true (Or.inl ar:x.nB=1∨x.nB=2),dP,ey,b7,rD]
  ·by_cases aw:x.nB=2
   ·simp -implicitDefEqProofs only[b0 ar,ee,ew,ay,bh,↓tV,↓bO,dR aw,e,show(!(true==true))=false from rfl,hK,gP,eg,h,if_true,eq_true (Or.inr aw:x.nB=1∨x.nB=2),dP,ey,b7,rD]
   ·have bS:¬(x.nB=1∨x.nB=2):=by omega
    simp -implicitDefEqProofs only[b0 ar,ee,ew,ay,bh,↓tV,↓bO,b0 aw,e,show(!(true==false))=true from rfl,hi,fH,ek,fin,if_true,eq_false bS,dG,gm,b7,rD]
 |false=>
  by_cases eO:x.nB=0
  ·have ar:¬x.nB=1:=by omega
   have aw:¬x.nB=2:=by omega
   simp -implicitDefEqProofs only[b0 ar,ee,ew,ay,bh,↓tV,↓bO,b0 aw,e,show(!(false==false))=false from rfl,hz,f5,cf,b0 (not_not_intro eO),ew,fH,eg,h,b5,if_false,dR eO,ey,rD]
  ·by_cases ar:x.nB=1
   ·simp -implicitDefEqProofs only[dR ar,hi,fH,e,show(!(false==true))=true from rfl,ek,fin,b5,if_false,b0 eO,gm,b7]
   ·by_cases aw:x.nB=2
    ·simp -implicitDefEqProofs only[b0 ar,ee,ew,ay,bh,↓tV,↓bO,dR aw,e,show(!(false==true))=true from rfl,hi,fH,ek,fin,b5,if_false,b0 eO,gm,b7]
    ·simp -implicitDefEqProofs only[b0 ar,ee,ew,ay,bh,↓tV,↓bO,b0 aw,e,show(!(false==false))=false from rfl,hz,f5,cf,eq_true eO,not_false_eq_true,dP,fH,ek,fin,b5,if_false,b0 eO,gm,rD]
theorem Iq(ws:List Int)(r:e0)(ac:ws.length=x.args.length):∀n i:Nat,i+n=x.args.length→(∀o,o∈pre→lc o)→
  vw (aQ aF G X) (bc (pre++[x]) g) (.int .i64 (pre.length:Int)) (.ref (.l s.ag.own.length) 0) (i6 ws r) (.bool (jd x.op)) (i6 x.args x.qJ) (.int .i64 (x.args.length:Int)) (.int .i64 (i:Int)) (s.ag.new (.cells x.cs))=.ok (.bool (hv pre (ws.drop i) (x.args.drop i)&&(xR x.op x.nB&&(q6 x&& !nX pre x)))) s:=by
 have fin:=fun b=>j0 (T:=aF) (G:=G) (X:=X) ((Child.ag s).new (.cells x.cs)) b
 intro n
 induction n with
 |zero=>
  intro i bZ u;have e:¬(i:Int)<(x.args.length:Int):=by omega
  rw[xq,bl,b0 e,eg,Ip G X pre x g b2 s fS a1,lm (by omega),lm (by omega)];simp -implicitDefEqProofs only[hv,ey]
 |succ n F=>
  intro i bZ u;have e:(i:Int)<(x.args.length:Int):=by omega
  have y:i<x.args.length:=by omega
  have A:i<ws.length:=by omega
  have ad:=a1.Ol;have H:(x.args.map I)[i]? =some (I x.args[i]):=by simp [y]
  have J:(ws.map I)[i]? =some (I ws[i]):=by simp [A]
  have M:∀k:bd,(aQ aF G X).bV (s.ag.new (.cells x.cs)) k 1 (i6 x.args x.qJ) (.int .i64 (i:Int))=k (.bk [I x.args[i]]) (s.ag.new (.cells x.cs)):=fun k=>lC (T:=aF) (G:=G) (X:=X) (s:=s.ag.new (.cells x.cs)) (k:=k) 1 _ x.qJ .i64 i _ H
  have N:∀k:bd,(aQ aF G X).bV (s.ag.new (.cells x.cs)) k 1 (i6 ws r) (.int .i64 (i:Int))=k (.bk [I ws[i]]) (s.ag.new (.cells x.cs)):=fun k=>lC (T:=aF) (G:=G) (X:=X) (s:=s.ag.new (.cells x.cs)) (k:=k) 1 _ r .i64 i _ J
  have O:=fun S k=>nD G X S k i (by omega)
  rw[xq,bl,dR e,ek,GV,M,bg,bl,iy y,iy A,hv];unfold qi;by_cases ar:x.args[i]<0
  ·have aw:¬(0≤x.args[i]∧x.args[i]<(pre.length:Int)):=by omega
   simp -implicitDefEqProofs only[dR ar,hi,fH,ek,fin,b0 aw,gm,b7]
  ·by_cases aw:(pre.length:Int)≤x.args[i]
   ·have bS:¬(0≤x.args[i]∧x.args[i]<(pre.length:Int)):=by omega
    simp -implicitDefEqProofs only[b0 ar,ee,ew,cR,dR aw,hi,fH,ek,fin,b0 bS,gm,b7]
   ·have bS:0≤x.args[i]∧x.args[i]<(pre.length:Int):=by omega
    have h:x.args[i].toNat<pre.length:=by omega
    have U:((pre++[x]).map az.enc)[x.args[i].toNat]? =some pre[x.args[i].toNat].enc:=by rw[gb,fB h,eb h];rfl
    have V:pre[x.args[i].toNat]? =some pre[x.args[i].toNat]:=eb h;have ip:=fun(k:bd)=>I4 (T:=aF) (G:=G) (X:=X) (s:=s.ag.new (.cells x.cs)) (k:=k) 12 _ g .i64 x.args[i] _ bS.1 U
    generalize Y:pre[x.args[i].toNat]=o at *;have kI:o∈pre:=Y ▸ mW h;have QF:=aaq G X o {own:=[],up:=[],ro:=[]};have Z:af.aX [o.enc]=true:=by simp -implicitDefEqProofs only[af.aX,(u o kI).bb,bz]
    have Ri:=aas G X ws[i] (hJ o.op) (s.ag.new (.cells x.cs));have B:=fun(k:bd)=>bn (T:=aF) (G:=G) (X:=X) (s:=s.ag.new (.cells x.cs)) (k:=k) 12 o.cs (aC 12)
    rw[BU] at B;have aa:∀k:bd,(aQ aF G X).aq (s.ag.new (.cells x.cs)) k (some 12) (.bk o.enc.cells)=k o.enc (s.ag.new (.cells x.cs)):=B;have ab:∀d,af.ao d o.enc=o.enc:=fun d=>rfl
    simp -implicitDefEqProofs only[b0 ar,ee,ew,cR,b0 aw,N,af.cells,bg];rw[ip,aa,ab,l3 Z QF rfl,aA,aA,aZ Ri,rD];simp -implicitDefEqProofs only[V,dR bS,ey];cases ae:acc ws[i] (hJ o.op) with
    |false=>simp -implicitDefEqProofs only[hz,ek,fin,gm]
    |true=>simp -implicitDefEqProofs only[hK,eg,ey,GU,O];exact F (i+1) (by omega) u
theorem aax(y:∀o,o∈pre→lc o):aB aF G X 42 [bc (pre++[x]) g] s=.ok (.bool (wf pre x)) s:=by
 have fin:=fun b=>j0 (T:=aF) (G:=G) (X:=X) ((Child.ag s).new (.cells x.cs)) b
 have A:((pre++[x]).map az.enc)[pre.length]? =some x.enc:=by rw[gb,jt (aC _),Nat.sub_self];rfl
 have ip:=fun S k=>EP G X S k 12 _ g .i64 pre.length _ A
 have r:=fun(S:ah) (k:bd)=>iK (T:=aF) (G:=G) (X:=X) (s:=S) (k:=k) (pre.length+1) (by omega) (by omega)
 simp -implicitDefEqProofs only[Nat.add_sub_cancel] at r;have B:∀(S:ah) (k:bd),(aQ aF G X).aq S k (some 12) (.bk x.enc.cells)=k x.enc S:=fun S k=>bn (T:=aF) (G:=G) (X:=X) (s:=S) (k:=k) 12 x.cs (aC 12)
 have F:∀d,af.ao d x.enc=x.enc:=fun d=>rfl
 have gE:=fun(k:bd) (cs:List af) (h:cs.length=12)=>cX (T:=aF) (G:=G) (X:=X) (s:=s.ag) (k:=k) 12 x.cs cs rfl h x.cells
 have zF:=BT G X x.op (s.ag.new (.cells x.cs));have M:=a1.Ol;have H:=fun h=>Iq G X pre x g b2 s fS a1 (gB x.op) (tj x.op) h x.args.length 0 (by omega) y
 have J:((gB x.op).map I).length=(gB x.op).length:=d0 ..;have u:(x.args.map I).length=x.args.length:=d0 ..;rw[Ng,ZK,aI,d0,fW,List.length_singleton,r,ip,B,cG,F];refine(gE _ _ rfl).trans ?_;rw[ay,bh,zQ,aA,aZ zF,nh,ni,tO,bO];unfold wf;by_cases eO:hJ x.op=0
 ·simp -implicitDefEqProofs only[dR eO,hi,fH,ek,fin,b0 (not_not_intro eO:¬hJ x.op≠0),gm,b7]
 ·simp -implicitDefEqProofs only[b0 eO,ee,ew,aI,ay,bh,↓abp,cf,J,u,dR (show hJ x.op≠0 from eO),ey];by_cases ar:(gB x.op).length=x.args.length
  ·have e:¬¬((gB x.op).length:Int)=(x.args.length:Int):=by omega
   simp -implicitDefEqProofs only[b0 e,ee,ew,ay,bh,↓ahn,Mi,dR ar,ey];by_cases aw:x.name=[]
   ·simp -implicitDefEqProofs only[dR aw,ew,ek,fin,b0 (not_not_intro aw:¬x.name≠[]),gm]
   ·simp -implicitDefEqProofs only[b0 aw,ew,eg,GZ,ay,bh,↓abp,aI,u,dR (show x.name≠[] from aw),ey]
    have:=H ar;simp -implicitDefEqProofs only[bY] at this;exact this
  ·have e:¬((gB x.op).length:Int)=(x.args.length:Int):=by omega
   simp -implicitDefEqProofs only[dR e,hi,fH,ek,fin,b0 ar,gm,b7]
end
end Go.gF
end
