/- A part of the proof: no condition. -/
import Derived.Test.YtgdnbfijkagodaaGreatDoorA5
import Derived.Test.YtgdnbfijkagodaaGreatDoorA3
set_option linter.unusedSectionVars false
set_option linter.unusedSimpArgs false
set_option linter.unusedVariables false
section
namespace Go.hb
def B:Nat:=4294967296
theorem kj:B=4294967296:=rfl
theorem gO:0<B:=by decide
def val:List Nat→Nat
 |[]=>0
 |x::xs=>x+B*val xs
def dC(l:List Nat):Prop:=∀x,x∈l→x<B
theorem dC.tail{x:Nat}{l:List Nat}(h:dC (x::l)):dC l:=fun y fb=>h y (by simp [fb])
theorem dC.take{l:List Nat}(h:dC l)(n:Nat):dC (l.take n):=fun y fb=>h y (List.mem_of_mem_take fb)
theorem dC.drop{l:List Nat}(h:dC l)(n:Nat):dC (l.drop n):=fun y fb=>h y (List.mem_of_mem_drop fb)
theorem dC.getD{l:List Nat}(h:dC l)(i:Nat):l.getD i 0<B:=by
 by_cases bN:i<l.length
 ·have:l.getD i 0=l[i]:=by simp [List.getD,bN]
  rw[this];exact h _ (w3 bN)
 ·have:l.getD i 0=0:=by simp [List.getD,Nat.not_lt.1 bN]
  rw[this];exact gO
theorem dC.set{l:List Nat}(h:dC l)(i x:Nat)(aZ:x<B):dC (l.set i x):=fun y fb=>by
 rcases List.mem_or_eq_of_mem_set fb with ar|ar
 ·exact h y ar
 ·exact ar ▸ aZ
theorem oE(n:Nat):dC (List.replicate n 0):=fun y fb=>by rw[(List.mem_replicate.1 fb).2];exact gO
theorem mD:∀(a b:List Nat),val (a++b)=val a+B^a.length*val b
 |[],b=>by simp [val]
 |x::a,b=>by simp only[List.cons_append,val,mD a b,bM,Nat.pow_succ,fh];rw[ed (B^a.length) B,gr];omega
theorem hG:∀(l:List Nat),dC l→val l<B^l.length
 |[],_=>by simp [val]
 |x::l,h=>by have ar:=hG l h.tail;have ay:=h x (by simp);simp only[val,bM,Nat.pow_succ];have ch:B*(val l+1)≤B*B^l.length:=Nat.mul_le_mul_left _ ar;rw[fh,Nat.mul_one] at ch;rw[ed (B^l.length)];omega
theorem AT(n:Nat):val (List.replicate n 0)=0:=by
 induction n with
 |zero=>rfl
 |succ n e=>simp [List.replicate_succ,val,e]
theorem val_succ(l:List Nat)(i:Nat)(h:i<l.length):val (l.take (i+1))=val (l.take i)+B^i*l.getD i 0:=by
 rw[List.take_succ_eq_append_getElem h,mD]
 have:(l.take i).length=i:=by simp;omega
 rw[this];simp [val,List.getD,h]
theorem kB(l:List Nat)(i:Nat)(h:i≤l.length):val l=val (l.take i)+B^i*val (l.drop i):=by
 have:=mD (l.take i) (l.drop i);rw[List.take_append_drop] at this;rw[this]
 have:(l.take i).length=i:=by simp;omega
 rw[this]
theorem lO(l:List Nat)(i:Nat)(h:i<l.length):val (l.drop i)=l.getD i 0+B*val (l.drop (i+1)):=by rw[kk h];simp [val,List.getD,h]
theorem lD{l:List Nat}{i j x:Nat}(h:i≤j):(l.set j x).take i=l.take i:=by
 apply List.ext_getElem?;intro n;rw[List.getElem?_take,List.getElem?_take];split
 ·rw[oZ (by omega)]
 ·rfl
theorem q6{l:List Nat}{i j x:Nat}(h:j<i):(l.set j x).drop i=l.drop i:=by apply List.ext_getElem?;intro n;rw[List.getElem?_drop,List.getElem?_drop,oZ (by omega)]
theorem fx{l:List Nat}{i x:Nat}(h:i<l.length):(l.set i x).getD i 0=x:=by simp [List.getD,h]
theorem getD_set_ne{l:List Nat}{i j x:Nat}(h:i≠j):(l.set i x).getD j 0=l.getD j 0:=by simp only[List.getD];rw[oZ h]
def gP(l:List Nat):Nat→Nat
 |0=>0
 |n+1=>if l.getD n 0=0 then gP l n else n+1
theorem i9(l:List Nat):∀n,gP l n≤n
 |0=>aC _
 |n+1=>by
  unfold gP;split
  ·exact Nat.le_succ_of_le (i9 l n)
  ·exact aC _
def fS(l:List Nat):List Nat:=l.take (gP l l.length)
def eM(l:List Nat):Prop:=l≠[]→l.getD (l.length-1) 0≠0
theorem u9(l:List Nat):∀n,n≤l.length→val (l.take (gP l n))=val (l.take n)
 |0,_=>rfl
 |n+1,h=>by
  unfold gP;split
  ·rename_i eU;rw[u9 l n (by omega),val_succ l n (by omega),eU,Nat.mul_zero,Nat.add_zero]
  ·rfl
theorem q7(l:List Nat):∀n,gP l n≠0→l.getD (gP l n-1) 0≠0
 |0,h=>absurd rfl h
 |n+1,h=>by
  unfold gP at h ⊢;split
  ·rename_i eU;rw[if_pos eU] at h;exact q7 l n h
  ·rename_i eU;exact eU
theorem jO(l:List Nat):val (fS l)=val l:=by unfold fS;rw[u9 l _ (aC _),List.take_length]
theorem h0(l:List Nat):(fS l).length=gP l l.length:=by
 unfold fS;rw[List.length_take]
 have:=i9 l l.length;omega
theorem iR(l:List Nat):eM (fS l):=fun h=>by
 have ar:gP l l.length≠0:=fun e=>h (by unfold fS;rw[e];rfl)
 have ay:=q7 l l.length ar;rw[h0];unfold fS;simp only[List.getD] at ay ⊢;rw[List.getElem?_take,if_pos (by omega)];exact ay
theorem k5{l:List Nat}(h:dC l):dC (fS l):=h.take _
theorem oR(l:List Nat)(h:eM l)(e6:l≠[]):B^(l.length-1)≤val l:=by
 have bO:0<l.length:=List.length_pos_iff.2 e6;have ar:=val_succ l (l.length-1) (by omega);rw[show l.length-1+1=l.length by omega,List.take_length] at ar;have ay:=h e6;rw[ar]
 have:B^(l.length-1)*1≤B^(l.length-1)*l.getD (l.length-1) 0:=Nat.mul_le_mul_left _ (by omega);omega
theorem sI{l:List Nat}(h:eM l):val l=0↔l=[]:=by
 constructor
 ·intro eU;by_cases e6:l=[]
  ·exact e6
  ·have:=oR l h e6
   have:=Nat.pow_pos (n:=l.length-1) gO;omega
 ·intro e;subst e;rfl
theorem nN{m n:Nat}(h:m≤n):B^m≤B^n:=Nat.pow_le_pow_right gO h
theorem ni{a b:List Nat}(p:dC a)(q:eM b)(h:a.length<b.length):val a<val b:=by have ar:=hG a p;have ay:=oR b q (by intro e;subst e;simp at h);have ch:B^a.length≤B^(b.length-1):=nN (by omega);omega
theorem va{a b:List Nat}(e:dC a)(p:dC b)(q:eM a)(r:eM b)(h:val a=val b):a.length=b.length:=by
 rcases Nat.lt_trichotomy a.length b.length with ar|ar|ar
 ·have:=ni e r ar;omega
 ·exact ar
 ·have:=ni p q ar;omega
theorem pJ{l:List Nat}(aW:eM l){n:Nat}(h:val l<B^n):l.length≤n:=by
 by_cases e:l=[]
 ·subst e;simp
 ·have ar:=oR l aW e;by_cases ay:l.length≤n
  ·exact ay
  ·have ch:B^n≤B^(l.length-1):=nN (by omega);omega
theorem val_inj:∀{a b:List Nat},dC a→dC b→a.length=b.length→val a=val b→a=b
 |[],[],_,_,_,_=>rfl
 |[],y::b,_,_,h,_=>by simp at h
 |x::a,[],_,_,h,_=>by simp at h
 |x::a,y::b,e,p,bO,h=>by
  have aZ:=e x (by simp);have fb:=p y (by simp);simp only[val] at h;have ar:x=y:=by
   have dI:(x+B*val a)%B=x:=by rw[Nat.add_mul_mod_self_left,g7 aZ]
   have q:(y+B*val b)%B=y:=by rw[Nat.add_mul_mod_self_left,g7 fb]
   rw[←dI,←q,h]
  subst ar;have ay:B*val a=B*val b:=by omega
  have ch:=Nat.eq_of_mul_eq_mul_left gO ay;rw[val_inj e.tail p.tail (by simpa using bO) ch]
end Go.hb
namespace Go.hb
theorem sJ:B=2^32:=rfl
theorem Df(w r:Nat):B^w*2^r=2^(32*w+r):=by rw[sJ,←Nat.pow_mul,←Nat.pow_add]
theorem wU(x r:Nat)(aJ:r<32):∃q,x*2^r%B=q*2^r∧q*2^r+2^r≤B:=by
 refine⟨x%2^(32-r),?_,?_⟩
 ·have:B=2^(32-r)*2^r:=by rw[←Nat.pow_add,sJ];congr 1;omega
  rw[this,Nat.mul_mod_mul_right]
 ·have:B=2^(32-r)*2^r:=by rw[←Nat.pow_add,sJ];congr 1;omega
  have ar:x%2^(32-r)+1≤2^(32-r):=Nat.mod_lt _ (Nat.two_pow_pos _);have ay:=fi (2^r) ar;rw[eL,Nat.one_mul] at ay;rw[this];exact ay
theorem wV(x r:Nat)(aZ:x<B)(aJ:r<32):x*2^r/B<2^r∧x*2^r<18446744073709551616:=by
 have ar:x*2^r<B*2^r:=Nat.mul_lt_mul_of_pos_right aZ (Nat.two_pow_pos _);refine⟨by rw[Nat.div_lt_iff_lt_mul gO,ed (2^r)];exact ar,?_⟩;have ay:B*2^r≤B*2^32:=Nat.mul_le_mul_left _ (Nat.pow_le_pow_right (by omega) (by omega));have ch:B*2^32=18446744073709551616:=by decide
 omega
theorem Dg(l out:List Nat)(i w r:Nat)(aJ:r<32)(bN:i<l.length)(bO:l.length+w<out.length)(h:dC out)(p:dC l)(bD:val (out.take (i+w+1))=val (l.take i)*2^(32*w+r))(aW:out.getD (i+w) 0<2^r)(c:Nat)(B2:c=out.getD (i+w) 0)(y:Nat)(fb:y=c+l.getD i 0*2^r%B):
  let e:=(out.set (i+w) y).set (i+w+1) (l.getD i 0*2^r/B)
  dC e∧e.length=out.length∧val (e.take (i+1+w+1))=val (l.take (i+1))*2^(32*w+r)∧e.getD (i+1+w) 0<2^r:=by
 have aZ:=p.getD i;have A:=wV (l.getD i 0) r aZ aJ;obtain⟨q,M,N⟩:=wU (l.getD i 0) r aJ;have O:2^r≤2^32:=Nat.pow_le_pow_right (by omega) (by omega);have F:y<B:=by omega
 have U:(2:Nat)^32=B:=rfl;have dI:i+1+w=i+w+1:=by omega
 refine⟨(h.set _ _ F).set _ _ (by omega),by simp,?_,?_⟩
 ·have s1:=val_succ ((out.set (i+w) y).set (i+w+1) (l.getD i 0*2^r/B)) (i+w+1) (by simp;omega);have s2:=val_succ (out.set (i+w) y) (i+w) (by simp;omega);have H:=val_succ out (i+w) (by omega);have gZ:((out.set (i+w) y).set (i+w+1) (l.getD i 0*2^r/B)).getD (i+w+1) 0=l.getD i 0*2^r/B:=fx (by simp;omega);have g9:(out.set (i+w) y).getD (i+w) 0=y:=fx (by omega);rw[dI,s1,gZ,lD (aC _),s2,g9,lD (aC _),val_succ l i bN,eL,←bD,H,←B2];have I:B^i*l.getD i 0*2^(32*w+r)=B^(i+w)*(l.getD i 0*2^r):=by
   rw[←Df,Nat.pow_add,gr,gr,Nat.mul_left_comm (l.getD i 0)]
  have J:B^(i+w)*(l.getD i 0*2^r)=B^(i+w)*(l.getD i 0*2^r%B)+B^(i+w)*(B*(l.getD i 0*2^r/B)):=by rw[←fh,Nat.mod_add_div]
  rw[I,J,fb,fh,Nat.pow_succ,gr (B^(i+w)) B];omega
 ·have gZ:((out.set (i+w) y).set (i+w+1) (l.getD i 0*2^r/B)).getD (i+w+1) 0=l.getD i 0*2^r/B:=fx (by simp;omega);rw[dI,gZ];exact A.1
theorem AU(a out:List Nat)(n d rest:Nat)(cF:d≠0)(df:n<a.length)(bO:out.length=a.length)(mj:dC a)(e:dC out)(aJ:rest<d)(bD:val (a.drop (n+1))=val (out.drop (n+1))*d+rest):
  (rest*B+a.getD n 0)/d<B∧dC (out.set n ((rest*B+a.getD n 0)/d))∧(rest*B+a.getD n 0)%d<d∧val (a.drop n)=val ((out.set n ((rest*B+a.getD n 0)/d)).drop n)*d+(rest*B+a.getD n 0)%d:=by
 have aZ:=mj.getD n;have ar:rest*B+a.getD n 0<d*B:=by have:(rest+1)*B≤d*B:=fi _ aJ;rw[eL,Nat.one_mul] at this;omega
 have f8:(rest*B+a.getD n 0)/d<B:=by rw[Nat.div_lt_iff_lt_mul (by omega),ed B];exact ar
 refine⟨f8,e.set _ _ f8,Nat.mod_lt _ (by omega),?_⟩;have s1:=lO (out.set n ((rest*B+a.getD n 0)/d)) n (by simp;omega);have gZ:(out.set n ((rest*B+a.getD n 0)/d)).getD n 0=(rest*B+a.getD n 0)/d:=fx (by omega);rw[lO a n df,bD,s1,gZ,q6 (by omega),eL];have hm:=Nat.div_add_mod (rest*B+a.getD n 0) d;have dI:B*(val (out.drop (n+1))*d+rest)=B*val (out.drop (n+1))*d+rest*B:=by rw[fh,gr,ed B rest]
 rw[dI];have h:(rest*B+a.getD n 0)/d*d=d*((rest*B+a.getD n 0)/d):=ed _ _;omega
end Go.hb
end
section
namespace Go.f0
open Go.Ab Go.hb
variable(G:Nat→ae)(X:Nat→List ae→ag→ah)
theorem WH(S:ag)(k:bb)(sz:Nat)(es:List ae)(g:ga)(ec:IntKind)(i:Nat)(e:ae)(h:es[i]? =some e):(a3 a4 G X).c7 S k sz (.cm sz es g) (.int ec (i:Int))=k (.bU e.cells) S:=nG sz es g ec i e h
theorem q8(S:ag)(k:bb)(a:Nat)(h:a+1<9223372036854775808):(a3 a4 G X).ai S k (ao .add (.int .i64 (a:Int)) (.int .i64 1))=k (.int .i64 ((a+1:Nat):Int)) S:=k4 a h
theorem AV(s:ag)(v:ae)(l:List Nat)(h:lA s v l)(y:l.length<9223372036854775807)(S:ag)(e:Child s S):∀n,n≤l.length→qS (a3 a4 G X) v (.int .i64 (n:Int)) S=.ok (ou v (gP l n)) s:=by
 have q:∀n,n≤l.length→uJ (a3 a4 G X) v (.int .i64 (n:Int)) S=.ok (ou v n) s:=fun n df=>by rw[An,h.slice n df];exact js e _ _ ((h.cut n df).same e)
 intro n
 induction n with
 |zero=>
  intro df;rw[sy];have eU:¬((0:Int)<((0:Nat):Int)):=by omega
  simp -implicitDefEqProofs only[↓cx,↓cy,↓bH,↓bd,↓ax,↓az,↓av,↓aA,↓aF,↓aG,↓aw,↓aB,↓aU,↓aM,↓aP,↓bf,↓dG,↓aL,↓bl,↓bP,↓cR,↓bW,↓bX,↓bQ,↓bY,↓bZ,↓b0,↓b1,↓b2,↓b3,↓bn,↓bo,↓bp,↓cS,↓cT,↓cU,↓cV,↓cW,↓cX,↓cY,↓cZ,↓c0,↓b4,↓b5,↓b6,↓bB,↓cK,↓bE,↓c1,↓bJ,↓cv,↓cJ,↓c2,↓aQ,↓aH,↓aR,↓aI,↓aD,↓aS,↓cH,↓bR,↓bS,↓b7,↓b8,↓b9,↓ca,↓cb,↓cc,↓cd,↓cf,↓dq,↓dr,↓c6,↓dA,↓ck,↓cl,↓cw,↓c8,bV,dJ,cj,decide_eq_false_iff_not,ite_not,↓reduceIte,a2,aO,a0,bq,bc,bM,cr,Nat.reduceAdd,bA,↓a9,Nat.reduceLeDiff,aC,cN,cQ,dx,du,bL,eq_false eU];exact q 0 (Nat.zero_le _)
 |succ n r=>
  intro df;have eU:(0:Int)<((n+1:Nat):Int):=by omega
  have g:=fun(k:bb)=>(h.nZ e.nZ).get (T:=a4) (G:=G) (X:=X) .i64 n (by omega) k
  have dR:=fun(S:ag) (k:bb)=>jt (T:=a4) (G:=G) (X:=X) (s:=S) (k:=k) (n+1) (by omega) (by omega)
  simp -implicitDefEqProofs only[Nat.add_sub_cancel] at dR;rw[sy];by_cases hr:l.getD n 0=0
  ·have p:((l.getD n 0:Nat):Int)=0:=by omega
   simp -implicitDefEqProofs only[↓cx,↓cy,↓bH,↓bd,↓ax,↓az,↓av,↓aA,↓aF,↓aG,↓aw,↓aB,↓aU,↓aM,↓aP,↓bf,↓dG,↓aL,↓bl,↓bP,↓cR,↓bW,↓bX,↓bQ,↓bY,↓bZ,↓b0,↓b1,↓b2,↓b3,↓bn,↓bo,↓bp,↓cS,↓cT,↓cU,↓cV,↓cW,↓cX,↓cY,↓cZ,↓c0,↓b4,↓b5,↓b6,↓bB,↓cK,↓bE,↓c1,↓bJ,↓cv,↓cJ,↓c2,↓aQ,↓aH,↓aR,↓aI,↓aD,↓aS,↓cH,↓bR,↓bS,↓b7,↓b8,↓b9,↓ca,↓cb,↓cc,↓cd,↓cf,↓dq,↓dr,↓c6,↓dA,↓ck,↓cl,↓cw,↓c8,bV,dJ,cj,decide_eq_false_iff_not,ite_not,↓reduceIte,a2,aO,a0,bq,bc,bM,cr,Nat.reduceAdd,bA,↓a9,Nat.reduceLeDiff,aC,cN,cQ,dx,du,bL,eq_true eU,dR,↓g,p,Am,gP,if_pos hr];exact r (by omega)
  ·have p:¬((l.getD n 0:Nat):Int)=0:=by omega
   simp -implicitDefEqProofs only[↓cx,↓cy,↓bH,↓bd,↓ax,↓az,↓av,↓aA,↓aF,↓aG,↓aw,↓aB,↓aU,↓aM,↓aP,↓bf,↓dG,↓aL,↓bl,↓bP,↓cR,↓bW,↓bX,↓bQ,↓bY,↓bZ,↓b0,↓b1,↓b2,↓b3,↓bn,↓bo,↓bp,↓cS,↓cT,↓cU,↓cV,↓cW,↓cX,↓cY,↓cZ,↓c0,↓b4,↓b5,↓b6,↓bB,↓cK,↓bE,↓c1,↓bJ,↓cv,↓cJ,↓c2,↓aQ,↓aH,↓aR,↓aI,↓aD,↓aS,↓cH,↓bR,↓bS,↓b7,↓b8,↓b9,↓ca,↓cb,↓cc,↓cd,↓cf,↓dq,↓dr,↓c6,↓dA,↓ck,↓cl,↓cw,↓c8,bV,dJ,cj,decide_eq_false_iff_not,ite_not,↓reduceIte,a2,aO,a0,bq,bc,bM,cr,Nat.reduceAdd,bA,↓a9,Nat.reduceLeDiff,aC,cN,cQ,dx,du,bL,eq_true eU,dR,↓g,eq_false p,gP,if_neg hr];exact q (n+1) df
theorem ma(s:ag)(v:ae)(l:List Nat)(h:lA s v l)(e:l.length<9223372036854775807):aX a4 G X 135 [v] s=.ok (ou v (gP l l.length)) s:=by rw[C1,KO,h.len];exact AV G X s v l h e s.ak (.ak s) l.length (aC _)
theorem GW{s S:ag}(e:Child s S){j:Nat}{l:List Nat}(h:gz S j l)(n:Nat)(df:n=l.length)(p:l.length<9223372036854775807):∃v,je v (fS l)∧(a3 a4 G X).cn S (fun v s=>(a3 a4 G X).bw false [some v] s) 135 [.cD (.g S.aa j) 0 n n 1]=.ok v s:=by
 subst df;have aJ:=h.rd l.length l.length (aC _) (aC _);rw[List.take_length] at aJ;rw[bx (ma G X S _ l aJ p)];have hle:=i9 l l.length;obtain⟨v,ar,ay⟩:=mA (S:=S) (j:=j) (off:=0) (cap:=l.length) (fS l) (n:=gP l l.length) (h0 l).symm h (by rw[bV,h0];simp [fS,List.map_take]) (by rw[h0];simpa using hle)
 exact⟨v,ay,js e _ _ ar⟩
theorem vb{s S:ag}(e:Child s S){j:Nat}{l:List Nat}(h:gz S j l)(n:Nat)(df:n=l.length)(p:l.length<9223372036854775807)(w:ae)(hw:w.plain=true):∃v,je v (fS l)∧(a3 a4 G X).cn S (fun v s=>(a3 a4 G X).bw false [some v,some w] s) 135 [.cD (.g S.aa j) 0 n n 1]=.ok (.d7 [v,w]) s:=by
 subst df;have aJ:=h.rd l.length l.length (aC _) (aC _);rw[List.take_length] at aJ;rw[bx (ma G X S _ l aJ p)];have hle:=i9 l l.length;obtain⟨v,ar,ay⟩:=mA (S:=S) (j:=j) (off:=0) (cap:=l.length) (fS l) (n:=gP l l.length) (h0 l).symm h (by rw[bV,h0];simp [fS,List.map_take]) (by rw[h0];simpa using hle)
 exact⟨v,ay,l7 e _ _ _ _ ar (wc hw)⟩
def oF(x y:Nat):Int:=if x<y then -1 else if y<x then 1 else 0
theorem AW(s:ag)(kZ wt:ae)(a b:List Nat)(I:lA s kZ a)(N:lA s wt b)(mj:dC a)(mM:dC b)(bO:a.length=b.length)(gC:a.length<9223372036854775807)(S:ag)(p:Child s S):∀n k,k+n=a.length→val (a.drop n)=val (b.drop n)→
  qO (a3 a4 G X) kZ wt (.int .i64 (a.length:Int)) (.int .i64 (k:Int)) S=.ok (.int .i64 (oF (val a) (val b))) s:=by
 intro n
 induction n with
 |zero=>
  intro k c3 he;have h:¬((k:Int)<(a.length:Int)):=by omega
  rw[sw];simp -implicitDefEqProofs only[↓cx,↓cy,↓bH,↓bd,↓ax,↓az,↓av,↓aA,↓aF,↓aG,↓aw,↓aB,↓aU,↓aM,↓aP,↓bf,↓dG,↓aL,↓bl,↓bP,↓cR,↓bW,↓bX,↓bQ,↓bY,↓bZ,↓b0,↓b1,↓b2,↓b3,↓bn,↓bo,↓bp,↓cS,↓cT,↓cU,↓cV,↓cW,↓cX,↓cY,↓cZ,↓c0,↓b4,↓b5,↓b6,↓bB,↓cK,↓bE,↓c1,↓bJ,↓cv,↓cJ,↓c2,↓aQ,↓aH,↓aR,↓aI,↓aD,↓aS,↓cH,↓bR,↓bS,↓b7,↓b8,↓b9,↓ca,↓cb,↓cc,↓cd,↓cf,↓dq,↓dr,↓c6,↓dA,↓ck,↓cl,↓cw,↓c8,bV,dJ,cj,decide_eq_false_iff_not,ite_not,↓reduceIte,a2,aO,a0,bq,bc,bM,cr,Nat.reduceAdd,bA,↓a9,Nat.reduceLeDiff,aC,cN,cQ,dx,du,bL,eq_false h,Ah];simp -implicitDefEqProofs only[bV] at he;rw[iQ p,he];simp [oF]
 |succ n O=>
  intro k c3 he;have h:(k:Int)<(a.length:Int):=by omega
  have sK:=fun(k:bb)=>(I.nZ p.nZ).get (T:=a4) (G:=G) (X:=X) .i64 n (by omega) k
  have r:=fun(k:bb)=>(N.nZ p.nZ).get (T:=a4) (G:=G) (X:=X) .i64 n (by omega) k
  have y:=fun(S:ag) (k:bb)=>I.len (T:=a4) (G:=G) (X:=X) k S
  have dR:=fun(S:ag) (k:bb)=>jt (T:=a4) (G:=G) (X:=X) (s:=S) (k:=k) a.length (by omega) (by omega)
  have q:=fun(S:ag) (lk:bb)=>mz (T:=a4) (G:=G) (X:=X) (s:=S) (k:=lk) (a.length-1) k (by omega) (by omega)
  have U:=fun(S:ag) (lk:bb)=>k4 (T:=a4) (G:=G) (X:=X) (s:=S) (k:=lk) k (by omega)
  have V:a.length-1-k=n:=by omega
  simp -implicitDefEqProofs only[V] at q;have A:=lO a n (by omega);have F:=lO b n (by omega);have J:=kB a n (by omega);have M:=kB b n (by omega);have Y:=hG (a.take n) (mj.take n);have Z:=hG (b.take n) (mM.take n);have aa:(a.take n).length=n:=by simp;omega
  have ab:(b.take n).length=n:=by simp;omega
  rw[aa] at Y;rw[ab] at Z;rw[sw];simp -implicitDefEqProofs only[↓cx,↓cy,↓bH,↓bd,↓ax,↓az,↓av,↓aA,↓aF,↓aG,↓aw,↓aB,↓aU,↓aM,↓aP,↓bf,↓dG,↓aL,↓bl,↓bP,↓cR,↓bW,↓bX,↓bQ,↓bY,↓bZ,↓b0,↓b1,↓b2,↓b3,↓bn,↓bo,↓bp,↓cS,↓cT,↓cU,↓cV,↓cW,↓cX,↓cY,↓cZ,↓c0,↓b4,↓b5,↓b6,↓bB,↓cK,↓bE,↓c1,↓bJ,↓cv,↓cJ,↓c2,↓aQ,↓aH,↓aR,↓aI,↓aD,↓aS,↓cH,↓bR,↓bS,↓b7,↓b8,↓b9,↓ca,↓cb,↓cc,↓cd,↓cf,↓dq,↓dr,↓c6,↓dA,↓ck,↓cl,↓cw,↓c8,bV,dJ,cj,decide_eq_false_iff_not,ite_not,↓reduceIte,a2,aO,a0,bq,bc,bM,cr,Nat.reduceAdd,bA,↓a9,Nat.reduceLeDiff,aC,cN,cQ,dx,du,bL,eq_true h];rw[Ag];by_cases e:a.getD n 0=b.getD n 0
  ·have hJ:((a.getD n 0:Nat):Int)=((b.getD n 0:Nat):Int):=by omega
   simp -implicitDefEqProofs only[↓cx,↓cy,↓bH,↓bd,↓ax,↓az,↓av,↓aA,↓aF,↓aG,↓aw,↓aB,↓aU,↓aM,↓aP,↓bf,↓dG,↓aL,↓bl,↓bP,↓cR,↓bW,↓bX,↓bQ,↓bY,↓bZ,↓b0,↓b1,↓b2,↓b3,↓bn,↓bo,↓bp,↓cS,↓cT,↓cU,↓cV,↓cW,↓cX,↓cY,↓cZ,↓c0,↓b4,↓b5,↓b6,↓bB,↓cK,↓bE,↓c1,↓bJ,↓cv,↓cJ,↓c2,↓aQ,↓aH,↓aR,↓aI,↓aD,↓aS,↓cH,↓bR,↓bS,↓b7,↓b8,↓b9,↓ca,↓cb,↓cc,↓cd,↓cf,↓dq,↓dr,↓c6,↓dA,↓ck,↓cl,↓cw,↓c8,bV,dJ,cj,decide_eq_false_iff_not,ite_not,↓reduceIte,a2,aO,a0,bq,bc,bM,cr,Nat.reduceAdd,bA,↓a9,Nat.reduceLeDiff,aC,cN,cQ,dx,du,bL,↓y,↓dR,↓q,↓sK,↓r,hJ,not_true_eq_false];rw[Af,U];exact O (k+1) (by omega) (by rw[A,F,e,he])
  ·have hJ:¬((a.getD n 0:Nat):Int)=((b.getD n 0:Nat):Int):=by omega
   by_cases ac:a.getD n 0<b.getD n 0
   ·have H:((a.getD n 0:Nat):Int)<((b.getD n 0:Nat):Int):=by omega
    simp -implicitDefEqProofs only[↓cx,↓cy,↓bH,↓bd,↓ax,↓az,↓av,↓aA,↓aF,↓aG,↓aw,↓aB,↓aU,↓aM,↓aP,↓bf,↓dG,↓aL,↓bl,↓bP,↓cR,↓bW,↓bX,↓bQ,↓bY,↓bZ,↓b0,↓b1,↓b2,↓b3,↓bn,↓bo,↓bp,↓cS,↓cT,↓cU,↓cV,↓cW,↓cX,↓cY,↓cZ,↓c0,↓b4,↓b5,↓b6,↓bB,↓cK,↓bE,↓c1,↓bJ,↓cv,↓cJ,↓c2,↓aQ,↓aH,↓aR,↓aI,↓aD,↓aS,↓cH,↓bR,↓bS,↓b7,↓b8,↓b9,↓ca,↓cb,↓cc,↓cd,↓cf,↓dq,↓dr,↓c6,↓dA,↓ck,↓cl,↓cw,↓c8,bV,dJ,cj,decide_eq_false_iff_not,ite_not,↓reduceIte,a2,aO,a0,bq,bc,bM,cr,Nat.reduceAdd,bA,↓a9,Nat.reduceLeDiff,aC,cN,cQ,dx,du,bL,↓y,↓dR,↓q,↓sK,↓r,eq_false hJ,not_false_eq_true,eq_true H];rw[iQ p]
    have:val a<val b:=by
     rw[J,M];have ar:val (a.drop n)+1≤val (b.drop n):=by rw[A,F,he];omega
     have ay:=Nat.mul_le_mul_left (B^n) ar;rw[fh,Nat.mul_one] at ay;omega
    simp [oF,this]
   ·have H:¬((a.getD n 0:Nat):Int)<((b.getD n 0:Nat):Int):=by omega
    simp -implicitDefEqProofs only[↓cx,↓cy,↓bH,↓bd,↓ax,↓az,↓av,↓aA,↓aF,↓aG,↓aw,↓aB,↓aU,↓aM,↓aP,↓bf,↓dG,↓aL,↓bl,↓bP,↓cR,↓bW,↓bX,↓bQ,↓bY,↓bZ,↓b0,↓b1,↓b2,↓b3,↓bn,↓bo,↓bp,↓cS,↓cT,↓cU,↓cV,↓cW,↓cX,↓cY,↓cZ,↓c0,↓b4,↓b5,↓b6,↓bB,↓cK,↓bE,↓c1,↓bJ,↓cv,↓cJ,↓c2,↓aQ,↓aH,↓aR,↓aI,↓aD,↓aS,↓cH,↓bR,↓bS,↓b7,↓b8,↓b9,↓ca,↓cb,↓cc,↓cd,↓cf,↓dq,↓dr,↓c6,↓dA,↓ck,↓cl,↓cw,↓c8,bV,dJ,cj,decide_eq_false_iff_not,ite_not,↓reduceIte,a2,aO,a0,bq,bc,bM,cr,Nat.reduceAdd,bA,↓a9,Nat.reduceLeDiff,aC,cN,cQ,dx,du,bL,↓y,↓dR,↓q,↓sK,↓r,eq_false hJ,not_false_eq_true,eq_false H,Ae];rw[iQ p]
    have:val b<val a:=by
     rw[J,M];have ar:val (b.drop n)+1≤val (a.drop n):=by rw[A,F,he];omega
     have ay:=Nat.mul_le_mul_left (B^n) ar;rw[fh,Nat.mul_one] at ay;omega
    simp [oF,this,Nat.not_lt.2 (Nat.le_of_lt this)]
theorem K3(s:ag)(kZ wt:ae)(a b:List Nat)(r:lA s kZ a)(y:lA s wt b)(mj:dC a)(mM:dC b)(A:eM a)(B:eM b)(gC:a.length<9223372036854775807)(H:b.length<9223372036854775807):
  aX a4 G X 133 [kZ,wt] s=.ok (.int .i64 (oF (val a) (val b))) s:=by
 rw[CZ,KM];have h:=fun(S:ag) (k:bb)=>r.len (T:=a4) (G:=G) (X:=X) k S
 have p:=fun(S:ag) (k:bb)=>y.len (T:=a4) (G:=G) (X:=X) k S
 by_cases e:a.length=b.length
 ·have hJ:(a.length:Int)=(b.length:Int):=by omega
  simp -implicitDefEqProofs only[↓cx,↓cy,↓bH,↓bd,↓ax,↓az,↓av,↓aA,↓aF,↓aG,↓aw,↓aB,↓aU,↓aM,↓aP,↓bf,↓dG,↓aL,↓bl,↓bP,↓cR,↓bW,↓bX,↓bQ,↓bY,↓bZ,↓b0,↓b1,↓b2,↓b3,↓bn,↓bo,↓bp,↓cS,↓cT,↓cU,↓cV,↓cW,↓cX,↓cY,↓cZ,↓c0,↓b4,↓b5,↓b6,↓bB,↓cK,↓bE,↓c1,↓bJ,↓cv,↓cJ,↓c2,↓aQ,↓aH,↓aR,↓aI,↓aD,↓aS,↓cH,↓bR,↓bS,↓b7,↓b8,↓b9,↓ca,↓cb,↓cc,↓cd,↓cf,↓dq,↓dr,↓c6,↓dA,↓ck,↓cl,↓cw,↓c8,bV,dJ,cj,decide_eq_false_iff_not,ite_not,↓reduceIte,a2,aO,a0,bq,bc,bM,cr,Nat.reduceAdd,bA,↓a9,Nat.reduceLeDiff,aC,cN,cQ,dx,du,bL,↓h,↓p,eq_true hJ,not_true_eq_false];rw[Ai,h];exact AW G X s kZ wt a b r y mj mM e gC s.ak (.ak s) a.length 0 (by omega) (by rw[List.drop_length,e,List.drop_length])
 ·have hJ:¬(a.length:Int)=(b.length:Int):=by omega
  by_cases F:a.length<b.length
  ·have q:(a.length:Int)<(b.length:Int):=by omega
   have:=ni mj B F;simp -implicitDefEqProofs only[↓cx,↓cy,↓bH,↓bd,↓ax,↓az,↓av,↓aA,↓aF,↓aG,↓aw,↓aB,↓aU,↓aM,↓aP,↓bf,↓dG,↓aL,↓bl,↓bP,↓cR,↓bW,↓bX,↓bQ,↓bY,↓bZ,↓b0,↓b1,↓b2,↓b3,↓bn,↓bo,↓bp,↓cS,↓cT,↓cU,↓cV,↓cW,↓cX,↓cY,↓cZ,↓c0,↓b4,↓b5,↓b6,↓bB,↓cK,↓bE,↓c1,↓bJ,↓cv,↓cJ,↓c2,↓aQ,↓aH,↓aR,↓aI,↓aD,↓aS,↓cH,↓bR,↓bS,↓b7,↓b8,↓b9,↓ca,↓cb,↓cc,↓cd,↓cf,↓dq,↓dr,↓c6,↓dA,↓ck,↓cl,↓cw,↓c8,bV,dJ,cj,decide_eq_false_iff_not,ite_not,↓reduceIte,a2,aO,a0,bq,bc,bM,cr,Nat.reduceAdd,bA,↓a9,Nat.reduceLeDiff,aC,cN,cQ,dx,du,bL,↓h,↓p,eq_false hJ,not_false_eq_true,eq_true q];simp [oF,this]
  ·have q:¬(a.length:Int)<(b.length:Int):=by omega
   have:=ni mM A (by omega:b.length<a.length);simp -implicitDefEqProofs only[↓cx,↓cy,↓bH,↓bd,↓ax,↓az,↓av,↓aA,↓aF,↓aG,↓aw,↓aB,↓aU,↓aM,↓aP,↓bf,↓dG,↓aL,↓bl,↓bP,↓cR,↓bW,↓bX,↓bQ,↓bY,↓bZ,↓b0,↓b1,↓b2,↓b3,↓bn,↓bo,↓bp,↓cS,↓cT,↓cU,↓cV,↓cW,↓cX,↓cY,↓cZ,↓c0,↓b4,↓b5,↓b6,↓bB,↓cK,↓bE,↓c1,↓bJ,↓cv,↓cJ,↓c2,↓aQ,↓aH,↓aR,↓aI,↓aD,↓aS,↓cH,↓bR,↓bS,↓b7,↓b8,↓b9,↓ca,↓cb,↓cc,↓cd,↓cf,↓dq,↓dr,↓c6,↓dA,↓ck,↓cl,↓cw,↓c8,bV,dJ,cj,decide_eq_false_iff_not,ite_not,↓reduceIte,a2,aO,a0,bq,bc,bM,cr,Nat.reduceAdd,bA,↓a9,Nat.reduceLeDiff,aC,cN,cQ,dx,du,bL,↓h,↓p,eq_false hJ,not_false_eq_true,eq_false q,Ad];simp [oF,this,Nat.not_lt.2 (Nat.le_of_lt this)]
def kf(x:Nat):Nat:=if x=0 then 0 else x.log2+1
theorem X6:∀x,x<256→kf x≤8∧x<2^kf x∧(x≠0→2^kf x≤2*x):=by decide +kernel
theorem GX{s:ag}{k:bb}(eB:List Nat)(ec:IntKind)(i n:Nat)(h:eB[i]? =some n):(a3 a4 G X).g5 s k (.str eB) (.int ec (i:Int))=k (.int .u8 (n:Int)) s:=by show hT (gg G (aX a4 G X) bz) s k (.str eB) (.int ec (i:Int))=_;unfold hT;simp -implicitDefEqProofs only[gL,h];rfl
theorem sL(s:ag)(x m:Nat)(aZ:x<256)(hm:m≤24):∃n:Nat,oD (a3 a4 G X) (.int .u32 (x:Int)) (.int .i64 (m:Int)) s.ak=.ok (.int .i64 ((m+n:Nat):Int)) s∧n≤8∧x<2^n∧(x≠0→2^n≤2*x):=by
 obtain⟨ay,ch⟩:=X6 x aZ;refine⟨kf x,?_,ay,ch⟩;have e:∀(S:ag) (k:bb),(a3 a4 G X).bT S k .u8 (.int .u32 (x:Int))=k (.int .u8 (x:Int)) S:=fun S k=>by
  show k (.int .u8 (IntKind.wrap .u8 (x:Int))) S=_
  have:IntKind.wrap .u8 (x:Int)=(x:Int):=by unfold IntKind.wrap;simp -implicitDefEqProofs only[show IntKind.bits .u8=8 from rfl,show IntKind.signed .u8=false from rfl,fK];show(x:Int)%256=x;omega
  rw[this]
 have h:∀(S:ag) (k:bb),(a3 a4 G X).bT S k .i64 (.int .u8 (kf x:Int))=k (.int .i64 (kf x:Int)) S:=fun S k=>by show k (.int .i64 (IntKind.wrap .i64 (kf x:Int))) S=_;rw[eS _ (by omega) (by omega)]
 have dR:=fun(S:ag) (k:bb)=>hP (T:=a4) (G:=G) (X:=X) (s:=S) (k:=k) m (kf x) (by omega)
 rw[AF,e];refine(GX G X _ _ x (kf x) ?_).trans ?_
 ·clear dR h e ch ay
  revert x
  decide +kernel
 ·rw[h,dR,aI]
theorem K4(s:ag)(x:Nat)(aZ:x<4294967296):∃n:Nat,aX a4 G X 111 [U x] s=.ok (.int .i64 (n:Int)) s∧n≤32∧x<2^n∧(x≠0→2^n≤2*x):=by
 rw[C7,KU];have h:=fun(S:ag) (k:bb)=>uz (T:=a4) (G:=G) (X:=X) (s:=S) (k:=k) .u64 x 16 (by omega)
 have e:∀y m:Nat,y<65536→m≤16→∃n:Nat,ng (a3 a4 G X) (.int .u32 (y:Int)) (.int .i64 (m:Int)) s.ak=.ok (.int .i64 ((m+n:Nat):Int)) s∧n≤16∧y<2^n∧(y≠0→2^n≤2*y):=fun y m fb hm=>by
  have p:=fun(S:ag) (k:bb)=>uz (T:=a4) (G:=G) (X:=X) (s:=S) (k:=k) .u64 y 8 (by omega)
  have q:=fun(S:ag) (k:bb)=>hP (T:=a4) (G:=G) (X:=X) (s:=S) (k:=k) m 8 (by omega)
  rw[AG];by_cases c:256≤y
  ·have nk:(256:Int)≤(y:Int):=by omega
   obtain⟨n,ar,ay,ch,dk⟩:=sL G X s (y/2^8) (m+8) (by omega) (by omega);refine⟨n+8,?_,by omega,?_,fun eU=>?_⟩
   ·have dI:(a3 a4 G X).ai s.ak (fun v10 s=>(a3 a4 G X).ai s (fun r s=>oD (a3 a4 G X) v10 r s) (ao .add (.int .i64 (m:Int)) (.int .i64 8))) (ao .shr (.int .u32 (y:Int)) (.int .u64 8))=.ok (.int .i64 ((m+(n+8):Nat):Int)) s:=by
     refine(p _ _).trans ?_;refine(q _ _).trans ?_;rw[ar];congr 3;omega
    simp -implicitDefEqProofs only[↓cx,↓cy,↓bH,↓bd,↓ax,↓az,↓av,↓aA,↓aF,↓aG,↓aw,↓aB,↓aU,↓aM,↓aP,↓bf,↓dG,↓aL,↓bl,↓bP,↓cR,↓bW,↓bX,↓bQ,↓bY,↓bZ,↓b0,↓b1,↓b2,↓b3,↓bn,↓bo,↓bp,↓cS,↓cT,↓cU,↓cV,↓cW,↓cX,↓cY,↓cZ,↓c0,↓b4,↓b5,↓b6,↓bB,↓cK,↓bE,↓c1,↓bJ,↓cv,↓cJ,↓c2,↓aQ,↓aH,↓aR,↓aI,↓aD,↓aS,↓cH,↓bR,↓bS,↓b7,↓b8,↓b9,↓ca,↓cb,↓cc,↓cd,↓cf,↓dq,↓dr,↓c6,↓dA,↓ck,↓cl,↓cw,↓c8,bV,dJ,cj,decide_eq_false_iff_not,ite_not,↓reduceIte,a2,aO,a0,bq,bc,bM,cr,Nat.reduceAdd,bA,↓a9,Nat.reduceLeDiff,aC,cN,cQ,dx,du,bL,eq_true nk,dI]
   ·rw[Nat.pow_add];omega
   ·rw[Nat.pow_add];omega
  ·have nk:¬(256:Int)≤(y:Int):=by omega
   obtain⟨n,ar,ay,ch,dk⟩:=sL G X s y m (by omega) (by omega);refine⟨n,?_,by omega,ch,dk⟩;simp -implicitDefEqProofs only[↓cx,↓cy,↓bH,↓bd,↓ax,↓az,↓av,↓aA,↓aF,↓aG,↓aw,↓aB,↓aU,↓aM,↓aP,↓bf,↓dG,↓aL,↓bl,↓bP,↓cR,↓bW,↓bX,↓bQ,↓bY,↓bZ,↓b0,↓b1,↓b2,↓b3,↓bn,↓bo,↓bp,↓cS,↓cT,↓cU,↓cV,↓cW,↓cX,↓cY,↓cZ,↓c0,↓b4,↓b5,↓b6,↓bB,↓cK,↓bE,↓c1,↓bJ,↓cv,↓cJ,↓c2,↓aQ,↓aH,↓aR,↓aI,↓aD,↓aS,↓cH,↓bR,↓bS,↓b7,↓b8,↓b9,↓ca,↓cb,↓cc,↓cd,↓cf,↓dq,↓dr,↓c6,↓dA,↓ck,↓cl,↓cw,↓c8,bV,dJ,cj,decide_eq_false_iff_not,ite_not,↓reduceIte,a2,aO,a0,bq,bc,bM,cr,Nat.reduceAdd,bA,↓a9,Nat.reduceLeDiff,aC,cN,cQ,dx,du,bL,eq_false nk,ar]
 by_cases c:65536≤x
 ·have nk:(65536:Int)≤(x:Int):=by omega
  obtain⟨n,ar,ay,ch,dk⟩:=e (x/2^16) 16 (by omega) (by omega);refine⟨16+n,?_,by omega,?_,fun eU=>?_⟩
  ·have dI:(a3 a4 G X).ai s.ak (fun v6 s=>ng (a3 a4 G X) v6 (.int .i64 16) s) (ao .shr (.int .u32 (x:Int)) (.int .u64 16))=.ok (.int .i64 ((16+n:Nat):Int)) s:=by
    refine(h _ _).trans ?_;exact ar
   simp -implicitDefEqProofs only[↓cx,↓cy,↓bH,↓bd,↓ax,↓az,↓av,↓aA,↓aF,↓aG,↓aw,↓aB,↓aU,↓aM,↓aP,↓bf,↓dG,↓aL,↓bl,↓bP,↓cR,↓bW,↓bX,↓bQ,↓bY,↓bZ,↓b0,↓b1,↓b2,↓b3,↓bn,↓bo,↓bp,↓cS,↓cT,↓cU,↓cV,↓cW,↓cX,↓cY,↓cZ,↓c0,↓b4,↓b5,↓b6,↓bB,↓cK,↓bE,↓c1,↓bJ,↓cv,↓cJ,↓c2,↓aQ,↓aH,↓aR,↓aI,↓aD,↓aS,↓cH,↓bR,↓bS,↓b7,↓b8,↓b9,↓ca,↓cb,↓cc,↓cd,↓cf,↓dq,↓dr,↓c6,↓dA,↓ck,↓cl,↓cw,↓c8,bV,dJ,cj,decide_eq_false_iff_not,ite_not,↓reduceIte,a2,aO,a0,bq,bc,bM,cr,Nat.reduceAdd,bA,↓a9,Nat.reduceLeDiff,aC,cN,cQ,dx,du,bL,eq_true nk,dI]
   try rfl
  ·rw[Nat.pow_add];omega
  ·rw[Nat.pow_add];omega
 ·have nk:¬(65536:Int)≤(x:Int):=by omega
  obtain⟨n,ar,ay,ch,dk⟩:=e x 0 (by omega) (by omega);refine⟨n,?_,by omega,ch,dk⟩;rw[bc] at ar;have A:ng (a3 a4 G X) (.int .u32 (x:Int)) (.int .i64 0) s.ak=.ok (.int .i64 (n:Int)) s:=ar;simp -implicitDefEqProofs only[↓cx,↓cy,↓bH,↓bd,↓ax,↓az,↓av,↓aA,↓aF,↓aG,↓aw,↓aB,↓aU,↓aM,↓aP,↓bf,↓dG,↓aL,↓bl,↓bP,↓cR,↓bW,↓bX,↓bQ,↓bY,↓bZ,↓b0,↓b1,↓b2,↓b3,↓bn,↓bo,↓bp,↓cS,↓cT,↓cU,↓cV,↓cW,↓cX,↓cY,↓cZ,↓c0,↓b4,↓b5,↓b6,↓bB,↓cK,↓bE,↓c1,↓bJ,↓cv,↓cJ,↓c2,↓aQ,↓aH,↓aR,↓aI,↓aD,↓aS,↓cH,↓bR,↓bS,↓b7,↓b8,↓b9,↓ca,↓cb,↓cc,↓cd,↓cf,↓dq,↓dr,↓c6,↓dA,↓ck,↓cl,↓cw,↓c8,bV,dJ,cj,decide_eq_false_iff_not,ite_not,↓reduceIte,a2,aO,a0,bq,bc,bM,cr,Nat.reduceAdd,bA,↓a9,Nat.reduceLeDiff,aC,cN,cQ,dx,du,bL,eq_false nk,A]
theorem K5(s:ag)(x:Nat)(aZ:x<4294967296)(eU:x≠0):∃c:Nat,aX a4 G X 136 [U x] s=.ok (.int .i64 (c:Int)) s∧c<32∧2147483648≤x*2^c∧x*2^c<4294967296:=by
 obtain⟨n,ar,ay,ch,dk⟩:=K4 G X s.ak x aZ;have h:=dk eU;have df:n≠0:=fun e=>by subst e;omega
 have p:2^n*2^(32-n)=4294967296:=by rw[←Nat.pow_add,show n+(32-n)=32 by omega]
 refine⟨32-n,?_,by omega,?_,?_⟩
 ·have dR:=fun(S:ag) (k:bb)=>mz (T:=a4) (G:=G) (X:=X) (s:=S) (k:=k) 32 n ay (by omega)
  rw[C2,KP,aO,bx ar];refine(dR _ _).trans ?_;rw[aI]
 ·have:=fi (2^(32-n)) h;rw[gr] at this;omega
 ·have:=Nat.mul_lt_mul_of_pos_right ch (Nat.two_pow_pos (32-n));omega
theorem AX(s:ag)(kZ:ae)(a:List Nat)(d:Nat)(r:lA s kZ a)(mj:dC a)(cF:d≠0)(J:d<4294967296)(gC:a.length<9223372036854775807)(j:Nat):∀n k rest out S,k+n=a.length→Child s S→gz S j out→out.length=a.length→dC out→rest<d→val (a.drop n)=val (out.drop n)*d+rest→
  ∃v q,qQ (a3 a4 G X) kZ (.int .u32 (d:Int)) (.cD (.l j) 0 a.length a.length 1) (.int .u64 (rest:Int)) (.int .i64 (a.length:Int)) (.int .i64 (k:Int)) S=.ok (.d7 [v,.int .u32 ((val a%d:Nat):Int)]) s∧je v q∧dC q∧eM q∧val q=val a/d:=by
 intro n
 induction n with
 |zero=>
  intro k rest out S c3 e da bO p aJ bD;have h:¬((k:Int)<(a.length:Int)):=by omega
  have M:rest%4294967296=rest:=by omega
  rw[sx];simp -implicitDefEqProofs only[↓cx,↓cy,↓bH,↓bd,↓ax,↓az,↓av,↓aA,↓aF,↓aG,↓aw,↓aB,↓aU,↓aM,↓aP,↓bf,↓dG,↓aL,↓bl,↓bP,↓cR,↓bW,↓bX,↓bQ,↓bY,↓bZ,↓b0,↓b1,↓b2,↓b3,↓bn,↓bo,↓bp,↓cS,↓cT,↓cU,↓cV,↓cW,↓cX,↓cY,↓cZ,↓c0,↓b4,↓b5,↓b6,↓bB,↓cK,↓bE,↓c1,↓bJ,↓cv,↓cJ,↓c2,↓aQ,↓aH,↓aR,↓aI,↓aD,↓aS,↓cH,↓bR,↓bS,↓b7,↓b8,↓b9,↓ca,↓cb,↓cc,↓cd,↓cf,↓dq,↓dr,↓c6,↓dA,↓ck,↓cl,↓cw,↓c8,bV,dJ,cj,decide_eq_false_iff_not,ite_not,↓reduceIte,a2,aO,a0,bq,bc,bM,cr,Nat.reduceAdd,bA,↓a9,Nat.reduceLeDiff,aC,cN,cQ,dx,du,bL,eq_false h,Al,ia,M];obtain⟨v,f1,f2⟩:=vb G X e da a.length bO.symm (by omega) (.int .u32 (rest:Int)) rfl;simp -implicitDefEqProofs only[bV] at bD;refine⟨v,fS out,?_,f1,k5 p,iR out,?_⟩
  ·rw[f2,bD,ed,Nat.mul_add_mod,g7 aJ]
  ·rw[jO,bD,ed,Nat.mul_add_div (by omega),Nat.div_eq_of_lt aJ,Nat.add_zero]
 |succ n N=>
  intro k rest out S c3 e da bO p aJ bD;have h:(k:Int)<(a.length:Int):=by omega
  obtain⟨y,A,B,F⟩:=AU a out n d rest cF (by omega) bO mj p aJ bD;have aZ:=mj.getD n;rw[kj] at y A B F aZ;have sK:=fun(k:bb)=>(r.nZ e.nZ).get (T:=a4) (G:=G) (X:=X) .i64 n (by omega) k
  have gq:=fun x (k:bb)=>da.gq (T:=a4) (G:=G) (X:=X) n a.length a.length x (by omega) (by omega) k
  have O:=fun(S:ag) (k:bb)=>r.len (T:=a4) (G:=G) (X:=X) k S
  have dR:=fun(S:ag) (k:bb)=>jt (T:=a4) (G:=G) (X:=X) (s:=S) (k:=k) a.length (by omega) (by omega)
  have H:=fun(S:ag) (lk:bb)=>mz (T:=a4) (G:=G) (X:=X) (s:=S) (k:=lk) (a.length-1) k (by omega) (by omega)
  have U:=fun(S:ag) (lk:bb)=>k4 (T:=a4) (G:=G) (X:=X) (s:=S) (k:=lk) k (by omega)
  have V:a.length-1-k=n:=by omega
  simp -implicitDefEqProofs only[V] at H;have Y:rest*4294967296%18446744073709551616=rest*4294967296:=by omega
  have dY:=fun(S:ag) (k:bb)=>hE (T:=a4) (G:=G) (X:=X) (s:=S) (k:=k) (a.getD n 0) aZ
  have I:=fun(S:ag) (k:bb)=>hE (T:=a4) (G:=G) (X:=X) (s:=S) (k:=k) d J
  have gR:=fun(S:ag) (k:bb)=>uA (T:=a4) (G:=G) (X:=X) (s:=S) (k:=k) rest (a.getD n 0) aZ (by omega)
  have d1:=fun(S:ag) (k:bb)=>DM (T:=a4) (G:=G) (X:=X) (s:=S) (k:=k) (rest*4294967296+a.getD n 0) d cF (by omega)
  have d2:=fun(S:ag) (k:bb)=>xI (T:=a4) (G:=G) (X:=X) (s:=S) (k:=k) (rest*4294967296+a.getD n 0) d cF
  have em:(rest*4294967296+a.getD n 0)/d%4294967296=(rest*4294967296+a.getD n 0)/d:=g7 y;rw[sx];simp -implicitDefEqProofs only[↓cx,↓cy,↓bH,↓bd,↓ax,↓az,↓av,↓aA,↓aF,↓aG,↓aw,↓aB,↓aU,↓aM,↓aP,↓bf,↓dG,↓aL,↓bl,↓bP,↓cR,↓bW,↓bX,↓bQ,↓bY,↓bZ,↓b0,↓b1,↓b2,↓b3,↓bn,↓bo,↓bp,↓cS,↓cT,↓cU,↓cV,↓cW,↓cX,↓cY,↓cZ,↓c0,↓b4,↓b5,↓b6,↓bB,↓cK,↓bE,↓c1,↓bJ,↓cv,↓cJ,↓c2,↓aQ,↓aH,↓aR,↓aI,↓aD,↓aS,↓cH,↓bR,↓bS,↓b7,↓b8,↓b9,↓ca,↓cb,↓cc,↓cd,↓cf,↓dq,↓dr,↓c6,↓dA,↓ck,↓cl,↓cw,↓c8,bV,dJ,cj,decide_eq_false_iff_not,ite_not,↓reduceIte,a2,aO,a0,bq,bc,bM,cr,Nat.reduceAdd,bA,↓a9,Nat.reduceLeDiff,aC,cN,cQ,dx,du,bL,eq_true h];rw[Ak,O,dR,H,ck,Y,sK,dY,gR,I,d1,c8,em];simp -implicitDefEqProofs only[aO];rw[gq,I,d2,Aj,U];exact N (k+1) _ _ _ (by omega) (e.put _ _) (da.put _) (by simp [bO]) A B F
theorem K6(s:ag)(kZ:ae)(a:List Nat)(d:Nat)(e:lA s kZ a)(mj:dC a)(cF:d≠0)(r:d<4294967296)(gC:a.length<4294967296):
  ∃v q,aX a4 G X 134 [kZ,U d] s=.ok (.d7 [v,.int .u32 ((val a%d:Nat):Int)]) s∧je v q∧dC q∧eM q∧val q=val a/d:=by
 rw[C0,KN];have p:=fun(S:ag) (k:bb)=>e.len (T:=a4) (G:=G) (X:=X) k S
 have y:=fun(S:ag) (k:bb)=>oP (T:=a4) (G:=G) (X:=X) (s:=S) (k:=k) (U 0) 4 a.length a.length (aC _) (by omega)
 rw[p];refine Exists.imp (fun v h=>Exists.imp (fun q h=>?_) h) (AX G X s kZ a d e mj cF r (by omega) _ a.length 0 0 _ _ (by omega) ((Child.ak s).new (.cells (List.replicate a.length (U 0)))) (gz.make _ _) (by simp) (oE _) (by omega) (by rw[List.drop_length,n0 (by simp)];simp [val]));refine⟨?_,h.2⟩;refine(y _ _).trans ?_;rw[p];exact h.1
theorem K7(a b:Nat)(e:a<4294967296)(h:b<4294967296):((BitVec.ofInt 32 (a:Int) ||| BitVec.ofInt 32 (b:Int)).toNat:Int)=((a ||| b:Nat):Int):=by
 rw[BitVec.toNat_or];simp -implicitDefEqProofs only[BitVec.toNat_ofInt];congr 1;have ar:(((a:Int)%((2^32:Nat):Int))).toNat=a:=by omega
 have ay:(((b:Int)%((2^32:Nat):Int))).toNat=b:=by omega
 rw[ar,ay]
theorem Rx{s:ag}{k:bb}(c y q p:Nat)(aW:c<2^p)(fb:y=q*2^p)(f8:q*2^p+c<4294967296):(a3 a4 G X).ai s k (ao .or (.int .u32 (c:Int)) (.int .u32 (y:Int)))=k (.int .u32 ((c+y:Nat):Int)) s:=by
 subst fb;have e:ao .or (.int .u32 (c:Int)) (.int .u32 ((q*2^p:Nat):Int))=some (.int .u32 (IntKind.wrap .u32 ((BitVec.ofInt 32 (c:Int) ||| BitVec.ofInt 32 ((q*2^p:Nat):Int)).toNat:Int))):=by simp -implicitDefEqProofs only[ao,f3,↓reduceIte];rfl
 rw[e,K7 _ _ (by omega) (by omega),cy,wrap_u32];congr 2
 have:c ||| q*2^p=c+q*2^p:=by rw[Nat.or_comm,ed,←Nat.two_pow_add_eq_or_of_lt aW,Nat.add_comm]
 rw[this];omega
theorem AY(s:ag)(kZ:ae)(l:List Nat)(n:Nat)(M:lA s kZ l)(r:dC l)(df:n<4294967296)(gC:l.length<4294967296)(j N:Nat)(pf:N=l.length+n/32+1):∀m i out S,i+m=l.length→Child s S→gz S j out→out.length=N→dC out→val (out.take (i+n/32+1))=val (l.take i)*2^(32*(n/32)+n%32)→out.getD (i+n/32) 0<2^(n%32)→
  ∃v q,qU (a3 a4 G X) kZ (.int .i64 (n:Int)) (.cD (.l j) 0 N N 1) (.int .i64 (l.length:Int)) (.int .i64 (i:Int)) S=.ok v s∧je v q∧dC q∧eM q∧val q=val l*2^n:=by
 intro m
 induction m with
 |zero=>
  intro i out S bN p da bO A bD aW;have h:¬((i:Int)<(l.length:Int)):=by omega
  rw[sA];simp -implicitDefEqProofs only[↓cx,↓cy,↓bH,↓bd,↓ax,↓az,↓av,↓aA,↓aF,↓aG,↓aw,↓aB,↓aU,↓aM,↓aP,↓bf,↓dG,↓aL,↓bl,↓bP,↓cR,↓bW,↓bX,↓bQ,↓bY,↓bZ,↓b0,↓b1,↓b2,↓b3,↓bn,↓bo,↓bp,↓cS,↓cT,↓cU,↓cV,↓cW,↓cX,↓cY,↓cZ,↓c0,↓b4,↓b5,↓b6,↓bB,↓cK,↓bE,↓c1,↓bJ,↓cv,↓cJ,↓c2,↓aQ,↓aH,↓aR,↓aI,↓aD,↓aS,↓cH,↓bR,↓bS,↓b7,↓b8,↓b9,↓ca,↓cb,↓cc,↓cd,↓cf,↓dq,↓dr,↓c6,↓dA,↓ck,↓cl,↓cw,↓c8,bV,dJ,cj,decide_eq_false_iff_not,ite_not,↓reduceIte,a2,aO,a0,bq,bc,bM,cr,Nat.reduceAdd,bA,↓a9,Nat.reduceLeDiff,aC,cN,cQ,dx,du,bL,eq_false h,Aq,ia];obtain⟨v,f1,f2⟩:=GW G X p da N bO.symm (by omega);refine⟨v,fS out,f2,f1,k5 A,iR out,?_⟩;have dI:i=l.length:=by omega
  rw[dI] at bD;rw[jO,←List.take_length (l:=out),bO,pf,bD,List.take_length,Nat.div_add_mod]
 |succ m O=>
  intro i out S bN p da bO A bD aW;have h:(i:Int)<(l.length:Int):=by omega
  have aJ:n%32<32:=Nat.mod_lt _ (by omega);obtain⟨q,F,U⟩:=wU (l.getD i 0) (n%32) aJ;have H:=wV (l.getD i 0) (n%32) (r.getD i) aJ;have e:=Dg l out i (n/32) (n%32) aJ (by omega) (by omega) A r bD aW _ rfl _ rfl;simp -implicitDefEqProofs only[] at e;have aZ:=r.getD i;have V:B=4294967296:=rfl;have ah:2^(n%32)≤2^32:=Nat.pow_le_pow_right (by omega) (by omega);rw[V] at F U H e aZ;generalize Y:l.getD i 0=x at *;have sK:=fun(k:bb)=>(M.nZ p.nZ).get (T:=a4) (G:=G) (X:=X) .i64 i (by omega) k
  rw[Y] at sK;have dY:=fun(S:ag) (k:bb)=>hE (T:=a4) (G:=G) (X:=X) (s:=S) (k:=k) x aZ
  have p3:=fun(S:ag) (k:bb)=>rT (T:=a4) (G:=G) (X:=X) (s:=S) (k:=k) n
  have I:=fun(S:ag) (k:bb)=>rS (T:=a4) (G:=G) (X:=X) (s:=S) (k:=k) n (by omega)
  have s1:=fun(S:ag) (k:bb)=>xJ (T:=a4) (G:=G) (X:=X) (s:=S) (k:=k) .i64 x (n%32) (by omega)
  have es:x*2^(n%32)%18446744073709551616=x*2^(n%32):=g7 H.2;have dR:=fun(S:ag) (k:bb)=>hP (T:=a4) (G:=G) (X:=X) (s:=S) (k:=k) i (n/32) (by omega)
  have Z:=fun S k=>q8 G X S k (i+n/32) (by omega)
  have aa:=fun S k=>q8 G X S k i (by omega)
  have gZ:=fun(k:bb)=>da.get (T:=a4) (G:=G) (X:=X) (i+n/32) N N (by omega) (by omega) k
  have gR:=fun(S:ag) (k:bb)=>Rx G X (s:=S) (k:=k) (out.getD (i+n/32) 0) (x*2^(n%32)%4294967296) q (n%32) aW F (by omega)
  have ab:=fun y (k:bb)=>da.gq (T:=a4) (G:=G) (X:=X) (i+n/32) N N y (by omega) (by omega) k
  have J:=da.put (out.set (i+n/32) (out.getD (i+n/32) 0+x*2^(n%32)%4294967296));have ac:=fun y (k:bb)=>J.gq (T:=a4) (G:=G) (X:=X) (i+n/32+1) N N y (by simp;omega) (by omega) k
  have ad:x*2^(n%32)/4294967296%4294967296=x*2^(n%32)/4294967296:=g7 (by omega);have af:=J.put ((out.set (i+n/32) (out.getD (i+n/32) 0+x*2^(n%32)%4294967296)).set (i+n/32+1) (x*2^(n%32)/4294967296))
  have:=O (i+1) _ _ (by omega) ((p.put _ _).put _ _) af (by simp [bO]) e.1 e.2.2.1 e.2.2.2;refine Exists.imp (fun v ay=>Exists.imp (fun q ch=>⟨?_,ch.2⟩) ay) this;rw[sA];simp -implicitDefEqProofs only[↓cx,↓cy,↓bH,↓bd,↓ax,↓az,↓av,↓aA,↓aF,↓aG,↓aw,↓aB,↓aU,↓aM,↓aP,↓bf,↓dG,↓aL,↓bl,↓bP,↓cR,↓bW,↓bX,↓bQ,↓bY,↓bZ,↓b0,↓b1,↓b2,↓b3,↓bn,↓bo,↓bp,↓cS,↓cT,↓cU,↓cV,↓cW,↓cX,↓cY,↓cZ,↓c0,↓b4,↓b5,↓b6,↓bB,↓cK,↓bE,↓c1,↓bJ,↓cv,↓cJ,↓c2,↓aQ,↓aH,↓aR,↓aI,↓aD,↓aS,↓cH,↓bR,↓bS,↓b7,↓b8,↓b9,↓ca,↓cb,↓cc,↓cd,↓cf,↓dq,↓dr,↓c6,↓dA,↓ck,↓cl,↓cw,↓c8,bV,dJ,cj,decide_eq_false_iff_not,ite_not,↓reduceIte,a2,aO,a0,bq,bc,bM,cr,Nat.reduceAdd,bA,↓a9,Nat.reduceLeDiff,aC,cN,cQ,dx,du,bL,eq_true h];rw[Ap,sK,dY,p3,s1,es,I,dR,gZ,c8,gR];simp -implicitDefEqProofs only[aO];rw[ab,I,dR,Z,cl,c8,ad];simp -implicitDefEqProofs only[aO];rw[ac,Ao,aa];exact ch.1
theorem AZ(s:ag)(kZ:ae)(l:List Nat)(n:Nat)(e:lA s kZ l)(p:dC l)(df:n<4294967296)(gC:l.length<4294967296):
  ∃v q,aX a4 G X 137 [kZ,.int .i64 (n:Int)] s=.ok v s∧je v q∧dC q∧eM q∧val q=val l*2^n:=by
 rw[C3,KQ];have h:=fun(S:ag) (k:bb)=>e.len (T:=a4) (G:=G) (X:=X) k S
 have r:=fun(S:ag) (k:bb)=>rS (T:=a4) (G:=G) (X:=X) (s:=S) (k:=k) n (by omega)
 have dR:=fun(S:ag) (k:bb)=>hP (T:=a4) (G:=G) (X:=X) (s:=S) (k:=k) l.length (n/32) (by omega)
 have y:=fun S k=>q8 G X S k (l.length+n/32) (by omega)
 have A:=fun(S:ag) (k:bb)=>oP (T:=a4) (G:=G) (X:=X) (s:=S) (k:=k) (U 0) 4 (l.length+n/32+1) (l.length+n/32+1) (aC _) (by omega)
 have B:∀m i,(List.replicate m 0).getD i 0=0:=fun m i=>by simp -implicitDefEqProofs only[List.getD,List.getElem?_replicate];split<;> rfl
 have F:=AY G X s kZ l n e p df gC s.ak.own.length _ rfl l.length 0 _ _ (by omega) ((Child.ak s).new (.cells (List.replicate (l.length+n/32+1) (U 0)))) (gz.make _ _) (by simp) (oE _) (by rw[List.take_replicate,AT];simp [val]) (by rw[B];exact Nat.two_pow_pos _);refine Exists.imp (fun v ay=>Exists.imp (fun q ch=>⟨?_,ch.2⟩) ay) F;rw[h,r,dR,y];refine(A _ _).trans ?_;rw[h];exact ch.1
end Go.f0
end
section
namespace Go.hb
def kC(a b:Nat):Nat:=(((a:Int)-(b:Int))%18446744073709551616).toNat
theorem wW(u p c:Nat)(hu:u<4294967296)(gb:p<4294967296)(aW:c≤4294967296)(e:p+c≤4294967296):kC (kC u p) c%4294967296+p+c=u+4294967296*(kC (kC u p) c/9223372036854775808)∧kC (kC u p) c/9223372036854775808≤1:=by unfold kC;omega
theorem vc(l:List Nat)(j i:Nat):(l.drop j).getD i 0=l.getD (j+i) 0:=by simp [List.getD,List.getElem?_drop]
def eG(l:List Nat)(j i:Nat):Nat:=val ((l.drop j).take i)
theorem wX(l:List Nat)(j:Nat):eG l j 0=0:=by simp [eG,val]
theorem fJ(l:List Nat)(j i:Nat)(h:j+i<l.length):eG l j (i+1)=eG l j i+B^i*l.getD (j+i) 0:=by unfold eG;rw[val_succ _ i (by simp;omega),vc]
theorem q9(l:List Nat)(j i k x:Nat)(h:j+i≤k):eG (l.set k x) j i=eG l j i:=by
 unfold eG;rw[List.drop_set];split
 ·rfl
 ·rw[lD (by omega)]
theorem ye(vs:List Nat)(i:Nat):eG vs 0 i=val (vs.take i):=by simp [eG]
theorem ra(l:List Nat)(j n:Nat)(h:j+n≤l.length):val (l.drop j)=eG l j n+B^n*val (l.drop (j+n)):=by have:=kB (l.drop j) n (by simp;omega);rw[this,List.drop_drop];rfl
theorem rb(l:List Nat)(j i:Nat)(h:dC l):eG l j i<B^i:=by
 have:=hG ((l.drop j).take i) ((h.drop j).take i);have ay:((l.drop j).take i).length≤i:=by simp;omega
 exact fL this (nN ay)
theorem Dh(db gn vs:List Nat)(j i q carry e:Nat)(f8:q<B)(bN:i<vs.length)(da:j+i<db.length)(k9:dC vs)(A:dC db)(aW:carry<B)(J:e≤1)(H:db.getD (j+i) 0=gn.getD (j+i) 0)(bO:db.length=gn.length)
  (bD:eG db j i+q*eG vs 0 i=eG gn j i+(carry+e)*B^i):
  let p:=q*vs.getD i 0+carry
  let t:=kC (kC (db.getD (j+i) 0) (p%B)) e
  p<18446744073709551616∧p/B<B∧t/9223372036854775808≤1∧t%B<B∧dC (db.set (j+i) (t%B))∧eG (db.set (j+i) (t%B)) j (i+1)+q*eG vs 0 (i+1)=eG gn j (i+1)+(p/B+t/9223372036854775808)*B^(i+1):=by
 have M:=k9.getD i;have gb:q*vs.getD i 0+carry<B*B:=by
  have ar:q*vs.getD i 0≤(B-1)*(B-1):=Nat.mul_le_mul (by omega) (by omega);have ay:(B-1)*(B-1)+B≤B*B:=by decide
  omega
 have N:B*B=18446744073709551616:=by decide
 have cF:=wW (db.getD (j+i) 0) ((q*vs.getD i 0+carry)%B) e (A.getD _) (Nat.mod_lt _ gO) (by have:=kj;omega) (by have:=Nat.mod_lt (q*vs.getD i 0+carry) gO;rw[kj] at this ⊢;omega);have F:kC (kC (db.getD (j+i) 0) ((q*vs.getD i 0+carry)%B)) e%B<B:=Nat.mod_lt _ gO;refine⟨by omega,by rw[Nat.div_lt_iff_lt_mul gO];exact gb,cF.2,F,A.set _ _ F,?_⟩;rw[fJ _ _ _ (by simpa using da),q9 _ _ _ _ _ (aC _),fx da,fJ vs 0 i (by omega),fJ gn j i (by omega),bc,←H];have hm:=Nat.mod_add_div (q*vs.getD i 0+carry) B;rw[←kj] at cF;generalize kC (kC (db.getD (j+i) 0) ((q*vs.getD i 0+carry)%B)) e=t at *;generalize t/9223372036854775808=h at *;generalize t%B=y at *;generalize O:(q*vs.getD i 0+carry)%B=pl at *;generalize (q*vs.getD i 0+carry)/B=r at *;generalize db.getD (j+i) 0=u at *;have key:y+q*vs.getD i 0+carry+e=u+(r+h)*B:=by rw[eL,ed r B,ed h B];omega
 have rr:B^i*(y+q*vs.getD i 0+carry+e)=B^i*(u+(r+h)*B):=by rw[key]
 have dI:B^i*(y+q*vs.getD i 0+carry+e)=B^i*y+q*(B^i*vs.getD i 0)+(carry+e)*B^i:=by rw[show y+q*vs.getD i 0+carry+e=y+(q*vs.getD i 0+(carry+e)) from by omega,fh,fh,Nat.mul_left_comm,ed (B^i) (carry+e)];omega
 have I:B^i*(u+(r+h)*B)=B^i*u+(r+h)*B^(i+1):=by rw[fh,Nat.pow_succ,Nat.mul_left_comm]
 rw[dI,I] at rr;rw[fh];generalize (r+h)*B^(i+1)=U at *;generalize (carry+e)*B^i=V at *;generalize q*(B^i*vs.getD i 0)=Y at *;generalize q*eG vs 0 i=Z at *;omega
theorem Di(db gn vs:List Nat)(j i carry:Nat)(bN:i<vs.length)(da:j+i<db.length)(k9:dC vs)(h:dC db)(aW:carry≤1)(p:db.getD (j+i) 0=gn.getD (j+i) 0)(bO:db.length=gn.length)
  (bD:eG db j i+carry*B^i=eG gn j i+eG vs 0 i):
  let t:=db.getD (j+i) 0+vs.getD i 0+carry
  t<18446744073709551616∧t/B≤1∧dC (db.set (j+i) (t%B))∧eG (db.set (j+i) (t%B)) j (i+1)+t/B*B^(i+1)=eG gn j (i+1)+eG vs 0 (i+1):=by
 have A:=k9.getD i;have F:=h.getD (j+i);have H:=kj;have q:(db.getD (j+i) 0+vs.getD i 0+carry)%B<B:=Nat.mod_lt _ gO;refine⟨by omega,?_,h.set _ _ q,?_⟩
 ·have:(db.getD (j+i) 0+vs.getD i 0+carry)/B<2:=by rw[Nat.div_lt_iff_lt_mul gO];omega
  omega
 rw[fJ _ _ _ (by simpa using da),q9 _ _ _ _ _ (aC _),fx da,fJ vs 0 i (by omega),fJ gn j i (by omega),bc,←p];have hm:=Nat.mod_add_div (db.getD (j+i) 0+vs.getD i 0+carry) B;generalize (db.getD (j+i) 0+vs.getD i 0+carry)%B=y at *;generalize (db.getD (j+i) 0+vs.getD i 0+carry)/B=e at *;generalize db.getD (j+i) 0=u at *;generalize vs.getD i 0=v at *;have rr:B^i*(y+B*e)=B^i*(u+v+carry):=by rw[hm]
 have dI:B^i*(y+B*e)=B^i*y+e*B^(i+1):=by rw[fh,Nat.pow_succ,ed e,gr]
 have r:B^i*(u+v+carry)=B^i*u+B^i*v+carry*B^i:=by rw[fh,fh,ed carry]
 rw[dI,r] at rr;generalize e*B^(i+1)=I at *;generalize carry*B^i=J at *;omega
theorem Ba(U V q n I h p r y v1 v2:Nat)(Z:U=(p*B*B+r*B+y)*B^n+I)(A:V=(v1*B+v2)*B^n+h)(aa:I<B^n)(J:h<B^n)(ab:B≤2*v1)(f8:q<B)(ar:q*(v1*B+v2)≤p*B*B+r*B+y)(ay:∀pv,pv<B→pv*(v1*B+v2)≤p*B*B+r*B+y→pv≤q)(M:U<B*V):
  U/V≤q∧q≤U/V+1:=by
 have F:0<V:=by
  have:1≤v1:=by have:=gO;omega
  have ch:1*B≤v1*B:=fi _ this;have dk:1*B^n≤(v1*B+v2)*B^n:=fi _ (by have:=gO;omega)
  have:=Nat.pow_pos (n:=n) gO;omega
 constructor
 ·refine ay _ (by rw[Nat.div_lt_iff_lt_mul F];exact M) ?_;have ch:U/V*V≤U:=Nat.div_mul_le_self U V;have dk:U/V*(v1*B+v2)*B^n≤U/V*V:=by
   rw[gr];exact Nat.mul_le_mul_left _ (by omega)
  have H:U/V*(v1*B+v2)*B^n<(p*B*B+r*B+y+1)*B^n:=by rw[eL _ 1,Nat.one_mul];omega
  have:=Nat.lt_of_mul_lt_mul_right H;omega
 ·have ch:q*V≤U+V:=by
   rw[A,fh,←gr];have dk:q*(v1*B+v2)*B^n≤(p*B*B+r*B+y)*B^n:=fi _ ar;have H:q*h≤B*B^n:=Nat.mul_le_mul (Nat.le_of_lt f8) (Nat.le_of_lt J);have N:B*B^n≤(v1*B+v2)*B^n:=by
    refine fi _ ?_
    have:1*B≤v1*B:=fi _ (by have:=gO;omega);omega
   omega
  have ac:q*V≤(U/V+1)*V+V:=by have:=Nat.div_add_mod U V;have O:=Nat.mod_lt U F;rw[eL,Nat.one_mul,ed (U/V)];omega
  have Y:q*V<(U/V+2)*V:=by
   rw[A,fh,←gr];have dk:q*(v1*B+v2)*B^n≤(p*B*B+r*B+y)*B^n:=fi _ ar;have H:q*h≤B*h:=fi _ (Nat.le_of_lt f8);have ad:B*h<B*B^n:=Nat.mul_lt_mul_of_pos_left J gO;have N:B*B^n≤(v1*B+v2)*B^n:=by
    refine fi _ ?_
    have:1*B≤v1*B:=fi _ (by have:=gO;omega);omega
   have ae:q*(v1*B+v2)*B^n+q*h<U+V:=by omega
   have af:=Nat.div_add_mod U V;have O:=Nat.mod_lt U F;rw[←A];have e:(U/V+2)*V=V*(U/V)+V+V:=by rw[eL,ed (U/V)];omega
   rw[e];omega
  have:=Nat.lt_of_mul_lt_mul_right Y;omega
end Go.hb
namespace Go.hb
theorem GY(n w x R:Nat)(h:w+B^n*x=B^(n+1)+R)(hw:w<B^n)(e:R<B^n):x=B∧w=R:=by
 rw[Nat.pow_succ] at h;have aZ:x=B:=by
  have ar:(w+B^n*x)/B^n=x:=by rw[Nat.add_mul_div_left _ _ (Nat.pow_pos gO),Nat.div_eq_of_lt hw,bc]
  have ay:(B^n*B+R)/B^n=B:=by rw[Nat.add_comm,Nat.add_mul_div_left _ _ (Nat.pow_pos gO),Nat.div_eq_of_lt e,bc]
  rw[←ar,h,ay]
 subst aZ;exact⟨rfl,by omega⟩
theorem rc(vs:List Nat):val vs=eG vs 0 vs.length:=by rw[ye,List.take_length]
theorem Bb(x y r:Nat)(aJ:r<32)(aZ:x<B):x%2^r+(x+B*y)/2^r%B*2^r=x+B*(y%2^r):=by
 have h:=Nat.two_pow_pos r;have e:B=2^r*2^(32-r):=by rw[←Nat.pow_add,sJ];congr 1;omega
 generalize F:(2:Nat)^(32-r)=Q at *;generalize (2:Nat)^r=P at *;have dI:(x+B*y)/P=x/P+Q*y:=by rw[e,gr,Nat.add_mul_div_left _ _ h]
 have H:x/P<Q:=by rw[Nat.div_lt_iff_lt_mul h,ed,←e];exact aZ
 have p:Q*y=B*(y/P)+Q*(y%P):=by
  conv=>lhs;rw[←Nat.div_add_mod y P]
  rw[fh,e,←gr,ed Q P]
 have q:x/P+Q*(y%P)<B:=by have ar:y%P+1≤P:=Nat.mod_lt _ h;have ay:=Nat.mul_le_mul_left Q ar;rw[fh,Nat.mul_one,ed Q P,←e] at ay;omega
 have A:(x+B*y)/P%B=x/P+Q*(y%P):=by rw[dI,p,show x/P+(B*(y/P)+Q*(y%P))=x/P+Q*(y%P)+B*(y/P) by omega,Nat.add_mul_mod_self_left,g7 q]
 rw[A,eL,e];have dk:=Nat.mod_add_div x P;have I:Q*(y%P)*P=P*Q*(y%P):=by rw[ed,←gr]
 have J:x/P*P=P*(x/P):=ed _ _;omega
theorem Bc(l out:List Nat)(w i r:Nat)(aJ:r<32)(e:dC l)(h:dC out)(bN:i<out.length)(bO:w+i<l.length)(bD:val (out.take i)*2^r+l.getD w 0%2^r=val ((l.drop w).take i)+B^i*(l.getD (w+i) 0%2^r)):
  dC (out.set i ((l.getD (w+i) 0+B*l.getD (w+i+1) 0)/2^r%B))∧val ((out.set i ((l.getD (w+i) 0+B*l.getD (w+i+1) 0)/2^r%B)).take (i+1))*2^r+l.getD w 0%2^r=val ((l.drop w).take (i+1))+B^(i+1)*(l.getD (w+(i+1)) 0%2^r):=by
 refine⟨h.set _ _ (Nat.mod_lt _ gO),?_⟩;have ar:=Bb (l.getD (w+i) 0) (l.getD (w+i+1) 0) r aJ (e.getD _);generalize fb:(l.getD (w+i) 0+B*l.getD (w+i+1) 0)/2^r%B=y at *;have s1:=val_succ (out.set i y) i (by simpa using bN);have s2:=val_succ (l.drop w) i (by simp;omega);have gZ:(out.set i y).getD i 0=y:=fx bN;rw[vc] at s2;rw[s1,s2,gZ,lD (aC _),eL,Nat.pow_succ,←Nat.add_assoc w i 1];have ay:B^i*(l.getD (w+i) 0%2^r+y*2^r)=B^i*(l.getD (w+i) 0+B*(l.getD (w+i+1) 0%2^r)):=by rw[ar]
 rw[fh,fh,←gr,←gr] at ay;omega
theorem wY(l:List Nat)(w:Nat)(e:dC l)(h:w≤l.length):val l/B^w=val (l.drop w):=by
 have ar:=kB l w h;have ch:=hG (l.take w) (e.take _);have dk:(l.take w).length=w:=by simp;omega
 rw[dk] at ch;rw[ar,Nat.add_mul_div_left _ _ (Nat.pow_pos gO),Nat.div_eq_of_lt ch,bc]
theorem Dj(l out:List Nat)(w r n:Nat)(df:n=32*w+r)(e:dC l)(hw:w<l.length)(bD:val out*2^r+l.getD w 0%2^r=val (l.drop w)):val out=val l/2^n:=by rw[df,←Df,←Nat.div_div_eq_div_mul,wY l w e (by omega),←bD,ed,Nat.mul_add_div (Nat.two_pow_pos _),Nat.div_eq_of_lt (Nat.mod_lt _ (Nat.two_pow_pos _)),Nat.add_zero]
theorem Bd(l:List Nat)(n:Nat)(e:dC l)(h:l.length≤n/32):val l/2^n=0:=by
 apply Nat.div_eq_of_lt;have ar:=hG l e;have ay:B^l.length≤B^(n/32):=nN h;have ch:(2:Nat)^n=B^(n/32)*2^(n%32):=by rw[Df,Nat.div_add_mod]
 have dk:B^(n/32)*1≤B^(n/32)*2^(n%32):=Nat.mul_le_mul_left _ (Nat.two_pow_pos _);omega
end Go.hb
end
section
namespace Go.f0
open Go.Ab Go.hb
variable(G:Nat→ae)(X:Nat→List ae→ag→ah)
theorem K8{s:ag}{k:bb}(c q:Nat)(aW:c<4294967296)(f8:q<4294967296):(a3 a4 G X).ai s k (ao .or (.int .u64 (c:Int)) (.int .u64 ((q*4294967296:Nat):Int)))=k (.int .u64 ((c+4294967296*q:Nat):Int)) s:=by
 have e:ao .or (.int .u64 (c:Int)) (.int .u64 ((q*4294967296:Nat):Int))=some (.int .u64 (IntKind.wrap .u64 ((BitVec.ofInt 64 (c:Int) ||| BitVec.ofInt 64 ((q*4294967296:Nat):Int)).toNat:Int))):=by simp -implicitDefEqProofs only[ao,f3,↓reduceIte];rfl
 rw[e,BZ _ _ (by omega) (by omega),cy,il];congr 2
 have:c ||| q*4294967296=c+4294967296*q:=by have h:=Nat.two_pow_add_eq_or_of_lt (i:=32) (b:=c) (by omega) q;rw[Nat.or_comm,ed];rw[show(4294967296:Nat)=2^32 from rfl,←h,Nat.add_comm]
 rw[this];omega
theorem Dk(ec:IntKind)(a b:Int):∃c,∀(s:ag) (k:bb),(a3 a4 G X).ai s k (ao .and (.int ec a) (.int ec b))=k (.int ec c) s:=by refine⟨ec.wrap (BitVec.ofInt ec.bits a &&& BitVec.ofInt ec.bits b).toNat,fun s k=>?_⟩;rw[show ao .and (.int ec a) (.int ec b)=some (.int ec (ec.wrap (BitVec.ofInt ec.bits a &&& BitVec.ofInt ec.bits b).toNat)) from by simp [ao,f3]];rfl
theorem Be(s:ag)(kZ:ae)(l:List Nat)(n:Nat)(lost:Bool)(r:lA s kZ l)(p:dC l)(df:n<4294967296)(gC:l.length<4294967296)(aV:n/32<l.length)(j N:Nat)(pf:N=l.length-n/32):∀m i out S,i+m=N→Child s S→gz S j out→out.length=N→dC out→
  val (out.take i)*2^(n%32)+l.getD (n/32) 0%2^(n%32)=val ((l.drop (n/32)).take i)+B^i*(l.getD (n/32+i) 0%2^(n%32))→
  ∃v q,oC (a3 a4 G X) kZ (.int .i64 (n:Int)) (.int .i64 ((n/32:Nat):Int)) (.bool lost) (.cD (.l j) 0 N N 1) (.int .i64 (N:Int)) (.int .i64 (i:Int)) S=.ok (.d7 [v,.bool lost]) s∧je v q∧dC q∧eM q∧val q=val l/2^n:=by
 intro m
 induction m with
 |zero=>
  intro i out S bN e da bO A bD;have h:¬((i:Int)<(N:Int)):=by omega
  rw[sE];simp -implicitDefEqProofs only[↓cx,↓cy,↓bH,↓bd,↓ax,↓az,↓av,↓aA,↓aF,↓aG,↓aw,↓aB,↓aU,↓aM,↓aP,↓bf,↓dG,↓aL,↓bl,↓bP,↓cR,↓bW,↓bX,↓bQ,↓bY,↓bZ,↓b0,↓b1,↓b2,↓b3,↓bn,↓bo,↓bp,↓cS,↓cT,↓cU,↓cV,↓cW,↓cX,↓cY,↓cZ,↓c0,↓b4,↓b5,↓b6,↓bB,↓cK,↓bE,↓c1,↓bJ,↓cv,↓cJ,↓c2,↓aQ,↓aH,↓aR,↓aI,↓aD,↓aS,↓cH,↓bR,↓bS,↓b7,↓b8,↓b9,↓ca,↓cb,↓cc,↓cd,↓cf,↓dq,↓dr,↓c6,↓dA,↓ck,↓cl,↓cw,↓c8,bV,dJ,cj,decide_eq_false_iff_not,ite_not,↓reduceIte,a2,aO,a0,bq,bc,bM,cr,Nat.reduceAdd,bA,↓a9,Nat.reduceLeDiff,aC,cN,cQ,dx,du,bL,eq_false h,AD,ia];obtain⟨v,f1,f2⟩:=vb G X e da N bO.symm (by omega) (.bool lost) rfl;refine⟨v,fS out,f2,f1,k5 A,iR out,?_⟩;rw[jO];have nY:l.getD (n/32+i) 0=0:=by simp -implicitDefEqProofs only[List.getD];rw[List.getElem?_eq_none (by omega)];rfl
  rw[nY,Nat.zero_mod,Nat.mul_zero,Nat.add_zero,jC (by omega),jC (by simp;omega)] at bD;exact Dj l out (n/32) (n%32) n (Nat.div_add_mod n 32).symm p aV bD
 |succ m J=>
  intro i out S bN e da bO A bD;have h:(i:Int)<(N:Int):=by omega
  have aJ:n%32<32:=Nat.mod_lt _ (by omega);have I:=Bc l out (n/32) i (n%32) aJ p A (by omega) (by omega) bD;have aZ:=p.getD (n/32+i);have fb:=p.getD (n/32+i+1);have M:B=4294967296:=rfl;rw[M] at aZ fb;have sK:=fun(k:bb)=>(r.nZ e.nZ).get (T:=a4) (G:=G) (X:=X) .i64 (n/32+i) (by omega) k
  have dY:=fun(S:ag) (k:bb)=>hE (T:=a4) (G:=G) (X:=X) (s:=S) (k:=k) (l.getD (n/32+i) 0) aZ
  have O:=fun(S:ag) (k:bb)=>hE (T:=a4) (G:=G) (X:=X) (s:=S) (k:=k) (l.getD (n/32+i+1) 0) fb
  have p3:=fun(S:ag) (k:bb)=>rT (T:=a4) (G:=G) (X:=X) (s:=S) (k:=k) n
  have U:=fun(S:ag) (k:bb)=>r.len (T:=a4) (G:=G) (X:=X) k S
  have dR:=fun(S:ag) (k:bb)=>hP (T:=a4) (G:=G) (X:=X) (s:=S) (k:=k) i (n/32) (by omega)
  have F:=fun S k=>q8 G X S k (i+n/32) (by omega)
  have V:=fun S k=>q8 G X S k i (by omega)
  have Y:i+n/32=n/32+i:=Nat.add_comm _ _;simp -implicitDefEqProofs only[Y] at dR F;have Z:=fun y (k:bb)=>da.gq (T:=a4) (G:=G) (X:=X) i N N y (by omega) (by omega) k
  have s1:=fun t (S:ag) (k:bb)=>xK (T:=a4) (G:=G) (X:=X) (s:=S) (k:=k) .i64 t (n%32) (by omega)
  have this:=J (i+1) _ _ (by omega) (e.put _ _) (da.put (out.set i ((l.getD (n/32+i) 0+B*l.getD (n/32+i+1) 0)/2^(n%32)%B))) (by simp [bO]) I.1 I.2;refine Exists.imp (fun v ay=>Exists.imp (fun q ch=>⟨?_,ch.2⟩) ay) this;have H:qZ (a3 a4 G X) kZ (.int .i64 (n:Int)) (.int .i64 ((n/32:Nat):Int)) (.bool lost) (.cD (.l j) 0 N N 1) (.int .i64 (i:Int)) (.int .u64 ((l.getD (n/32+i) 0+4294967296*l.getD (n/32+i+1) 0:Nat):Int)) (.int .i64 (N:Int)) (.int .i64 (i:Int)) S=.ok (.d7 [v,.bool lost]) s:=by rw[AB,p3,s1,c8];simp -implicitDefEqProofs only[aO];rw[Z,AA,V];exact ch.1
  rw[sE];simp -implicitDefEqProofs only[↓cx,↓cy,↓bH,↓bd,↓ax,↓az,↓av,↓aA,↓aF,↓aG,↓aw,↓aB,↓aU,↓aM,↓aP,↓bf,↓dG,↓aL,↓bl,↓bP,↓cR,↓bW,↓bX,↓bQ,↓bY,↓bZ,↓b0,↓b1,↓b2,↓b3,↓bn,↓bo,↓bp,↓cS,↓cT,↓cU,↓cV,↓cW,↓cX,↓cY,↓cZ,↓c0,↓b4,↓b5,↓b6,↓bB,↓cK,↓bE,↓c1,↓bJ,↓cv,↓cJ,↓c2,↓aQ,↓aH,↓aR,↓aI,↓aD,↓aS,↓cH,↓bR,↓bS,↓b7,↓b8,↓b9,↓ca,↓cb,↓cc,↓cd,↓cf,↓dq,↓dr,↓c6,↓dA,↓ck,↓cl,↓cw,↓c8,bV,dJ,cj,decide_eq_false_iff_not,ite_not,↓reduceIte,a2,aO,a0,bq,bc,bM,cr,Nat.reduceAdd,bA,↓a9,Nat.reduceLeDiff,aC,cN,cQ,dx,du,bL,eq_true h];rw[AC,dR,sK,dY,dR,F,U,bE,bd];by_cases aa:n/32+i+1<l.length
  ·have ab:=fun(k:bb)=>(r.nZ e.nZ).get (T:=a4) (G:=G) (X:=X) .i64 (n/32+i+1) aa k
   have gR:=fun(S:ag) (k:bb)=>K8 G X (s:=S) (k:=k) (l.getD (n/32+i) 0) (l.getD (n/32+i+1) 0) aZ fb
   have es:l.getD (n/32+i+1) 0*4294967296%18446744073709551616=l.getD (n/32+i+1) 0*4294967296:=g7 (by omega);rw[if_pos (by simp -implicitDefEqProofs only[cj];omega),dR,F,ab,O,ck,es,gR];exact H
  ·rw[if_neg (by simp -implicitDefEqProofs only[cj];omega)];have nY:l.getD (n/32+i+1) 0=0:=by simp -implicitDefEqProofs only[List.getD];rw[List.getElem?_eq_none (by omega)];rfl
   rw[nY,Nat.mul_zero,Nat.add_zero] at H;exact H
theorem K9(s:ag)(kZ:ae)(l:List Nat)(n:Nat)(e:lA s kZ l)(y:dC l)(df:n<4294967296)(gC:l.length<4294967296):
  ∃v q lost,aX a4 G X 140 [kZ,.int .i64 (n:Int)] s=.ok (.d7 [v,.bool lost]) s∧je v q∧dC q∧eM q∧val q=val l/2^n:=by
 rw[C6,KT];have p:=fun(S:ag) (k:bb)=>e.len (T:=a4) (G:=G) (X:=X) k S
 have A:=fun(S:ag) (k:bb)=>rS (T:=a4) (G:=G) (X:=X) (s:=S) (k:=k) n (by omega)
 by_cases aV:n/32<l.length
 ·have h:¬((l.length:Int)≤((n/32:Nat):Int)):=by omega
  rw[A,p,cv,bd,if_neg (by simpa using h)];have ke:=Child.ak s;have r:=e.cut (n/32) (by omega);have hlen:(l.take (n/32)).length=n/32:=by simp;omega
  have H:=ma G X s.ak (ou kZ (n/32)) (l.take (n/32)) (r.nZ ke.nZ) (by rw[hlen];omega);have I:=r.cut (gP (l.take (n/32)) (l.take (n/32)).length) (i9 _ _);have J:=fun(S:ag) (k:bb)=>I.len (T:=a4) (G:=G) (X:=X) k S
  have dR:=fun(S:ag) (k:bb)=>mz (T:=a4) (G:=G) (X:=X) (s:=S) (k:=k) l.length (n/32) (by omega) (by omega)
  have M:=fun(S:ag) (k:bb)=>oP (T:=a4) (G:=G) (X:=X) (s:=S) (k:=k) (U 0) 4 (l.length-n/32) (l.length-n/32) (aC _) (by omega)
  have fin:∀lost,∃v q,(a3 a4 G X).dz s.ak (fun N s=>(a3 a4 G X).ai s (fun B s=>(a3 a4 G X).kP s (fun F s=>(a3 a4 G X).dz s (fun O s=>oC (a3 a4 G X) kZ (.int .i64 (n:Int)) (.int .i64 ((n/32:Nat):Int)) (.bool lost) F O (.int .i64 0) s) false F) [.int .u32 0] 4 B B) (ao .sub N (.int .i64 ((n/32:Nat):Int)))) false kZ=.ok (.d7 [v,.bool lost]) s∧je v q∧dC q∧eM q∧val q=val l/2^n:=fun lost=>by have V:=Be G X s kZ l n lost e y df gC aV s.ak.own.length _ rfl (l.length-n/32) 0 _ _ (by omega) (ke.new (.cells (List.replicate (l.length-n/32) (U 0)))) (gz.make _ _) (by simp) (oE _) (by simp [val]);refine Exists.imp (fun v ay=>Exists.imp (fun q ch=>⟨?_,ch.2⟩) ay) V;rw[p,dR];refine(M _ _).trans ?_;rw[aM];exact ch.1
  have sK:=fun(k:bb)=>(e.nZ ke.nZ).get (T:=a4) (G:=G) (X:=X) .i64 (n/32) aV k
  have p3:=fun(S:ag) (k:bb)=>rT (T:=a4) (G:=G) (X:=X) (s:=S) (k:=k) n
  have s1:∀(S:ag) (k:bb),(a3 a4 G X).ai S k (ao .shl (.int .u32 1) (.int .i64 ((n%32:Nat):Int)))=k (.int .u32 ((1*2^(n%32)%4294967296:Nat):Int)) S:=fun S k=>BY .i64 1 (n%32) (by omega)
  obtain⟨c,aW⟩:=Dk G X .u32 ((l.getD (n/32) 0:Nat):Int) (IntKind.wrap .u32 (((1*2^(n%32)%4294967296:Nat):Int)-1));have cm:=fun(k:bb) (S:ag)=>e.slice (T:=a4) (G:=G) (X:=X) (n/32) (by omega) k S
  rw[AE,cm,(r.aq _),bx H,J,bJ];by_cases eU:(0:Int)<(((l.take (n/32)).take (gP (l.take (n/32)) (l.take (n/32)).length)).length:Int)
  ·obtain⟨v,q,ar,ay⟩:=fin true;refine⟨v,q,true,?_,ay⟩;simp -implicitDefEqProofs only[↓cx,↓cy,↓bH,↓bd,↓ax,↓az,↓av,↓aA,↓aF,↓aG,↓aw,↓aB,↓aU,↓aM,↓aP,↓bf,↓dG,↓aL,↓bl,↓bP,↓cR,↓bW,↓bX,↓bQ,↓bY,↓bZ,↓b0,↓b1,↓b2,↓b3,↓bn,↓bo,↓bp,↓cS,↓cT,↓cU,↓cV,↓cW,↓cX,↓cY,↓cZ,↓c0,↓b4,↓b5,↓b6,↓bB,↓cK,↓bE,↓c1,↓bJ,↓cv,↓cJ,↓c2,↓aQ,↓aH,↓aR,↓aI,↓aD,↓aS,↓cH,↓bR,↓bS,↓b7,↓b8,↓b9,↓ca,↓cb,↓cc,↓cd,↓cf,↓dq,↓dr,↓c6,↓dA,↓ck,↓cl,↓cw,↓c8,bV,dJ,cj,decide_eq_false_iff_not,ite_not,↓reduceIte,a2,aO,a0,bq,bc,bM,cr,Nat.reduceAdd,bA,↓a9,Nat.reduceLeDiff,aC,cN,cQ,dx,du,bL,eq_true eU];simpa only[↓cx,↓cy,↓bH,↓bd,↓ax,↓az,↓av,↓aA,↓aF,↓aG,↓aw,↓aB,↓aU,↓aM,↓aP,↓bf,↓dG,↓aL,↓bl,↓bP,↓cR,↓bW,↓bX,↓bQ,↓bY,↓bZ,↓b0,↓b1,↓b2,↓b3,↓bn,↓bo,↓bp,↓cS,↓cT,↓cU,↓cV,↓cW,↓cX,↓cY,↓cZ,↓c0,↓b4,↓b5,↓b6,↓bB,↓cK,↓bE,↓c1,↓bJ,↓cv,↓cJ,↓c2,↓aQ,↓aH,↓aR,↓aI,↓aD,↓aS,↓cH,↓bR,↓bS,↓b7,↓b8,↓b9,↓ca,↓cb,↓cc,↓cd,↓cf,↓dq,↓dr,↓c6,↓dA,↓ck,↓cl,↓cw,↓c8,bV,dJ,cj,decide_eq_false_iff_not,ite_not,↓reduceIte,a2,aO,a0,bq,bc,bM,cr,Nat.reduceAdd,bA,↓a9,Nat.reduceLeDiff,aC,cN,cQ,dx,du,bL] using ar
  ·obtain⟨v,q,ar,ay⟩:=fin (decide (¬c=0));refine⟨v,q,decide (¬c=0),?_,ay⟩;simp -implicitDefEqProofs only[↓cx,↓cy,↓bH,↓bd,↓ax,↓az,↓av,↓aA,↓aF,↓aG,↓aw,↓aB,↓aU,↓aM,↓aP,↓bf,↓dG,↓aL,↓bl,↓bP,↓cR,↓bW,↓bX,↓bQ,↓bY,↓bZ,↓b0,↓b1,↓b2,↓b3,↓bn,↓bo,↓bp,↓cS,↓cT,↓cU,↓cV,↓cW,↓cX,↓cY,↓cZ,↓c0,↓b4,↓b5,↓b6,↓bB,↓cK,↓bE,↓c1,↓bJ,↓cv,↓cJ,↓c2,↓aQ,↓aH,↓aR,↓aI,↓aD,↓aS,↓cH,↓bR,↓bS,↓b7,↓b8,↓b9,↓ca,↓cb,↓cc,↓cd,↓cf,↓dq,↓dr,↓c6,↓dA,↓ck,↓cl,↓cw,↓c8,bV,dJ,cj,decide_eq_false_iff_not,ite_not,↓reduceIte,a2,aO,a0,bq,bc,bM,cr,Nat.reduceAdd,bA,↓a9,Nat.reduceLeDiff,aC,cN,cQ,dx,du,bL,eq_false eU,↓sK,↓p3,↓s1,↓fu,↓aW];simpa only[↓cx,↓cy,↓bH,↓bd,↓ax,↓az,↓av,↓aA,↓aF,↓aG,↓aw,↓aB,↓aU,↓aM,↓aP,↓bf,↓dG,↓aL,↓bl,↓bP,↓cR,↓bW,↓bX,↓bQ,↓bY,↓bZ,↓b0,↓b1,↓b2,↓b3,↓bn,↓bo,↓bp,↓cS,↓cT,↓cU,↓cV,↓cW,↓cX,↓cY,↓cZ,↓c0,↓b4,↓b5,↓b6,↓bB,↓cK,↓bE,↓c1,↓bJ,↓cv,↓cJ,↓c2,↓aQ,↓aH,↓aR,↓aI,↓aD,↓aS,↓cH,↓bR,↓bS,↓b7,↓b8,↓b9,↓ca,↓cb,↓cc,↓cd,↓cf,↓dq,↓dr,↓c6,↓dA,↓ck,↓cl,↓cw,↓c8,bV,dJ,cj,decide_eq_false_iff_not,ite_not,↓reduceIte,a2,aO,a0,bq,bc,bM,cr,Nat.reduceAdd,bA,↓a9,Nat.reduceLeDiff,aC,cN,cQ,dx,du,bL] using ar
 ·have h:(l.length:Int)≤((n/32:Nat):Int):=by omega
  refine⟨.cm 1 [] .nil,[],decide ((0:Int)<(l.length:Int)),?_,je.nil,(fun x (h:x∈[])=>absurd h ps:dC []),(fun h=>absurd rfl h:eM []),?_⟩
  ·rw[A,p,cv,bd,if_pos (by simpa using h),p,bJ];exact l7 (.ak s) _ _ _ _ rfl rfl
  ·rw[Bd l n y (by omega)];rfl
structure WI (q X Y:Nat):Prop where
 lt:q<B
 le:q*Y≤X
 max:∀pv,pv<B→pv*Y≤X→pv≤q
theorem La(q:Nat)(h:0<q)(ay:q<18446744073709551616):qH q 1=q-1:=by unfold qH;omega
theorem Bf(s:ag)(J n6:ae)(db vs:List Nat)(j:Nat)(hu:lA s J db)(bD:lA s n6 vs)(M:dC db)(k9:dC vs)(df:2≤vs.length)(da:j+vs.length<db.length)(gC:db.length<4294967296)
  (aq:B≤2*vs.getD (vs.length-1) 0)(Y:db.getD (j+vs.length) 0≤vs.getD (vs.length-1) 0)(S:ag)(F:Child s S):∀(m q r:Nat),r+m=B→0<m→
  q*vs.getD (vs.length-1) 0+r=db.getD (j+vs.length) 0*B+db.getD (j+vs.length-1) 0→
  (∀pv,pv<B→pv*(vs.getD (vs.length-1) 0*B+vs.getD (vs.length-2) 0)≤db.getD (j+vs.length) 0*B*B+db.getD (j+vs.length-1) 0*B+db.getD (j+vs.length-2) 0→pv≤q)→
  ∃p:Nat,qX (a3 a4 G X) J (.int .i64 (j:Int)) n6 (.int .i64 (vs.length:Int)) (.int .u64 (q:Int)) (.int .u64 (r:Int)) S=.ok (.int .u64 (p:Int)) s∧
   WI p (db.getD (j+vs.length) 0*B*B+db.getD (j+vs.length-1) 0*B+db.getD (j+vs.length-2) 0) (vs.getD (vs.length-1) 0*B+vs.getD (vs.length-2) 0):=by
 have as:=kj;have cg:=M.getD (j+vs.length);have au:=M.getD (j+vs.length-1);have av:=M.getD (j+vs.length-2);have pI:=k9.getD (vs.length-1);have aw:=k9.getD (vs.length-2);obtain⟨ax,Z,aa⟩:=(hu.nZ F.nZ).ptr (T:=a4) (G:=G) (X:=X) .i64 (j+vs.length-2) (by omega);obtain⟨az,ab,ac⟩:=(bD.nZ F.nZ).ptr (T:=a4) (G:=G) (X:=X) .i64 (vs.length-2) (by omega);have mi:=fun(k:bb)=>(bD.nZ F.nZ).get (T:=a4) (G:=G) (X:=X) .i64 (vs.length-1) (by omega) k
 have i1:=fun(S:ag) (k:bb)=>jt (T:=a4) (G:=G) (X:=X) (s:=S) (k:=k) vs.length (by omega) (by have:=hu.len (T:=a4) (G:=G) (X:=X);omega)
 have i2:=fun(S:ag) (k:bb)=>y8 (T:=a4) (G:=G) (X:=X) (s:=S) (k:=k) vs.length (by omega) (by omega)
 have i3:=fun(S:ag) (k:bb)=>hP (T:=a4) (G:=G) (X:=X) (s:=S) (k:=k) j vs.length (by omega)
 have i4:=fun(S:ag) (k:bb)=>y8 (T:=a4) (G:=G) (X:=X) (s:=S) (k:=k) (j+vs.length) (by omega) (by omega)
 generalize db.getD (j+vs.length) 0=A at *;generalize db.getD (j+vs.length-1) 0=I at *;generalize db.getD (j+vs.length-2) 0=y at *;generalize vs.getD (vs.length-1) 0=v1 at *;generalize vs.getD (vs.length-2) 0=v2 at *;have cu:=fun(S:ag) (k:bb)=>hE (T:=a4) (G:=G) (X:=X) (s:=S) (k:=k) y (by omega)
 have ad:=fun(S:ag) (k:bb)=>hE (T:=a4) (G:=G) (X:=X) (s:=S) (k:=k) v2 (by omega)
 have af:=fun(S:ag) (k:bb)=>hE (T:=a4) (G:=G) (X:=X) (s:=S) (k:=k) v1 (by omega)
 intro m
 induction m using Nat.strongRecOn with
 |ind m an=>
  intro q r hm l2 f8 ah;have aA:r<B:=by omega
  have kg:A*B*B+I*B+y=q*v1*B+r*B+y:=by rw[←eL,←eL,f8]
  have aB:q≤B+1:=by
   have ar:A*B≤v1*B:=fi _ Y;have ay:q*v1<(B+2)*v1:=by rw[eL,ed B v1];omega
   have:=Nat.lt_of_mul_lt_mul_right ay;omega
  have down:0<q→(∀pv,pv<B→pv*(v1*B+v2)≤A*B*B+I*B+y→pv≤q-1)→∃p:Nat,uM (a3 a4 G X) J (.int .i64 (j:Int)) n6 (.int .i64 (vs.length:Int)) (.int .u64 (q:Int)) (.int .u64 (r:Int)) S=.ok (.int .u64 (p:Int)) s∧WI p (A*B*B+I*B+y) (v1*B+v2):=fun eU ai=>by
   have aj:(q-1)*v1+(r+v1)=A*B+I:=by
    have:(q-1)*v1+v1=q*v1:=by rw[←Nat.succ_mul];congr 1;omega
    omega
   have ak:(r+v1)%18446744073709551616=r+v1:=g7 (by omega);have dI:=La q eU (by omega);rw[Ay];by_cases ao:B≤r+v1
   ·have N:(4294967296:Int)≤((r+v1:Nat):Int):=by omega
    refine⟨q-1,?_,?_,?_,ai⟩
    ·rw[c6,dI,i1,mi,af,dq,ak,cv,bd,if_pos (by simpa using N),sD];exact iQ F _ _
    ·
     by_cases H:q≤B
     ·omega
     ·exfalso;have O:q=B+1:=by omega
      rw[O,eL,Nat.one_mul] at f8;have ar:A*B≤v1*B:=fi _ Y;rw[ed v1 B] at ar;omega
    ·rw[kg];have H:q-1≤B:=by omega
     have O:(q-1)*v2≤B*B:=Nat.mul_le_mul H (by omega);have al:B*B≤(r+v1)*B:=fi _ ao;have aC:(q-1)*(v1*B+v2)=(q-1)*v1*B+(q-1)*v2:=by rw[fh,gr]
     have aD:(q-1)*v1*B+(r+v1)*B=q*v1*B+r*B:=by rw[←eL,aj,←f8,eL]
     omega
   ·have N:¬(4294967296:Int)≤((r+v1:Nat):Int):=by omega
    have aE:0<v1:=by omega
    obtain⟨p,ar,ay⟩:=an (B-(r+v1)) (by omega) (q-1) (r+v1) (by omega) (by omega) aj ai;refine⟨p,?_,ay⟩;rw[c6,dI,i1,mi,af,dq,ak,cv,bd,if_neg (by simpa using N)];exact ar
  rw[Az];by_cases c:B≤q
  ·have nk:(4294967296:Int)≤(q:Int):=by omega
   obtain⟨p,ar,ay⟩:=down (by omega) (fun pv h _=>by omega);refine⟨p,?_,ay⟩;simp -implicitDefEqProofs only[↓cv,↓bd,↓bH,↓uy,eq_true nk,dx,Bool.true_eq_false,if_false,↓reduceIte,ar]
  ·have nk:¬(4294967296:Int)≤(q:Int):=by omega
   have ap:q*v2<18446744073709551616:=by
    have:q*v2≤B*B:=Nat.mul_le_mul (by omega) (by omega);have ch:q*v2≤(B-1)*(B-1):=Nat.mul_le_mul (by omega) (by omega);have dk:(B-1)*(B-1)<18446744073709551616:=by decide
    omega
   have em:q*v2%18446744073709551616=q*v2:=g7 ap;have es:r*4294967296%18446744073709551616=r*4294967296:=g7 (by omega);have gR:=fun(S:ag) (k:bb)=>uA (T:=a4) (G:=G) (X:=X) (s:=S) (k:=k) r y (by omega) (by omega)
   have am:q*(v1*B+v2)=q*v1*B+q*v2:=by rw[fh,gr]
   have U:=fun(S:ag) (k:bb)=>ck (T:=a4) (G:=G) (X:=X) (s:=S) (k:=k) r
   rw[es] at U;have V:=fun(S:ag) (k:bb)=>dA (T:=a4) (G:=G) (X:=X) (s:=S) (k:=k) q v2
   rw[em] at V;by_cases d:r*4294967296+y<q*v2
   ·have e3:((r*4294967296+y:Nat):Int)<((q*v2:Nat):Int):=by omega
    have eU:0<q:=by
     rcases Nat.eq_zero_or_pos q with e|e
     ·subst e;omega
     ·exact e
    obtain⟨p,ar,ay⟩:=down eU (fun pv h H=>by
     have O:=ah pv h H;rcases Nat.lt_or_ge pv q with al|al
     ·omega
     ·have:pv=q:=by omega
      subst this;rw[kg,am,kj] at H;rw[kj] at *;omega)
    refine⟨p,?_,ay⟩;simp -implicitDefEqProofs only[↓cv,↓bJ,↓bd,↓bH,↓uy,eq_false nk,du,↓reduceIte,bL,↓i2,↓ab,↓ac,↓ad,↓V,↓U,↓i3,↓i4,↓Z,↓aa,↓cu,↓gR,cj,dx,eq_true e3,ar]
   ·have e3:¬((r*4294967296+y:Nat):Int)<((q*v2:Nat):Int):=by omega
    refine⟨q,?_,by omega,?_,ah⟩
    ·simp -implicitDefEqProofs only[↓cv,↓bJ,↓bd,↓bH,↓uy,eq_false nk,du,↓reduceIte,bL,↓i2,↓ab,↓ac,↓ad,↓V,↓U,↓i3,↓i4,↓Z,↓aa,↓cu,↓gR,cj,dx,eq_false e3,sD];exact iQ F _ _
    ·rw[kg,am,kj] at *;omega
theorem Lb(s:ag)(A n6:ae)(db vs:List Nat)(j:Nat)(hu:lA s A db)(bD:lA s n6 vs)(q:dC db)(k9:dC vs)(df:2≤vs.length)(da:j+vs.length<db.length)(gC:db.length<4294967296)
  (J:B≤2*vs.getD (vs.length-1) 0)(M:db.getD (j+vs.length) 0≤vs.getD (vs.length-1) 0):
  ∃F:Nat,aX a4 G X 139 [A,.int .i64 (j:Int),n6] s=.ok (.int .u64 (F:Int)) s∧
   WI F (db.getD (j+vs.length) 0*B*B+db.getD (j+vs.length-1) 0*B+db.getD (j+vs.length-2) 0) (vs.getD (vs.length-1) 0*B+vs.getD (vs.length-2) 0):=by
 have N:=kj;have r:=Child.ak s;have cg:=q.getD (j+vs.length);have Z:=q.getD (j+vs.length-1);have pI:=k9.getD (vs.length-1);have aa:=k9.getD (vs.length-2);have ab:=q.getD (j+vs.length-2);have p:vs.getD (vs.length-1) 0≠0:=by omega
 have H:db.getD (j+vs.length) 0*B+db.getD (j+vs.length-1) 0<18446744073709551616:=by rw[N] at *;omega
 have O:=Bf G X s A n6 db vs j hu bD q k9 df da gC J M s.ak r
  (B-(db.getD (j+vs.length) 0*B+db.getD (j+vs.length-1) 0)%vs.getD (vs.length-1) 0) ((db.getD (j+vs.length) 0*B+db.getD (j+vs.length-1) 0)/vs.getD (vs.length-1) 0) ((db.getD (j+vs.length) 0*B+db.getD (j+vs.length-1) 0)%vs.getD (vs.length-1) 0)
  (by have:=Nat.mod_lt (db.getD (j+vs.length) 0*B+db.getD (j+vs.length-1) 0) (Nat.pos_of_ne_zero p);omega) (by have:=Nat.mod_lt (db.getD (j+vs.length) 0*B+db.getD (j+vs.length-1) 0) (Nat.pos_of_ne_zero p);omega)
  (by rw[ed];exact Nat.div_add_mod _ _) (fun pv ac h=>by
   rw[Nat.le_div_iff_mul_le (Nat.pos_of_ne_zero p)];have ar:pv*vs.getD (vs.length-1) 0*B≤pv*(vs.getD (vs.length-1) 0*B+vs.getD (vs.length-2) 0):=by rw[fh,gr];omega
   have ay:pv*vs.getD (vs.length-1) 0*B<(db.getD (j+vs.length) 0*B+db.getD (j+vs.length-1) 0+1)*B:=by rw[eL,eL,Nat.one_mul];omega
   have:=Nat.lt_of_mul_lt_mul_right ay;omega)
 refine Exists.imp (fun F ay=>⟨?_,ay.2⟩) O;have ar:=ay.1;have U:=fun(k:bb)=>(hu.nZ r.nZ).get (T:=a4) (G:=G) (X:=X) .i64 (j+vs.length) (by omega) k
 have V:=fun(k:bb)=>(hu.nZ r.nZ).get (T:=a4) (G:=G) (X:=X) .i64 (j+vs.length-1) (by omega) k
 have mi:=fun(k:bb)=>(bD.nZ r.nZ).get (T:=a4) (G:=G) (X:=X) .i64 (vs.length-1) (by omega) k
 have Y:=fun(S:ag) (k:bb)=>bD.len (T:=a4) (G:=G) (X:=X) k S
 have i1:=fun(S:ag) (k:bb)=>jt (T:=a4) (G:=G) (X:=X) (s:=S) (k:=k) vs.length (by omega) (by omega)
 have i3:=fun(S:ag) (k:bb)=>hP (T:=a4) (G:=G) (X:=X) (s:=S) (k:=k) j vs.length (by omega)
 have i4:=fun(S:ag) (k:bb)=>jt (T:=a4) (G:=G) (X:=X) (s:=S) (k:=k) (j+vs.length) (by omega) (by omega)
 rw[N] at H ar cg Z pI;clear J M O ay ab aa;generalize db.getD (j+vs.length) 0=e at *;generalize db.getD (j+vs.length-1) 0=y at *;generalize vs.getD (vs.length-1) 0=v1 at *;have et:=fun(S:ag) (k:bb)=>hE (T:=a4) (G:=G) (X:=X) (s:=S) (k:=k) e (by omega)
 have dY:=fun(S:ag) (k:bb)=>hE (T:=a4) (G:=G) (X:=X) (s:=S) (k:=k) y (by omega)
 have I:=fun(S:ag) (k:bb)=>hE (T:=a4) (G:=G) (X:=X) (s:=S) (k:=k) v1 (by omega)
 have es:e*4294967296%18446744073709551616=e*4294967296:=by clear ar H U V mi Y i1 i3 i4 et dY I;omega
 have gR:=fun(S:ag) (k:bb)=>uA (T:=a4) (G:=G) (X:=X) (s:=S) (k:=k) e y (by omega) (by omega)
 have d1:=fun(S:ag) (k:bb)=>DM (T:=a4) (G:=G) (X:=X) (s:=S) (k:=k) (e*4294967296+y) v1 p H
 have d2:=fun(S:ag) (k:bb)=>xI (T:=a4) (G:=G) (X:=X) (s:=S) (k:=k) (e*4294967296+y) v1 p
 rw[C5,KS,Y,i3,U,et,ck,es,i3,i4,V,dY,gR,i1,mi,I,d1,i1,mi,I,d2];exact ar
theorem re(s:ag)(j:Nat)(a b:List Nat):(s.put j a).put j b=s.put j b:=by simp [ag.put]
theorem mb(s:ag)(j:Nat)(a:List Nat):(s.put j a).aa=s.aa:=rfl
theorem yf{s:ag}{mS:Nat}{db:List Nat}(h:gz s mS db)(i N x:Nat)(bN:i<db.length)(pf:i<N)(k:bb):(a3 a4 G X).c7 s.ak (fun v S=>(a3 a4 G X).dy S k 1 v (U x)) 1 (.cD (.g s.aa mS) 0 N N 1) (.int .i64 (i:Int))=k .dead (s.put mS (db.set i x)).ak:=by
 rw[kz _ _ _ _ _ _ _ pf,m9];have e:(U x).fj=true:=rfl;have cF:s.ak.aa=s.aa+1:=(Child.ak s).aa;have p:s.ak.get (.g s.aa mS)=some (.cells (db.map U)):=(Child.ak s).nZ.2 _ _ _ (aC _) (by simpa [ag.get,gz] using h);simp -implicitDefEqProofs only[fr,e,ae.cells,bM,cr,bc,hj,bA,ci];unfold iT;rw[p];simp -implicitDefEqProofs only[Nat.mul_one,bM,cr,bc,show Nat.ble (i+1) (db.map U).length=true from eK (by simp;omega),show s.ak.h8 (.g s.aa mS) [U x]=true from by simp [ag.h8,ae.a6,ae.bj],List.all_cons,show(U x).eO=true from rfl,List.all_nil,bA,ci];have q:s.ro.length≤s.aa:=by unfold ag.aa;omega
 have r:s.ak.set (.g s.aa mS) (.cells ((db.map U).set i (U x)))=some (s.put mS (db.set i x)).ak:=by simp -implicitDefEqProofs only[ag.set,cF];rw[if_neg (by omega),if_pos ⟨by omega,q⟩];simp [ag.ak,ag.put,List.map_set]
 show(match s.ak.set (.g s.aa mS) (.cells ((db.map U).set i (U x))) with |some s=>k .dead s|none=>.fail)=_;rw[r]
section
variable(s:ag)(mS j N q:Nat)(gn vs:List Nat)(n6:ae)(eU:gz s mS gn)(pf:gn.length=N)(bD:je n6 vs)(k9:dC vs)(da:j+vs.length<N)(gC:N<4294967296)
include eU pf bD k9 da gC
theorem tn(db:List Nat)(bO:db.length=N)(i:Nat)(bN:i<N)(k:bb):(a3 a4 G X).c7 (s.put mS db).ak (fun v S=>(a3 a4 G X).aK S k none v) 1 (.cD (.g s.aa mS) 0 N N 1) (.int .i64 (i:Int))=k (U (db.getD i 0)) (s.put mS db).ak:=by have ar:=(eU.put db).rd N N (by omega) (aC _);rw[jC (by omega)] at ar;exact(ar.nZ (Child.ak _).nZ).get .i64 i (by omega) k
theorem Bg(U:Nat)(e:List Nat)(aj:dC e)(f8:0<q)(al:q<B)(O:U%val vs<val vs)(am:eG e j (vs.length+1)+val vs=B^(vs.length+1)+U%val vs):∀(m i:Nat) (db:List Nat) (carry:Nat),i+m=vs.length→db.length=N→dC db→e.length=N→carry≤1→(∀k,(k<j∨j+i≤k)→db.getD k 0=e.getD k 0)→eG db j i+carry*B^i=eG e j i+eG vs 0 i→
  ∃p,qW (a3 a4 G X) (.cD (.g s.aa mS) 0 N N 1) (.int .i64 (j:Int)) n6 (.int .u64 (q:Int)) (.int .u64 (carry:Int)) (.int .i64 (vs.length:Int)) (.int .i64 (i:Int)) (s.put mS db).ak=.ok (.int .u32 ((q-1:Nat):Int)) (s.put mS p)∧p.length=N∧dC p∧(∀k,(k<j∨j+vs.length<k)→p.getD k 0=e.getD k 0)∧eG p j (vs.length+1)=U%val vs:=by
 have F:=kj;have V:=fun(S:ag) (k:bb)=>(bD.rd s).len (T:=a4) (G:=G) (X:=X) k S
 intro m
 induction m with
 |zero=>
  intro i db carry bN bO r J aW y hw;have Y:i=vs.length:=by omega
  subst Y;have h:¬((vs.length:Int)<(vs.length:Int)):=by omega
  have Z:db.getD (j+vs.length) 0=e.getD (j+vs.length) 0:=y _ (.inr (aC _));have dR:=fun(S:ag) (k:bb)=>hP (T:=a4) (G:=G) (X:=X) (s:=S) (k:=k) j vs.length (by omega)
  have H:=fun(k:bb)=>tn G X s mS j N gn vs n6 eU pf bD k9 da gC db bO (j+vs.length) (by omega) k
  have gq:=fun x (k:bb)=>yf G X (eU.put db) (j+vs.length) N x (by omega) (by omega) k
  simp -implicitDefEqProofs only[mb,re] at gq;have dI:=La q f8 (by omega);have I:(q-1)%4294967296=q-1:=g7 (by omega);have ab:carry%4294967296=carry:=g7 (by omega);rw[←rc,fJ e j vs.length (by omega)] at *;have key:=GY vs.length (eG db j vs.length) (db.getD (j+vs.length) 0+carry) (U%val vs) (by rw[fh,Z,ed _ carry];omega) (rb db j vs.length r) (Nat.lt_trans O (by have:=hG vs k9;exact this))
  refine⟨db.set (j+vs.length) ((db.getD (j+vs.length) 0+carry)%4294967296),?_,by simpa using bO,r.set _ _ (Nat.mod_lt _ (by decide)),fun k c3=>?_,?_⟩
  ·rw[sB,bE,bd,if_neg (by simp),Av,V,dR,H,c8,ab,Gg];simp -implicitDefEqProofs only[aO];rw[gq,c6,dI,c8,I,aI]
  ·exact(hb.getD_set_ne (by omega)).trans (y k (by omega))
  ·have ac:=fJ (db.set (j+vs.length) ((db.getD (j+vs.length) 0+carry)%4294967296)) j vs.length (by simp;omega);have ad:(db.set (j+vs.length) ((db.getD (j+vs.length) 0+carry)%4294967296)).getD (j+vs.length) 0=(db.getD (j+vs.length) 0+carry)%4294967296:=hb.fx (by omega);rw[ac,ad,q9 _ _ _ _ _ (aC _),key.1,key.2,←F,Nat.mod_self,Nat.mul_zero,Nat.add_zero]
 |succ m ae=>
  intro i db carry bN bO r J aW y hw;have h:(i:Int)<(vs.length:Int):=by omega
  have A:=Di db e vs j i carry (by omega) (by omega) k9 r aW (y _ (.inr (aC _))) (by omega) hw;simp -implicitDefEqProofs only[] at A;have cg:=r.getD (j+i);have M:=k9.getD i;rw[F] at cg M A;have dR:=fun(S:ag) (k:bb)=>hP (T:=a4) (G:=G) (X:=X) (s:=S) (k:=k) j i (by omega)
  have af:=fun S k=>q8 G X S k i (by omega)
  have H:=fun(k:bb)=>tn G X s mS j N gn vs n6 eU pf bD k9 da gC db bO (j+i) (by omega) k
  have ah:=fun(k:bb)=>(bD.rd (s.put mS db).ak).get (T:=a4) (G:=G) (X:=X) .i64 i (by omega) k
  have dY:=fun(S:ag) (k:bb)=>hE (T:=a4) (G:=G) (X:=X) (s:=S) (k:=k) (db.getD (j+i) 0) cg
  have ai:=fun(S:ag) (k:bb)=>hE (T:=a4) (G:=G) (X:=X) (s:=S) (k:=k) (vs.getD i 0) M
  have gq:=fun x (k:bb)=>yf G X (eU.put db) (j+i) N x (by omega) (by omega) k
  simp -implicitDefEqProofs only[mb,re] at gq;have dI:(db.getD (j+i) 0+vs.getD i 0)%18446744073709551616=db.getD (j+i) 0+vs.getD i 0:=g7 (by omega);have I:(db.getD (j+i) 0+vs.getD i 0+carry)%18446744073709551616=db.getD (j+i) 0+vs.getD i 0+carry:=g7 (by omega)
  have:=ae (i+1) (db.set (j+i) ((db.getD (j+i) 0+vs.getD i 0+carry)%4294967296)) ((db.getD (j+i) 0+vs.getD i 0+carry)/4294967296) (by omega) (by simpa using bO) A.2.2.1 J A.2.1 (fun k c3=>(hb.getD_set_ne (by omega)).trans (y k (by omega))) (by rw[F];exact A.2.2.2);refine Exists.imp (fun p ay=>⟨?_,ay.2⟩) this;rw[sB,bE,bd,if_pos (by simpa using h),Au,dR,H,dY,ah,ai,dq,dI,dq,I,dR,c8];simp -implicitDefEqProofs only[aO];rw[gq,cl,At,af];exact ay.1
theorem Bh(aG:0<vs.length)(Hb:dC gn)(ab:q<B)(ac:0<val vs)(aH:eG gn j (vs.length+1)/val vs≤q)(aJ:q≤eG gn j (vs.length+1)/val vs+1):∀(m i:Nat) (db:List Nat) (carry e:Nat),i+m=vs.length→db.length=N→dC db→carry<B→e≤1→(∀k,(k<j∨j+i≤k)→db.getD k 0=gn.getD k 0)→eG db j i+q*eG vs 0 i=eG gn j i+(carry+e)*B^i→
  ∃p,oB (a3 a4 G X) (.cD (.g s.aa mS) 0 N N 1) (.int .i64 (j:Int)) n6 (.int .u64 (q:Int)) (.int .u64 (carry:Int)) (.int .u64 (e:Int)) (.int .i64 (vs.length:Int)) (.int .i64 (i:Int)) (s.put mS db).ak=.ok (.int .u32 ((eG gn j (vs.length+1)/val vs:Nat):Int)) (s.put mS p)∧p.length=N∧dC p∧(∀k,(k<j∨j+vs.length<k)→p.getD k 0=gn.getD k 0)∧eG p j (vs.length+1)=eG gn j (vs.length+1)%val vs:=by
 have H:=kj;have U:=fun(S:ag) (k:bb)=>(bD.rd s).len (T:=a4) (G:=G) (X:=X) k S
 intro m
 induction m with
 |zero=>
  intro i db carry e bN bO I aW ad J hw;have ai:i=vs.length:=by omega
  subst ai;have h:¬((vs.length:Int)<(vs.length:Int)):=by omega
  have aj:db.getD (j+vs.length) 0=gn.getD (j+vs.length) 0:=J _ (.inr (aC _));have cg:=I.getD (j+vs.length);rw[H] at cg aW;have dR:=fun(S:ag) (k:bb)=>hP (T:=a4) (G:=G) (X:=X) (s:=S) (k:=k) j vs.length (by omega)
  have V:=fun(k:bb)=>tn G X s mS j N gn vs n6 eU pf bD k9 da gC db bO (j+vs.length) (by omega) k
  have dY:=fun(S:ag) (k:bb)=>hE (T:=a4) (G:=G) (X:=X) (s:=S) (k:=k) (db.getD (j+vs.length) 0) cg
  have gq:=fun x (k:bb)=>yf G X (eU.put db) (j+vs.length) N x (by omega) (by omega) k
  simp -implicitDefEqProofs only[mb,re] at gq;have cF:=wW (db.getD (j+vs.length) 0) carry e cg aW (by omega) (by omega);have Y:qH (qH (db.getD (j+vs.length) 0) carry) e=kC (kC (db.getD (j+vs.length) 0) carry) e:=rfl;rw[←rc] at hw;have al:=fJ gn j vs.length (by omega);have gs:∀x,eG (db.set (j+vs.length) x) j (vs.length+1)=eG db j vs.length+B^vs.length*x:=fun x=>by have an:=fJ (db.set (j+vs.length) x) j vs.length (by simp;omega);have ao:(db.set (j+vs.length) x).getD (j+vs.length) 0=x:=hb.fx (by omega);rw[an,ao,q9 _ _ _ _ _ (aC _)]
  have O:dC (db.set (j+vs.length) (kC (kC (db.getD (j+vs.length) 0) carry) e%4294967296)):=I.set _ _ (by rw[H];exact Nat.mod_lt _ (by decide));have ae:∀x k,(k<j∨j+vs.length<k)→(db.set (j+vs.length) x).getD k 0=gn.getD k 0:=fun x k c3=>(hb.getD_set_ne (by omega)).trans (J k (by omega))
  have pre:oB (a3 a4 G X) (.cD (.g s.aa mS) 0 N N 1) (.int .i64 (j:Int)) n6 (.int .u64 (q:Int)) (.int .u64 (carry:Int)) (.int .u64 (e:Int)) (.int .i64 (vs.length:Int)) (.int .i64 (vs.length:Int)) (s.put mS db).ak
    = (a3 a4 G X).bt (.bool (decide (((kC (kC (db.getD (j+vs.length) 0) carry) e/9223372036854775808:Nat):Int)=0))) ((a3 a4 G X).bT (s.put mS (db.set (j+vs.length) (kC (kC (db.getD (j+vs.length) 0) carry) e%4294967296))).ak (fun ap s=>(a3 a4 G X).bw false [some ap] s) .u32 (.int .u64 (q:Int)))
     (uK (a3 a4 G X) (.cD (.g s.aa mS) 0 N N 1) (.int .i64 (j:Int)) n6 (.int .u64 (q:Int)) (s.put mS (db.set (j+vs.length) (kC (kC (db.getD (j+vs.length) 0) carry) e%4294967296))).ak):=by
   rw[sC,bE,bd,if_neg (by simp),Ax,U,dR,V,dY,dr,dr,Y,U,dR,c8];simp -implicitDefEqProofs only[aO];rw[gq,cw,bB]
  rw[pre,bd];generalize kC (kC (db.getD (j+vs.length) 0) carry) e=t at *;have aK:=cF.2;generalize lq:t/9223372036854775808=A at *;generalize aL:t%4294967296=y at *;have M:eG db j vs.length+B^vs.length*y+q*val vs=eG gn j (vs.length+1)+A*B^(vs.length+1):=by
   rw[al,←aj];have k1:B^vs.length*(y+carry+e)=B^vs.length*(db.getD (j+vs.length) 0+B*A):=by rw[H,cF.1]
   have dI:B^vs.length*(y+carry+e)=B^vs.length*y+(carry+e)*B^vs.length:=by rw[Nat.add_assoc,fh,ed _ (carry+e)]
   have aq:B^vs.length*(db.getD (j+vs.length) 0+B*A)=B^vs.length*db.getD (j+vs.length) 0+A*B^(vs.length+1):=by rw[fh,Nat.pow_succ,←gr,ed _ A]
   rw[dI,aq] at k1;omega
  rw[←gs] at M;have aM:=Nat.div_add_mod (eG gn j (vs.length+1)) (val vs);have ar:=Nat.mod_lt (eG gn j (vs.length+1)) ac;have aN:=rb (db.set (j+vs.length) y) j (vs.length+1) O;by_cases Z:A=0
  ·have as:q*val vs≤eG gn j (vs.length+1):=by rw[Z] at M;omega
   have F:q=eG gn j (vs.length+1)/val vs:=by have:=(Nat.le_div_iff_mul_le ac).2 as;omega
   have au:q%4294967296=q:=g7 (by omega);refine⟨db.set (j+vs.length) y,?_,by simpa using bO,O,ae y,?_⟩
   ·rw[if_pos (by rw[Z];decide),c8,au,aI,←F]
   ·rw[Z,F,ed] at M;omega
  ·have af:A=1:=by omega
   rw[af,Nat.one_mul] at M;have F:q=eG gn j (vs.length+1)/val vs+1:=by
    have:¬q≤eG gn j (vs.length+1)/val vs:=fun hle=>by
     have aP:q*val vs≤eG gn j (vs.length+1):=by have:=fi (val vs) hle;rw[ed (eG gn j (vs.length+1)/val vs)] at this;omega
     omega
    omega
   have av:=Bg G X s mS j N q gn vs n6 eU pf bD k9 da gC (eG gn j (vs.length+1)) (db.set (j+vs.length) y) O (by rw[F];exact Nat.succ_pos _) ab ar (by rw[F,eL,Nat.one_mul,ed (eG gn j (vs.length+1)/val vs)] at M;omega) vs.length 0 (db.set (j+vs.length) y) 0 (by omega) (by simpa using bO) O (by simpa using bO) (by omega) (fun k _=>rfl) (by simp [wX])
   obtain⟨p,gZ,g9,aw,mh,n7⟩:=av;refine⟨p,?_,g9,aw,fun k c3=>(mh k c3).trans (ae y k c3),n7⟩;rw[if_neg (by rw[af];decide),Aw,U];have ax:q-1=eG gn j (vs.length+1)/val vs:=by rw[F];rfl
   rw[ax] at gZ;exact gZ
 |succ m az=>
  intro i db carry e bN bO I aW ad J hw;have h:(i:Int)<(vs.length:Int):=by omega
  have r:=Dh db gn vs j i q carry e ab (by omega) (by omega) k9 I aW ad (J _ (.inr (aC _))) (by omega) hw;simp -implicitDefEqProofs only[] at r;have cg:=I.getD (j+i);have ah:=k9.getD i;have dR:=fun(S:ag) (k:bb)=>hP (T:=a4) (G:=G) (X:=X) (s:=S) (k:=k) j i (by omega)
  have aA:=fun S k=>q8 G X S k i (by omega)
  have V:=fun(k:bb)=>tn G X s mS j N gn vs n6 eU pf bD k9 da gC db bO (j+i) (by omega) k
  have aB:=fun(k:bb)=>(bD.rd (s.put mS db).ak).get (T:=a4) (G:=G) (X:=X) .i64 i (by omega) k
  rw[H] at cg ah;have dY:=fun(S:ag) (k:bb)=>hE (T:=a4) (G:=G) (X:=X) (s:=S) (k:=k) (db.getD (j+i) 0) cg
  have aD:=fun(S:ag) (k:bb)=>hE (T:=a4) (G:=G) (X:=X) (s:=S) (k:=k) (vs.getD i 0) ah
  have gq:=fun x (k:bb)=>yf G X (eU.put db) (j+i) N x (by omega) (by omega) k
  simp -implicitDefEqProofs only[mb,re] at gq;have aE:q*vs.getD i 0%18446744073709551616=q*vs.getD i 0:=g7 (by have:=r.1;omega);have aF:(q*vs.getD i 0+carry)%18446744073709551616=q*vs.getD i 0+carry:=g7 r.1;have am:=fun(S:ag) (k:bb)=>Gh (T:=a4) (G:=G) (X:=X) (s:=S) (k:=k) (q*vs.getD i 0+carry) r.1
  have Y:∀a b c,qH (qH a b) c=kC (kC a b) c:=fun _ _ _=>rfl
  have:=az (i+1) _ _ _ (by omega) (by simpa using bO) r.2.2.2.2.1 r.2.1 r.2.2.1 (fun k c3=>(hb.getD_set_ne (by omega)).trans (J k (by omega))) r.2.2.2.2.2;refine Exists.imp (fun p ay=>⟨?_,ay.2⟩) this;have ch:=ay.1;rw[H] at ch;rw[sC,bE,bd,if_pos (by simpa using h),As,aB,aD,dA,aE,dq,aF,cl,dR,V,dY,am,dr,dr,Y,dR,c8];simp -implicitDefEqProofs only[aO];rw[gq,cw,Ar,aA];exact ch
end
end Go.f0
end
section
namespace Go.hb
theorem getD_eq{a b:List Nat}(bO:a.length=b.length)(k:Nat)(h:a.getD k 0=b.getD k 0):a[k]? =b[k]?:=by
 by_cases c3:k<a.length
 ·have e:k<b.length:=by omega
  simp only[List.getD,fB c3,fB e,Option.getD_some] at h;rw[fB c3,fB e,h]
 ·rw[List.getElem?_eq_none (by omega),List.getElem?_eq_none (by omega)]
theorem Bi{a b:List Nat}(bO:a.length=b.length)(j:Nat)(h:∀k,k<j→a.getD k 0=b.getD k 0):a.take j=b.take j:=by
 apply List.ext_getElem?;intro k;rw[List.getElem?_take,List.getElem?_take];split
 ·exact getD_eq bO k (h k (by assumption))
 ·rfl
theorem Bj{a b:List Nat}(bO:a.length=b.length)(j:Nat)(h:∀k,j≤k→a.getD k 0=b.getD k 0):a.drop j=b.drop j:=by apply List.ext_getElem?;intro k;rw[List.getElem?_drop,List.getElem?_drop];exact getD_eq bO _ (h _ (by omega))
theorem rf{db vs:List Nat}{j:Nat}(da:j+vs.length<db.length)(k9:dC vs)(p:val (db.drop (j+1))<val vs):
  val (db.drop (j+vs.length+1))=0∧eG db (j+1) vs.length<val vs∧eG db j (vs.length+1)=db.getD j 0+B*eG db (j+1) vs.length:=by
 have ar:=ra db (j+1) vs.length (by omega);have ay:=hG vs k9;have eU:val (db.drop (j+1+vs.length))=0:=by
  rcases Nat.eq_zero_or_pos (val (db.drop (j+1+vs.length))) with h|h
  ·exact h
  ·have:B^vs.length*1≤B^vs.length*val (db.drop (j+1+vs.length)):=Nat.mul_le_mul_left _ h;omega
 have e:j+vs.length+1=j+1+vs.length:=by omega
 refine⟨by rw[e];exact eU,by omega,?_⟩;have ch:=ra db j (vs.length+1) (by omega);have dk:=lO db j (by omega);rw[show j+(vs.length+1)=j+1+vs.length by omega,eU] at ch;rw[eU,Nat.mul_zero,Nat.add_zero] at ar;rw[Nat.mul_zero,Nat.add_zero,dk,ar] at ch;exact ch.symm
theorem Ry{db vs:List Nat}{j:Nat}(da:j+vs.length<db.length)(k9:dC vs)(df:0<vs.length)(p:val (db.drop (j+1))<val vs):db.getD (j+vs.length) 0≤vs.getD (vs.length-1) 0:=by
 obtain⟨_,ay,_⟩:=rf da k9 p;have ch:=fJ db (j+1) (vs.length-1) (by omega);have dk:=fJ vs 0 (vs.length-1) (by omega);have y:=rb vs 0 (vs.length-1) k9;have e:vs.length-1+1=vs.length:=by omega
 rw[e] at ch dk;rw[←rc] at dk;rw[show j+1+(vs.length-1)=j+vs.length by omega] at ch;rw[bc] at dk;by_cases h:db.getD (j+vs.length) 0≤vs.getD (vs.length-1) 0
 ·exact h
 ·have q:vs.getD (vs.length-1) 0+1≤db.getD (j+vs.length) 0:=by omega
  have r:=Nat.mul_le_mul_left (B^(vs.length-1)) q;rw[fh,Nat.mul_one] at r;omega
theorem Lc{db vs:List Nat}{j q:Nat}(da:j+vs.length<db.length)(e:dC db)(k9:dC vs)(df:2≤vs.length)(h:B≤2*vs.getD (vs.length-1) 0)(p:val (db.drop (j+1))<val vs)(f8:q<B)
  (ar:q*(vs.getD (vs.length-1) 0*B+vs.getD (vs.length-2) 0)≤db.getD (j+vs.length) 0*B*B+db.getD (j+vs.length-1) 0*B+db.getD (j+vs.length-2) 0)
  (ay:∀pv,pv<B→pv*(vs.getD (vs.length-1) 0*B+vs.getD (vs.length-2) 0)≤db.getD (j+vs.length) 0*B*B+db.getD (j+vs.length-1) 0*B+db.getD (j+vs.length-2) 0→pv≤q):
  eG db j (vs.length+1)/val vs≤q∧q≤eG db j (vs.length+1)/val vs+1:=by
 obtain⟨m,hm⟩:∃m,vs.length=m+2:=⟨vs.length-2,by omega⟩;obtain⟨_,t2,t3⟩:=rf da k9 p;refine Ba (eG db j (vs.length+1)) (val vs) q m (eG db j m) (eG vs 0 m) _ _ _ _ _ ?_ ?_ (rb _ _ _ e) (rb _ _ _ k9) h f8 ar ay ?_
 ·rw[hm,fJ db j (m+2) (by omega),fJ db j (m+1) (by omega),fJ db j m (by omega),show B^(m+2)=B^m*B*B by rw[Nat.pow_succ,Nat.pow_succ],show B^(m+1)=B^m*B from Nat.pow_succ ..,show j+(m+2)-1=j+(m+1) by omega,show j+(m+2)-2=j+m by omega];generalize db.getD (j+(m+2)) 0=a;generalize db.getD (j+(m+1)) 0=b;generalize db.getD (j+m) 0=c;generalize B^m=P;rw[eL,eL];have dI:P*B*B*a=a*B*B*P:=by ac_rfl
  have r:P*B*b=b*B*P:=by ac_rfl
  have y:P*c=c*P:=ed _ _;omega
 ·have:=rc vs;rw[hm] at this ⊢;rw[this,fJ vs 0 (m+1) (by omega),fJ vs 0 m (by omega),Nat.pow_succ,bc,bc,show m+2-1=m+1 by omega,show m+2-2=m by omega,eL];generalize vs.getD (m+1) 0=b;generalize vs.getD m 0=c;generalize B^m=P;have r:P*B*b=b*B*P:=by ac_rfl
  have y:P*c=c*P:=ed _ _;omega
 ·rw[t3];have ch:=e.getD j;have dk:=Nat.mul_le_mul_left B t2;rw[Nat.succ_eq_add_one,fh,Nat.mul_one] at dk;omega
theorem Dl(T P C D W q V r:Nat)(hm:V*q+r=W):T+P*r+P*((q+C*D)*V)=T+P*W+P*C*(D*V):=by subst hm;rw[eL,fh,fh,ed q V,gr P C,gr C D];omega
theorem Rz{db vs:List Nat}{j:Nat}(da:j+vs.length<db.length)(e:dC db)(k9:dC vs)(h:val (db.drop (j+1))<val vs):eG db j (vs.length+1)/val vs<B:=by
 obtain⟨t1,t2,t3⟩:=rf da k9 h;have p:0<val vs:=by omega
 rw[Nat.div_lt_iff_lt_mul p,t3];have ch:=e.getD j;have dk:=Nat.mul_le_mul_left B t2;rw[Nat.succ_eq_add_one,fh,Nat.mul_one] at dk;omega
theorem GZ{db e os vs:List Nat}{U0 j:Nat}(bO:e.length=db.length)(da:j+vs.length<db.length)(r:dC db)(k9:dC vs)(h:j<os.length)
  (hinv:val db+B^(j+1)*(val (os.drop (j+1))*val vs)=U0)(p:val (db.drop (j+1))<val vs)
  (q:∀k,(k<j∨j+vs.length<k)→e.getD k 0=db.getD k 0)(hw:eG e j (vs.length+1)=eG db j (vs.length+1)%val vs):
  eG db j (vs.length+1)/val vs<B∧val e+B^j*(val ((os.set j (eG db j (vs.length+1)/val vs)).drop j)*val vs)=U0∧val (e.drop j)<val vs:=by
 obtain⟨t1,t2,t3⟩:=rf da k9 p;have y:0<val vs:=by omega
 have f8:=Rz da r k9 p;have A:e.drop (j+vs.length+1)=db.drop (j+vs.length+1):=Bj bO _ (fun k c3=>q k (by omega));have F:e.take j=db.take j:=Bi bO _ (fun k c3=>q k (by omega));have d1:=ra db j (vs.length+1) (by omega);have d2:=ra e j (vs.length+1) (by omega);rw[show j+(vs.length+1)=j+vs.length+1 by omega] at d1 d2;rw[A,t1,hw] at d2;rw[t1] at d1;have s1:=kB db j (by omega);have s2:=kB e j (by omega);rw[F] at s2;have hm:=Nat.div_add_mod (eG db j (vs.length+1)) (val vs);have gR:=lO (os.set j (eG db j (vs.length+1)/val vs)) j (by simpa using h);rw[fx h,q6 (i:=j+1) (j:=j) (by omega)] at gR;generalize eG db j (vs.length+1)=W at *;refine⟨f8,?_,by rw[d2,Nat.mul_zero,Nat.add_zero];exact Nat.mod_lt W y⟩;rw[Nat.mul_zero,Nat.add_zero] at d1 d2;rw[gR,←hinv,s2,s1,d1,d2,Nat.pow_succ];exact Dl _ _ _ _ _ _ _ _ hm
theorem G0{b vs:List Nat}{c:Nat}(mM:dC b)(O:eM b)(y:b≠[])(k9:dC vs)(A:eM vs)(bD:val vs=val b*2^c)(ar:2147483648≤b.getD (b.length-1) 0*2^c)(ay:b.getD (b.length-1) 0*2^c<4294967296):
  vs.length=b.length∧B≤2*vs.getD (vs.length-1) 0:=by
 have bO:0<b.length:=List.length_pos_iff.2 y;have F:=Nat.two_pow_pos c;have e:=val_succ b (b.length-1) (by omega);rw[show b.length-1+1=b.length by omega,List.take_length] at e;have H:=hG (b.take (b.length-1)) (mM.take _);rw[show(b.take (b.length-1)).length=b.length-1 by simp] at H;have I:B=4294967296:=rfl;have U:2^c≤2147483648*2:=by
  by_cases h:b.getD (b.length-1) 0=0
  ·rw[h] at ar;omega
  ·have:=fi (2^c) (show 1≤b.getD (b.length-1) 0 by omega);omega
 have J:val vs<B^b.length:=by
  rw[bD,e,show B^b.length=B^(b.length-1)*B by rw[←Nat.pow_succ];congr 1;omega];have dR:(b.getD (b.length-1) 0+1)*2^c≤B:=by
   have V:c≤32:=by
    by_cases aW:c≤32
    ·exact aW
    ·have:2^33≤2^c:=Nat.pow_le_pow_right (by omega) (by omega);omega
   have p:B=2^(32-c)*2^c:=by rw[←Nat.pow_add,sJ];congr 1;omega
   have:b.getD (b.length-1) 0<2^(32-c):=by rw[←I,p] at ay;exact Nat.lt_of_mul_lt_mul_right ay
   rw[p];exact fi _ this
  have M:(val (b.take (b.length-1))+B^(b.length-1)*b.getD (b.length-1) 0)*2^c<B^(b.length-1)*((b.getD (b.length-1) 0+1)*2^c):=by rw[←gr];apply Nat.mul_lt_mul_of_pos_right _ F;rw[fh,Nat.mul_one];omega
  exact fL M (Nat.mul_le_mul_left _ dR)
 have N:B^(b.length-1)*2147483648≤val vs:=by
  rw[bD,e,eL,gr]
  have:=Nat.mul_le_mul_left (B^(b.length-1)) ar;omega
 have Y:=Nat.pow_pos (n:=b.length-1) gO;have e6:vs≠[]:=fun h=>by subst h;simp [val] at N;omega
 have Z:vs.length≤b.length:=pJ A J;have aa:b.length≤vs.length:=by
  have ab:=hG vs k9;by_cases h:b.length≤vs.length
  ·exact h
  ·have:B^vs.length≤B^(b.length-1):=nN (by omega);omega
 have hlen:vs.length=b.length:=by omega
 refine⟨hlen,?_⟩;have q:=val_succ vs (vs.length-1) (by omega);rw[show vs.length-1+1=vs.length by omega,List.take_length] at q;have r:=hG (vs.take (vs.length-1)) (k9.take _);rw[show(vs.take (vs.length-1)).length=vs.length-1 by simp] at r;rw[hlen] at q r ⊢;by_cases h:B≤2*vs.getD (b.length-1) 0
 ·exact h
 ·have ch:vs.getD (b.length-1) 0+1≤2147483648:=by omega
  have dk:=Nat.mul_le_mul_left (B^(b.length-1)) ch;rw[fh,Nat.mul_one] at dk;omega
theorem G1{a b db:List Nat}{c V:Nat}(mj:dC a)(h:eM b)(e:b≠[])(p:dC db)(hle:b.length≤a.length)(bO:db.length=a.length+1)(hu:val db=val a*2^c)(q:V=val b*2^c):val (db.drop (a.length-b.length+1))<V:=by have r:0<b.length:=List.length_pos_iff.2 e;rw[←wY db _ p (by omega),Nat.div_lt_iff_lt_mul (Nat.pow_pos gO),hu,q];have ar:=hG a mj;have ay:=oR b h e;have ch:=fi (B^(a.length-b.length+1)) ay;rw[←Nat.pow_add,show b.length-1+(a.length-b.length+1)=a.length by omega] at ch;rw[gr,ed (2^c),←gr];exact Nat.mul_lt_mul_of_pos_right (fL ar ch) (Nat.two_pow_pos c)
end Go.hb
end
section
namespace Go.f0
open Go.Ab Go.hb
variable(G:Nat→ae)(X:Nat→List ae→ag→ah)
theorem Ld(s:ag)(mS j N q:Nat)(gn vs:List Nat)(n6:ae)(eU:gz s mS gn)(pf:gn.length=N)(bD:je n6 vs)(k9:dC vs)(da:j+vs.length<N)(gC:N<4294967296)(h:0<vs.length)(Hb:dC gn)(p:q<B)(r:0<val vs)(y:eG gn j (vs.length+1)/val vs≤q)(A:q≤eG gn j (vs.length+1)/val vs+1):
  ∃e,aX a4 G X 138 [.cD (.g s.aa mS) 0 N N 1,.int .i64 (j:Int),n6,.int .u64 (q:Int)] s=.ok (.int .u32 ((eG gn j (vs.length+1)/val vs:Nat):Int)) (s.put mS e)∧e.length=N∧dC e∧(∀k,(k<j∨j+vs.length<k)→e.getD k 0=gn.getD k 0)∧eG e j (vs.length+1)=eG gn j (vs.length+1)%val vs:=by
 rw[C4,KR,(bD.rd s).len]
 have:=Bh G X s mS j N q gn vs n6 eU pf bD k9 da gC h Hb p r y A vs.length 0 gn 0 0 (by omega) pf Hb gO (by omega) (fun _ _=>rfl) (by simp [wX]);rw[Gj eU] at this;exact this
theorem Bk(s:ag)(c U0 N M mS e:Nat)(n6:ae)(vs:List Nat)(bD:je n6 vs)(k9:dC vs)(df:2≤vs.length)(U:B≤2*vs.getD (vs.length-1) 0)(aw:N=M-1+vs.length+1)(ax:0<M)(gC:N<4294967296)(e6:mS≠e)(aW:c<4294967296):
  ∀(m k:Nat) (db os:List Nat) (S:ag),k+m=M→Child s S→gz S mS db→gz S e os→db.length=N→os.length=M→dC db→dC os→val db+B^m*(val (os.drop m)*val vs)=U0→val (db.drop m)<val vs→
  ∃v w q r,q1 (a3 a4 G X) (.int .i64 (c:Int)) n6 (.cD (.l mS) 0 N N 1) (.cD (.l e) 0 M M 1) (.int .i64 (M:Int)) (.int .i64 (k:Int)) S=.ok (.d7 [v,w]) s∧je v q∧dC q∧eM q∧je w r∧dC r∧eM r∧val q=U0/val vs∧val r=U0%val vs/2^c:=by
 intro m
 induction m with
 |zero=>
  intro k db os S c3 I hu F lu fW y J hinv p;have h:¬((k:Int)<(M:Int)):=by omega
  have A:=hu.rd N N (by omega) (aC _);rw[jC (by omega)] at A;have ad:=ma G X S _ db A (by omega);have V:=A.cut (gP db db.length) (i9 _ _);obtain⟨w,r,lost,af,Y,ah,ai,LU⟩:=K9 G X S _ (db.take (gP db db.length)) c V (y.take _) aW (by have:=i9 db db.length;simp;omega);obtain⟨v,aj,ch⟩:∃v,je v (fS os)∧(a3 a4 G X).cn S (fun v s=>(a3 a4 G X).bw false [some v,some w] s) 135 [.cD (.g S.aa e) 0 M M 1]=.ok (.d7 [v,w]) s:=by
   have aJ:=F.rd M M (by omega) (aC _);rw[jC (by omega)] at aJ;rw[bx (ma G X S _ os aJ (by omega))];have hle:=i9 os os.length;obtain⟨v,ar,ay⟩:=mA (S:=S) (j:=e) (off:=0) (cap:=M) (fS os) (n:=gP os os.length) (h0 os).symm F (by rw[bV,h0];simp [fS,List.map_take]) (by rw[h0];simpa using hle)
   exact⟨v,ay,l7 I _ _ _ _ ar (Y.freeze S)⟩
  rw[Nat.pow_zero,Nat.one_mul,bV] at hinv;rw[bV] at p;have O:0<val vs:=by omega
  have ak:val (db.take (gP db db.length))=val db:=jO db;refine⟨v,w,fS os,r,?_,aj,k5 J,iR os,Y,ah,ai,?_,?_⟩
  ·rw[sF,bE,bd,if_neg (by simpa using h),AJ,ia,bx ad,V.aq,aO,bx af,gd 0 _ w rfl,gd 1 _ _ rfl,ia];exact ch
  ·rw[jO,←hinv,Nat.add_mul_div_right _ _ O,Nat.div_eq_of_lt p,bc]
  ·rw[LU,ak,←hinv,Nat.add_mul_mod_self_right,g7 p]
 |succ m al=>
  intro k db os S c3 I hu F lu fW y J hinv p;have h:(k:Int)<(M:Int):=by omega
  have da:m+vs.length<db.length:=by omega
  have A:=hu.rd N N (by omega) (aC _);rw[jC (by omega)] at A;obtain⟨am,an,he⟩:=Lb G X S _ n6 db vs m A (bD.rd S) y k9 df da (by omega) U (Ry da k9 (by omega) p);have Z:=Lc da y k9 df U p he.lt he.le he.max;have O:0<val vs:=by omega
  obtain⟨H,ao,ap,as,au,hw⟩:=Ld G X S mS m N am db vs n6 hu lu bD k9 (by omega) gC (by omega) y he.lt O Z.1 Z.2;obtain⟨d1,d2,d3⟩:=GZ (U0:=U0) (j:=m) (os:=os) (by omega) da y k9 (by omega) hinv p au hw;have ab:gz (S.put mS H) e os:=F.DN e6 _;have gq:=fun x (k:bb)=>ab.gq (T:=a4) (G:=G) (X:=X) m M M x (by omega) (by omega) k
  have dR:=fun(S:ag) (k:bb)=>jt (T:=a4) (G:=G) (X:=X) (s:=S) (k:=k) M (by omega) (by omega)
  have ac:=fun(S:ag) (lk:bb)=>mz (T:=a4) (G:=G) (X:=X) (s:=S) (k:=lk) (M-1) k (by omega) (by omega)
  have av:=fun(S:ag) (lk:bb)=>k4 (T:=a4) (G:=G) (X:=X) (s:=S) (k:=lk) k (by omega)
  rw[show M-1-k=m by omega] at ac
  have:=al (k+1) H _ _ (by omega) ((I.put mS H).put e _) ((hu.put H).DN (Ne.symm e6) _) (ab.put (os.set m (eG db m (vs.length+1)/val vs))) ap (by simpa using fW) as (J.set _ _ d1) d2 d3;refine Exists.imp (fun v ar=>Exists.imp (fun w ay=>Exists.imp (fun q ch=>Exists.imp (fun r dk=>⟨?_,dk.2⟩) ch) ay) ar) this;rw[sF,bE,bd,if_pos (by simpa using h),AI,aM,dR,ac,ia,aO,bD.aq,bx an];simp -implicitDefEqProofs only[aO,ia,bD.aq];rw[ta ao (mb _ _ _)];simp -implicitDefEqProofs only[aO];rw[gq,AH,av];exact dk.1
theorem Le(s:ag)(kZ wt:ae)(a b:List Nat)(p:je kZ a)(A:je wt b)(mj:dC a)(mM:dC b)(aa:eM a)(F:eM b)(H:b≠[])(gC:a.length<2147483648)(aY:b.length<2147483648):
  ∃v w q r,aX a4 G X 114 [kZ,wt] s=.ok (.d7 [v,w]) s∧je v q∧dC q∧eM q∧je w r∧dC r∧eM r∧val q=val a/val b∧val r=val a%val b:=by
 have ab:=Child.ak s;have a0:0<b.length:=List.length_pos_iff.2 H;have aj:=K3 G X s.ak kZ wt a b (p.rd _) (A.rd _) mj mM aa F (by omega) (by omega);have ac:=fun(S:ag) (k:bb)=>(p.rd S).len (T:=a4) (G:=G) (X:=X) k S
 have O:=fun(S:ag) (k:bb)=>(A.rd S).len (T:=a4) (G:=G) (X:=X) k S
 rw[C9,KW,p.aq,A.aq,bx aj];by_cases I:val a<val b
 ·refine⟨.cm 1 [] .nil,kZ,[],a,?_,je.nil,(fun x (h:x∈[])=>absurd h ps:dC []),(fun h=>absurd rfl h:eM []),p,mj,aa,?_,?_⟩
  ·have:oF (val a) (val b)<0:=by simp [oF,I]
   rw[bE,bd,if_pos (by simpa using this)];exact l7 ab _ _ _ _ rfl (p.freeze _)
  ·rw[Nat.div_eq_of_lt I];rfl
  ·rw[g7 I]
 have hle:val b≤val a:=Nat.not_lt.1 I;have hlen:b.length≤a.length:=by
  by_cases h:b.length≤a.length
  ·exact h
  ·have:=ni mj F (Nat.not_le.1 h);omega
 have al:¬oF (val a) (val b)<0:=by simp -implicitDefEqProofs only[oF,if_neg I];split<;> decide
 rw[bE,bd,if_neg (by simpa using al),AL,O,bB,bd];by_cases ar:b.length=1
 ·rw[if_pos (by simp [ar])];have V:=fun(k:bb)=>(A.rd s.ak).get (T:=a4) (G:=G) (X:=X) .i64 0 (by omega) k
  have Y:val b=b.getD 0 0:=by
   match b,ar with
   |[x],_=>simp [val]
  have cF:b.getD 0 0≠0:=by rw[←Y];intro e;exact H ((sI F).1 e)
  have ad:=mM.getD 0;obtain⟨v,q,am,J,ao,ap,as⟩:=K6 G X s.ak kZ a (b.getD 0 0) (p.rd _) mj cF ad (by omega);have an:=je.eB [val a%b.getD 0 0];have au:=ma G X s.ak _ _ (an.rd s.ak) (by simp);have av:val a%b.getD 0 0<B:=Nat.lt_trans (Nat.mod_lt _ (by omega)) ad;have or:dC [val a%b.getD 0 0]:=fun x aZ=>by rw[List.mem_singleton.1 aZ];exact av
  refine⟨v,_,q,fS [val a%b.getD 0 0],?_,J,ao,ap,an.cut _,k5 or,iR _,by rw[as,Y],by rw[jO,Y];simp [val]⟩;refine(V _).trans ?_;rw[p.aq,aO,bx am,gd 0 _ v rfl,gd 1 _ _ rfl];have eB:=fun(k:bb)=>ss (T:=a4) (G:=G) (X:=X) (s:=s.ak) (k:=k) [val a%b.getD 0 0]
  refine(eB _).trans ?_;rw[an.aq,bx au];exact l7 ab _ _ _ _ (J.freeze _) ((an.cut _).freeze _)
 ·rw[if_neg (by simp;omega),AK];have V:=fun(k:bb)=>(A.rd s.ak).get (T:=a4) (G:=G) (X:=X) .i64 (b.length-1) (by omega) k
  have dR:=fun(S:ag) (k:bb)=>jt (T:=a4) (G:=G) (X:=X) (s:=S) (k:=k) b.length (by omega) (by omega)
  have a1:=kj;have cg:=mM.getD (b.length-1);have li:=F H;obtain⟨c,aw,dY,ax,ay⟩:=K5 G X s.ak (b.getD (b.length-1) 0) (by omega) li;obtain⟨n6,vs,az,J,k9,aA,M⟩:=AZ G X s.ak wt b c (A.rd _) mM (by omega) (by omega);obtain⟨a2,fy⟩:=G0 mM F H k9 aA M ax ay;have aB:=fun S k=>q8 G X S k a.length (by omega)
  have aD:=fun(S:ag) (k:bb)=>mz (T:=a4) (G:=G) (X:=X) (s:=S) (k:=k) a.length b.length hlen (by omega)
  have aE:=fun S k=>q8 G X S k (a.length-b.length) (by omega)
  have aF:=fun(S:ag) (k:bb)=>oP (T:=a4) (G:=G) (X:=X) (s:=S) (k:=k) (U 0) 4 (a.length+1) (a.length+1) (aC _) (by omega)
  have aG:=fun(S:ag) (k:bb)=>oP (T:=a4) (G:=G) (X:=X) (s:=S) (k:=k) (U 0) 4 (a.length-b.length+1) (a.length-b.length+1) (aC _) (by omega)
  let y:=s.ak.new (.cells (List.replicate (a.length+1) (U 0)))
  have A1:gz y s.ak.own.length (List.replicate (a.length+1) 0):=gz.make _ _;obtain⟨a3,Z,aH,rE,aI,aJ,el⟩:=AZ G X y kZ a c (p.rd _) mj (by omega) (by omega);have aK:Z.length≤a.length+1:=by
   apply pJ aJ;rw[el,Nat.pow_succ];have aL:=hG a mj;have aN:2^c≤B:=by have:2^c≤2^32:=Nat.pow_le_pow_right (by omega) (by omega);rw[sJ];exact this
   exact fL (Nat.mul_lt_mul_of_pos_right aL (Nat.two_pow_pos c)) (Nat.mul_le_mul_left _ aN)
  let db:=Z++(List.replicate (a.length+1) 0).drop Z.length
  have af:db.length=a.length+1:=by simp [db];omega
  have ah:val db=val a*2^c:=by simp -implicitDefEqProofs only[db,mD,List.drop_replicate,AT,Nat.mul_zero,Nat.add_zero,el]
  have ai:dC db:=fun x aZ=>by
   rcases List.mem_append.1 aZ with h|h
   ·exact aI x h
   ·exact oE _ x (List.mem_of_mem_drop h)
  have aP:=fun(k:bb)=>A1.copy (T:=a4) (G:=G) (X:=X) (n:=a.length+1) (rE.rd y) (by simpa using aK) (by simp) k
  have A2:gz (y.put s.ak.own.length db) s.ak.own.length db:=A1.put db
  let N:=(y.put s.ak.own.length db).new (.cells (List.replicate (a.length-b.length+1) (U 0)))
  have A3:gz N s.ak.own.length db:=A2.new _;have A4:gz N (y.put s.ak.own.length db).own.length (List.replicate (a.length-b.length+1) 0):=gz.make _ _;have aQ:Child s N:=(((Child.ak s).new _).put _ _).new _;have e6:s.ak.own.length≠(y.put s.ak.own.length db).own.length:=by have:=A2.lt;omega
  have aR:=Bk G X s c (val a*2^c) (a.length+1) (a.length-b.length+1) s.ak.own.length (y.put s.ak.own.length db).own.length n6 vs J k9 (by omega) fy (by omega) (by omega) (by omega) e6 (by omega) (a.length-b.length+1) 0 db _ N (by omega) aQ A3 A4 af (by simp) ai (oE _)
   (by rw[ah,n0 (by simp)];simp [val]) (G1 mj F H ai hlen af ah M)
  obtain⟨v,w,q,r,gZ,g9,aS,mh,n7,aT,aU,aV,aW⟩:=aR;refine⟨v,w,q,r,?_,g9,aS,mh,n7,aT,aU,?_,?_⟩
  ·rw[O,dR];refine(V _).trans ?_;rw[aO,bx aw,A.aq,aO,bx az,ac,aB];refine(aF _ _).trans ?_;rw[p.aq];refine(bx aH).trans ?_;refine(aP _).trans ?_;rw[ac,O,aD,aE];refine(aG _ _).trans ?_;rw[aM];exact gZ
  ·rw[aV,M,Nat.mul_div_mul_right _ _ (Nat.two_pow_pos c)]
  ·rw[aW,M,Nat.mul_mod_mul_right,Nat.mul_div_cancel _ (Nat.two_pow_pos c)]
def ic(neg:Bool)(l:List Nat):Bool:=if l.length=0 then !neg else decide (l.length≤128)&&decide (l.getD (l.length-1) 0≠0)
abbrev mc(neg:Bool)(v:ae):ae:=.agg [.bool neg,v]
theorem to(s:ag)(neg:Bool)(v:ae)(l:List Nat)(h:je v l)(p:l.length<9223372036854775807):aX a4 G X 87 [mc neg v] s=.ok (.bool (ic neg l)) s:=by
 have q:=Child.ak s;have e:=fun(S:ag) (k:bb)=>(h.rd S).len (T:=a4) (G:=G) (X:=X) k S
 rw[Gw,Q7];by_cases eU:l.length=0
 ·have nY:(l.length:Int)=0:=by omega
  simp -implicitDefEqProofs only[↓cx,↓cy,↓bH,↓bd,↓ax,↓az,↓av,↓aA,↓aF,↓aG,↓aw,↓aB,↓aU,↓aM,↓aP,↓bf,↓dG,↓aL,↓bl,↓bP,↓cR,↓bW,↓bX,↓bQ,↓bY,↓bZ,↓b0,↓b1,↓b2,↓b3,↓bn,↓bo,↓bp,↓cS,↓cT,↓cU,↓cV,↓cW,↓cX,↓cY,↓cZ,↓c0,↓b4,↓b5,↓b6,↓bB,↓cK,↓bE,↓c1,↓bJ,↓cv,↓cJ,↓c2,↓aQ,↓aH,↓aR,↓aI,↓aD,↓aS,↓cH,↓bR,↓bS,↓b7,↓b8,↓b9,↓ca,↓cb,↓cc,↓cd,↓cf,↓dq,↓dr,↓c6,↓dA,↓ck,↓cl,↓cw,↓c8,bV,dJ,cj,decide_eq_false_iff_not,ite_not,↓reduceIte,a2,aO,a0,bq,bc,bM,cr,Nat.reduceAdd,bA,↓a9,Nat.reduceLeDiff,aC,cN,cQ,dx,du,bL,↓e,eq_true nY,ic,if_pos eU]
 ·have nY:¬(l.length:Int)=0:=by omega
  by_cases ar:l.length≤128
  ·have dI:(l.length:Int)≤128:=by omega
   have g:=fun(k:bb)=>(h.rd s.ak).get (T:=a4) (G:=G) (X:=X) .i64 (l.length-1) (by omega) k
   have dR:=fun(S:ag) (k:bb)=>jt (T:=a4) (G:=G) (X:=X) (s:=S) (k:=k) l.length (by omega) (by omega)
   simp -implicitDefEqProofs only[↓cx,↓cy,↓bH,↓bd,↓ax,↓az,↓av,↓aA,↓aF,↓aG,↓aw,↓aB,↓aU,↓aM,↓aP,↓bf,↓dG,↓aL,↓bl,↓bP,↓cR,↓bW,↓bX,↓bQ,↓bY,↓bZ,↓b0,↓b1,↓b2,↓b3,↓bn,↓bo,↓bp,↓cS,↓cT,↓cU,↓cV,↓cW,↓cX,↓cY,↓cZ,↓c0,↓b4,↓b5,↓b6,↓bB,↓cK,↓bE,↓c1,↓bJ,↓cv,↓cJ,↓c2,↓aQ,↓aH,↓aR,↓aI,↓aD,↓aS,↓cH,↓bR,↓bS,↓b7,↓b8,↓b9,↓ca,↓cb,↓cc,↓cd,↓cf,↓dq,↓dr,↓c6,↓dA,↓ck,↓cl,↓cw,↓c8,bV,dJ,cj,decide_eq_false_iff_not,ite_not,↓reduceIte,a2,aO,a0,bq,bc,bM,cr,Nat.reduceAdd,bA,↓a9,Nat.reduceLeDiff,aC,cN,cQ,dx,du,bL,↓e,eq_false nY,uV,eq_true dI,↓dR,↓g,ic,if_neg eU,eJ ar,eT];congr 3;simp -implicitDefEqProofs only[ne_eq,eq_iff_iff];omega
  ·have dI:¬(l.length:Int)≤128:=by omega
   simp -implicitDefEqProofs only[↓cx,↓cy,↓bH,↓bd,↓ax,↓az,↓av,↓aA,↓aF,↓aG,↓aw,↓aB,↓aU,↓aM,↓aP,↓bf,↓dG,↓aL,↓bl,↓bP,↓cR,↓bW,↓bX,↓bQ,↓bY,↓bZ,↓b0,↓b1,↓b2,↓b3,↓bn,↓bo,↓bp,↓cS,↓cT,↓cU,↓cV,↓cW,↓cX,↓cY,↓cZ,↓c0,↓b4,↓b5,↓b6,↓bB,↓cK,↓bE,↓c1,↓bJ,↓cv,↓cJ,↓c2,↓aQ,↓aH,↓aR,↓aI,↓aD,↓aS,↓cH,↓bR,↓bS,↓b7,↓b8,↓b9,↓ca,↓cb,↓cc,↓cd,↓cf,↓dq,↓dr,↓c6,↓dA,↓ck,↓cl,↓cw,↓c8,bV,dJ,cj,decide_eq_false_iff_not,ite_not,↓reduceIte,a2,aO,a0,bq,bc,bM,cr,Nat.reduceAdd,bA,↓a9,Nat.reduceLeDiff,aC,cN,cQ,dx,du,bL,↓e,eq_false nY,uV,eq_false dI,ic,if_neg eU,dT ar,fK]
theorem Lf(s:ag)(ku q:Bool)(v1 v2:ae)(h p:List Nat)(ar:je v1 h)(ay:je v2 p)(eW:h.length<9223372036854775807)(r:p.length<9223372036854775807):aX a4 G X 113 [mc ku v1,mc q v2] s=.ok (.bool (ic ku h&&ic q p)) s:=by
 rw[C8,KV];have dY:=to G X s.ak ku v1 h ar eW;have y:=to G X s.ak q v2 p ay r;cases e:ic ku h with
 |false=>rw[e] at dY;simp -implicitDefEqProofs only[↓cx,↓cy,↓bH,↓bd,↓ax,↓az,↓av,↓aA,↓aF,↓aG,↓aw,↓aB,↓aU,↓aM,↓aP,↓bf,↓dG,↓aL,↓bl,↓bP,↓cR,↓bW,↓bX,↓bQ,↓bY,↓bZ,↓b0,↓b1,↓b2,↓b3,↓bn,↓bo,↓bp,↓cS,↓cT,↓cU,↓cV,↓cW,↓cX,↓cY,↓cZ,↓c0,↓b4,↓b5,↓b6,↓bB,↓cK,↓bE,↓c1,↓bJ,↓cv,↓cJ,↓c2,↓aQ,↓aH,↓aR,↓aI,↓aD,↓aS,↓cH,↓bR,↓bS,↓b7,↓b8,↓b9,↓ca,↓cb,↓cc,↓cd,↓cf,↓dq,↓dr,↓c6,↓dA,↓ck,↓cl,↓cw,↓c8,bV,dJ,cj,decide_eq_false_iff_not,ite_not,↓reduceIte,a2,aO,a0,bq,bc,bM,cr,Nat.reduceAdd,bA,↓a9,Nat.reduceLeDiff,aC,cN,cQ,dx,du,bL,↓(bx dY),fK]
 |true=>rw[e] at dY;simp -implicitDefEqProofs only[↓cx,↓cy,↓bH,↓bd,↓ax,↓az,↓av,↓aA,↓aF,↓aG,↓aw,↓aB,↓aU,↓aM,↓aP,↓bf,↓dG,↓aL,↓bl,↓bP,↓cR,↓bW,↓bX,↓bQ,↓bY,↓bZ,↓b0,↓b1,↓b2,↓b3,↓bn,↓bo,↓bp,↓cS,↓cT,↓cU,↓cV,↓cW,↓cX,↓cY,↓cZ,↓c0,↓b4,↓b5,↓b6,↓bB,↓cK,↓bE,↓c1,↓bJ,↓cv,↓cJ,↓c2,↓aQ,↓aH,↓aR,↓aI,↓aD,↓aS,↓cH,↓bR,↓bS,↓b7,↓b8,↓b9,↓ca,↓cb,↓cc,↓cd,↓cf,↓dq,↓dr,↓c6,↓dA,↓ck,↓cl,↓cw,↓c8,bV,dJ,cj,decide_eq_false_iff_not,ite_not,↓reduceIte,a2,aO,a0,bq,bc,bM,cr,Nat.reduceAdd,bA,↓a9,Nat.reduceLeDiff,aC,cN,cQ,dx,du,bL,↓(bx dY),↓(bx y),eT,if_true]
theorem Bl(s:ag)(neg:Bool)(v:ae)(l:List Nat)(h:je v l)(Z:dC l)(y:l.length<4294967296)(bO:(fS l).length≤128):
  ∃w,aX a4 G X 115 [.bool neg,v] s=.ok (.d7 [mc (neg&&decide (fS l≠[])) w,.int .i64 0]) s∧je w (fS l):=by
 have B:=Child.ak s;have F:=fun(S:ag)=>ma G X S v l (h.rd _) (by omega)
 have aW:je (ou v (gP l l.length)) (fS l):=h.cut _;generalize ab:ou v (gP l l.length)=ac at *;generalize hm:fS l=m at *;have r:=fun(S:ag) (k:bb)=>(aW.rd S).len (T:=a4) (G:=G) (X:=X) k S
 have H:¬(128:Int)<(m.length:Int):=by omega
 let e:=s.ak.new (.cells [.bool false,.cm 1 [] .nil])
 let p:=e.new (.cells (List.replicate m.length (U 0)))
 have A1:gz p e.own.length (List.replicate m.length 0):=gz.make _ _;have mk:=fun(k:bb)=>oP (T:=a4) (G:=G) (X:=X) (s:=e) (k:=k) (U 0) 4 m.length m.length (aC _) (by omega)
 have A:=fun(k:bb)=>A1.copy (T:=a4) (G:=G) (X:=X) (n:=m.length) (aW.rd p) (by simp) (by simp) k
 have nY:m++(List.replicate m.length 0).drop m.length=m:=by rw[List.drop_replicate,Nat.sub_self];simp
 rw[nY] at A;have A2:gz (p.put e.own.length m) e.own.length m:=A1.put m;have ke:Child s (p.put e.own.length m):=((B.new _).new _).put _ _;have I:(p.put e.own.length m).own[0]? =some (.cells [.bool false,.cm 1 [] .nil]):=rfl;have fin:∀b:Bool,∃w,(a3 a4 G X).eh [.bool false,.cm 1 [] .nil] [(0,1,.bool b),(1,1,.cD (.l e.own.length) 0 m.length m.length 1)] (p.put e.own.length m) (fun J s=>(a3 a4 G X).dy s (fun ad s=>(a3 a4 G X).bw false [lb s (.ref (.l 0) 0) (some 2),some (.int .i64 0)] s) 2 (.ref (.l 0) 0) (ae.aq s.aa J))=.ok (.d7 [mc b w,.int .i64 0]) s∧je w m:=fun b=>by
  have M:=fun(k:bb)=>wL (T:=a4) (G:=G) (X:=X) (S:=p.put e.own.length m) (k:=k) (n:=2) (vs:=[.bool b,.cD (.g (p.put e.own.length m).aa e.own.length) 0 m.length m.length 1]) I rfl rfl rfl
  let q:ag:={p.put e.own.length m with own:=(p.put e.own.length m).own.set 0 (.cells [.bool b,.cD (.g (p.put e.own.length m).aa e.own.length) 0 m.length m.length 1])}
  have A3:gz q e.own.length m:=by have:q.own[1]? =(p.put e.own.length m).own[1]?:=oZ (by decide);exact this.trans A2
  have N:Child s q:=⟨ke.up,ke.ro⟩;obtain⟨w,ar,ay⟩:=mA (S:=q) (j:=e.own.length) (off:=0) (cap:=m.length) (n:=m.length) m rfl A3 (by rw[bV];exact jC (by simp)) (by simp);refine⟨w,?_,ay⟩;have y:∀k:bb,(a3 a4 G X).eh [.bool false,.cm 1 [] .nil] [(0,1,.bool b),(1,1,.cD (.l e.own.length) 0 m.length m.length 1)] (p.put e.own.length m) k=k (.agg [.bool b,.cD (.g (p.put e.own.length m).aa e.own.length) 0 m.length m.length 1]) (p.put e.own.length m):=fun k=>rfl
  rw[y,a2];refine(M _).trans ?_;have O:lb q (.ref (.l 0) 0) (some 2)=some (.agg [.bool b,.cD (.g (p.put e.own.length m).aa e.own.length) 0 m.length m.length 1]):=uC (j:=0) (by rfl) rfl;show(a3 a4 G X).bw false [lb q (.ref (.l 0) 0) (some 2),some (.int .i64 0)] q=_;rw[O];refine l7 N _ _ _ _ ?_ rfl;show(fA (eQ q) [_,_]).map ae.agg=_;simp -implicitDefEqProofs only[fA];rw[show eQ q (.bool b)=some (.bool b) from rfl,show eQ q (.cD (.g (p.put e.own.length m).aa e.own.length) 0 m.length m.length 1)=some w from ar];rfl
 have V:decide ((0:Int)<(m.length:Int))=decide (m≠[]):=by
  congr 1;cases m with
  |nil=>simp
  |cons x m=>simp
 obtain⟨w,hw,Y⟩:=fin (neg&&decide (m≠[]));refine⟨w,?_,Y⟩;rw[Da,KX,cx,h.aq,bx (F _),r,bJ,bd,if_neg (by simpa using H),AM,r];refine(mk _).trans ?_;refine(A _).trans ?_;rw[bQ,bP];cases neg with
 |false=>exact hw
 |true=>
  rw[if_pos rfl]
  dsimp only
  rw[r,bJ,V];rw[eT] at hw;rw[eT];exact hw
theorem Bm(s:ag)(v:ae)(l:List Nat)(h:je v l)(p:dC l)(bO:l.length≤2):aX a4 G X 116 [v] s=.ok (.int .u64 (val l:Int)) s:=by
 have B:=Child.ak s;have q:=fun(S:ag) (k:bb)=>(h.rd S).len (T:=a4) (G:=G) (X:=X) k S
 have step:∀(i x:Nat),i<l.length→x=val (l.take i)→nh (a3 a4 G X) v (.int .u64 (x:Int)) (.int .i64 (l.length:Int)) (.int .i64 (i:Int)) s.ak=nh (a3 a4 G X) v (.int .u64 ((val (l.take (i+1)):Nat):Int)) (.int .i64 (l.length:Int)) (.int .i64 ((i+1:Nat):Int)) s.ak:=fun i x bN aZ=>by
  have ar:(i:Int)<(l.length:Int):=by omega
  have g:=fun(k:bb)=>(h.rd s.ak).get (T:=a4) (G:=G) (X:=X) .i64 i bN k
  have cF:=p.getD i;rw[kj] at cF;have dY:=fun(S:ag) (k:bb)=>hE (T:=a4) (G:=G) (X:=X) (s:=S) (k:=k) (l.getD i 0) cF
  have zb:∀(S:ag) (k:bb),(a3 a4 G X).ai S k (ao .mul (.int .i64 32) (.int .i64 (i:Int)))=k (.int .i64 ((32*i:Nat):Int)) S:=fun S k=>by rw[fv,eS _ (by omega) (by omega)];congr 2
  have s1:=fun(S:ag) (k:bb)=>xJ (T:=a4) (G:=G) (X:=X) (s:=S) (k:=k) .i64 (l.getD i 0) (32*i) (by omega)
  have r:=fun(S:ag) (lk:bb)=>k4 (T:=a4) (G:=G) (X:=X) (s:=S) (k:=lk) i (by omega)
  have A:=hG (l.take i) (p.take i);have hle:(l.take i).length=i:=by simp;omega
  rw[hle,sJ,←Nat.pow_mul] at A;have vs:=val_succ l i bN;have gR:∀(S:ag) (k:bb),(a3 a4 G X).ai S k (ao .or (.int .u64 (x:Int)) (.int .u64 ((l.getD i 0*2^(32*i)%18446744073709551616:Nat):Int)))=k (.int .u64 ((val (l.take (i+1)):Nat):Int)) S:=fun S k=>by
   have F:l.getD i 0*2^(32*i)<18446744073709551616-2^(32*i)+1:=by
    have:i=0∨i=1:=by omega
    rcases this with rfl |rfl
    ·show l.getD 0 0*1<18446744073709551616-1+1;omega
    ·show l.getD 1 0*4294967296<18446744073709551616-4294967296+1;omega
   have gb:2^(32*i)≤4294967296:=by
    have:i=0∨i=1:=by omega
    rcases this with rfl |rfl <;> simp
   rw[g7 (by omega)];have e:ao .or (.int .u64 (x:Int)) (.int .u64 ((l.getD i 0*2^(32*i):Nat):Int))=some (.int .u64 (IntKind.wrap .u64 ((BitVec.ofInt 64 (x:Int) ||| BitVec.ofInt 64 ((l.getD i 0*2^(32*i):Nat):Int)).toNat:Int))):=by simp -implicitDefEqProofs only[ao,f3,↓reduceIte];rfl
   rw[e,BZ _ _ (by omega) (by omega),cy,il];congr 2
   have:x ||| l.getD i 0*2^(32*i)=x+l.getD i 0*2^(32*i):=by rw[Nat.or_comm,ed,←Nat.two_pow_add_eq_or_of_lt (by omega),Nat.add_comm]
   rw[this,vs,aZ,sJ,←Nat.pow_mul,ed (2^(32*i))];omega
  rw[sG,bE,bd,if_pos (by simpa using ar),AO,g,dY,zb,s1,gR,AN,r]
 have last:nh (a3 a4 G X) v (.int .u64 (val l:Int)) (.int .i64 (l.length:Int)) (.int .i64 (l.length:Int)) s.ak=.ok (.int .u64 (val l:Int)) s:=by rw[sG,bE,bd,if_neg (by simp),AP,aI]
 rw[Db,KY,q]
 match l,bO with
 |[],_=>exact last
 |[x],_=>exact(step 0 0 (by simp) rfl).trans last
 |[x,y],_=>exact((step 0 0 (by simp) rfl).trans (step 1 _ (by simp) rfl)).trans last
theorem gQ{s:ag}{k:bb}(op:bb→ah):(a3 a4 G X).af (.bool true) true op s k=op k:=rfl
theorem h1{s:ag}{k:bb}(op:bb→ah):(a3 a4 G X).af (.bool false) true op s k=k (.d7 []) s:=rfl
theorem fo{s:ag}{k:bb}(op:bb→ah):(a3 a4 G X).af (.bool false) false op s k=op k:=rfl
theorem g0{s:ag}{k:bb}(op:bb→ah):(a3 a4 G X).af (.bool true) false op s k=k (.d7 []) s:=rfl
theorem gH{s:ag}{k:bb}(a b:ae):(a3 a4 G X).cq s k (.bool true) a b=k a s:=rfl
theorem fO{s:ag}{k:bb}(a b:ae):(a3 a4 G X).cq s k (.bool false) a b=k b s:=rfl
theorem fT(a b:ah):(a3 a4 G X).bt (.bool true) a b=a:=rfl
theorem hH(a b:ah):(a3 a4 G X).bt (.bool false) a b=b:=rfl
theorem Bn{s S:ag}(e:Child s S){j:Nat}{cs:List ae}(h:S.own[j]? =some (.cells cs))(aW:cs.length=2)(b:Bool){w:ae}{m:List Nat}(hw:je w m)(n:Int):
  (a3 a4 G X).dy S (fun p s=>(a3 a4 G X).bw false [lb s (.ref (.l j) 0) (some 2),some (.int .i64 n)] s) 2 (.ref (.l j) 0) (.agg [.bool b,w])=.ok (.d7 [mc b w,.int .i64 n]) s:=by
 rw[wL (n:=2) h rfl aW (by simp -implicitDefEqProofs only[List.all_cons,hw.eO,List.all_nil];rfl)];have da:=(ez.1 h).1;rw[uC (n:=2) (cs:=[.bool b,w]) (by simp [da]) rfl];have ke:Child s {S with own:=S.own.set j (.cells [.bool b,w])}:=⟨e.up,e.ro⟩;refine l7 ke (.agg [.bool b,w]) (.int .i64 n) (.agg [.bool b,w]) (.int .i64 n) ?_ rfl;show(fA (eQ _) [_,_]).map ae.agg=_;simp -implicitDefEqProofs only[fA];rw[hw.eQ,show eQ _ (.bool b)=some (.bool b) from rfl];rfl
theorem Dm(s S:ag)(q:Child s S)(y:S.own[0]? =some (.cells [.bool false,.cm 1 [] .nil])):∀(b m n:Nat),m<b→n<18446744073709551616→m<18446744073709551616→
  ∃w r,te (a3 a4 G X) (.ref (.l 0) 0) (.int .u64 (n:Int)) (.int .u64 (m:Int)) S=.ok (.d7 [mc false w,.int .i64 0]) s∧je w r∧dC r∧eM r∧val r=Nat.gcd n m:=by
 intro b
 induction b with
 |zero=>intro m n h;omega
 |succ b A=>
  intro m n J df hm;rw[Cs,bJ];by_cases eU:m=0
  ·subst eU;have dY:=fun(S:ag) (k:bb)=>c8 (T:=a4) (G:=G) (X:=X) (s:=S) (k:=k) .u64 n
   have B:=fun(S:ag) (k:bb)=>c8 (T:=a4) (G:=G) (X:=X) (s:=S) (k:=k) .u64 (n/4294967296)
   have eB:=fun(k:bb)=>ss (T:=a4) (G:=G) (X:=X) (s:=S) (k:=k) [n%4294967296,n/4294967296%4294967296]
   have an:=je.eB [n%4294967296,n/4294967296%4294967296];have e:dC [n%4294967296,n/4294967296%4294967296]:=fun x aZ=>by rw[kj];simp at aZ;omega
   have bD:val [n%4294967296,n/4294967296%4294967296]=n:=by simp -implicitDefEqProofs only[val,kj];omega
   have bO:(fS [n%4294967296,n/4294967296%4294967296]).length≤128:=by
    rw[h0]
    have:=i9 [n%4294967296,n/4294967296%4294967296] 2;exact Nat.le_trans this (by decide)
   obtain⟨w,F,p⟩:=Bl G X S false _ _ an e (by simp) bO;refine⟨w,_,?_,p,k5 e,iR _,by rw[jO,bD,Nat.gcd_zero_right]⟩;rw[show decide ((0:Int)<((0:Nat):Int))=false from rfl,hH,Cr,dY,cl,B];refine(eB _).trans ?_;rw[an.aq,a0,bx F,gd 0 _ _ rfl,gd 1 _ _ rfl,a2];exact Bn G X q y rfl _ p 0
  ·have ar:(0:Int)<(m:Int):=by omega
   obtain⟨w,r,ay,ch,dk,H,I⟩:=A (n%m) m (by have:=Nat.mod_lt n (Nat.pos_of_ne_zero eU);omega) hm (by have:=Nat.mod_lt n (Nat.pos_of_ne_zero eU);omega);refine⟨w,r,?_,ch,dk,H,by rw[I,Nat.gcd_comm,←Nat.gcd_rec,Nat.gcd_comm]⟩;rw[eJ ar,fT,Cq,xI _ _ eU];exact ay
theorem Dn(s S:ag)(aa:Child s S)(ab:S.own[0]? =some (.cells [.bool false,.cm 1 [] .nil])):∀(b:Nat) (p A:ae) (x y:List Nat),val y<b→je p x→je A y→dC x→dC y→eM x→eM y→x.length≤128→y.length≤128→
  ∃w r,tf (a3 a4 G X) (.ref (.l 0) 0) p A S=.ok (.d7 [mc false w,.int .i64 0]) s∧je w r∧dC r∧eM r∧val r=Nat.gcd (val x) (val y):=by
 intro b
 induction b with
 |zero=>intro p A x y h;omega
 |succ b al=>
  intro p A x y aA H I F M U V am ac;have N:=fun(S:ag) (k:bb)=>(H.rd S).len (T:=a4) (G:=G) (X:=X) k S
  have J:=fun(S:ag) (k:bb)=>(I.rd S).len (T:=a4) (G:=G) (X:=X) k S
  have ad:(y=[]∨(x.length≤2∧y.length≤2))→∃w r,x1 (a3 a4 G X) (.ref (.l 0) 0) p A S=.ok (.d7 [mc false w,.int .i64 0]) s∧je w r∧dC r∧eM r∧val r=Nat.gcd (val x) (val y):=fun af=>by
   by_cases ay:x.length≤2
   ·have ah:y.length≤2:=by
     rcases af with h|h
     ·subst h;simp
     ·exact h.2
    have small:∀l:List Nat,dC l→l.length≤2→val l<18446744073709551616:=fun l ao bO=>by
     have ch:=hG l ao;have dk:B^l.length≤B^2:=nN bO;have aB:B^2=18446744073709551616:=by decide
     omega
    obtain⟨w,r,gZ,g9⟩:=Dm G X s S aa ab (val y+1) (val y) (val x) (by omega) (small x F ay) (small y M ah);refine⟨w,r,?_,g9⟩;have e:¬(2:Int)<(x.length:Int):=by omega
    rw[uW,N,bJ,dT e,hH,Ct,H.aq,bx (Bm G X S p x H F ay),I.aq,bx (Bm G X S A y I M ah)];exact gZ
   ·have fb:y=[]:=by
     rcases af with h|h
     ·exact h
     ·exact absurd h.1 ay
    subst fb;have e:(2:Int)<(x.length:Int):=by omega
    have ai:fS x=x:=by have ar:=jO x;exact val_inj (k5 F) F (va (k5 F) F (iR x) U ar) ar
    obtain⟨w,ap,Y⟩:=Bl G X S false p x H F (by omega) (by rw[ai];exact am);rw[ai] at Y;refine⟨w,x,?_,Y,F,U,by simp [val]⟩;rw[uW,N,bJ,eJ e,fT,H.aq,a0,bx ap,gd 0 _ _ rfl,gd 1 _ _ rfl,a2];exact Bn G X aa ab rfl _ Y 0
  by_cases fb:y=[]
  ·obtain⟨w,r,gZ,g9⟩:=ad (.inl fb);refine⟨w,r,?_,g9⟩;have e:¬(0:Int)<(y.length:Int):=by subst fb;simp
   rw[nM,J,bJ,dT e];simp -implicitDefEqProofs only[h1,fO,hH];exact gZ
  ·have e:(0:Int)<(y.length:Int):=by have:=List.length_pos_iff.2 fb;omega
   have as:val y≠0:=fun h=>fb ((sI V).1 h)
   have aj:∃w r,x0 (a3 a4 G X) (.ref (.l 0) 0) p A S=.ok (.d7 [mc false w,.int .i64 0]) s∧je w r∧dC r∧eM r∧val r=Nat.gcd (val x) (val y):=by
    obtain⟨v,w,q,r,au,aC,aD,aE,an,or,ak,eq,av⟩:=Le G X S p A x y H I F M U V fb (by omega) (by omega);have aF:=Nat.mod_lt (val x) (Nat.pos_of_ne_zero as);have aw:r.length≤128:=by have ch:=hG y M;have dk:B^y.length≤B^128:=nN ac;exact pJ ak (by omega)
    obtain⟨ax,rF,gZ,g9,az,mh,n7⟩:=al A w y r (by omega) I an M or V ak ac aw;refine⟨ax,rF,?_,g9,az,mh,by rw[n7,av,Nat.gcd_comm,←Nat.gcd_rec,Nat.gcd_comm]⟩;rw[Cp,H.aq,I.aq,bx au,gd 0 _ v rfl,gd 1 _ w rfl];exact gZ
   by_cases ay:2<x.length
   ·obtain⟨w,r,gZ,g9⟩:=aj;refine⟨w,r,?_,g9⟩;have O:(2:Int)<(x.length:Int):=by omega
    rw[nM,J,bJ,eJ e];simp -implicitDefEqProofs only[gQ,g0,gH,fT,↓N,↓bJ,eJ O];exact gZ
   ·have O:¬(2:Int)<(x.length:Int):=by omega
    by_cases ch:2<y.length
    ·obtain⟨w,r,gZ,g9⟩:=aj;refine⟨w,r,?_,g9⟩;have Z:(2:Int)<(y.length:Int):=by omega
     rw[nM,J,bJ,eJ e];simp -implicitDefEqProofs only[gQ,g0,fo,gH,fO,fT,↓N,↓J,↓bJ,dT O,eJ Z];exact gZ
    ·obtain⟨w,r,gZ,g9⟩:=ad (.inr ⟨by omega,by omega⟩);refine⟨w,r,?_,g9⟩;have Z:¬(2:Int)<(y.length:Int):=by omega
     rw[nM,J,bJ,eJ e];simp -implicitDefEqProofs only[gQ,g0,fo,gH,fO,hH,↓N,↓J,↓bJ,dT O,dT Z];exact gZ
theorem mT{n:Bool}{l:List Nat}(h:ic n l=true):eM l∧l.length≤128:=by
 unfold ic at h;split at h
 ·rename_i eU;exact⟨fun e6=>absurd (jT eU) e6,by omega⟩
 ·simp -implicitDefEqProofs only[bm,cj] at h;exact⟨fun _=>h.2,h.1⟩
theorem RA(s:ag)(ku e:Bool)(v1 v2:ae)(x y:List Nat)(h:je v1 x)(p:je v2 y)(A:dC x)(B:dC y)(aZ:ic ku x=true)(fb:ic e y=true):
  ∃w r,aX a4 G X 90 [mc ku v1,mc e v2] s=.ok (.d7 [mc false w,.int .i64 0]) s∧je w r∧dC r∧eM r∧val r=Nat.gcd (val x) (val y):=by
 obtain⟨F,H⟩:=mT aZ;obtain⟨I,J⟩:=mT fb;have M:Child s (s.ak.new (.cells [.bool false,.cm 1 [] .nil])):=(Child.ak s).new _;obtain⟨w,r,ar,ay⟩:=Dn G X s _ M (by rfl) (val y+1) v1 v2 x y (by omega) h p A B F I H J;refine⟨w,r,?_,ay⟩;have q:=Lf G X (s.ak.new (.cells [.bool false,.cm 1 [] .nil])) ku e v1 v2 x y h p (by omega) (by omega);rw[aZ,fb,bA] at q;rw[Gx,Q8];simp -implicitDefEqProofs only[↓cx,↓cy,↓bH,↓bd,↓ax,↓az,↓av,↓aA,↓aF,↓aG,↓aw,↓aB,↓aU,↓aM,↓aP,↓bf,↓dG,↓aL,↓bl,↓bP,↓cR,↓bW,↓bX,↓bQ,↓bY,↓bZ,↓b0,↓b1,↓b2,↓b3,↓bn,↓bo,↓bp,↓cS,↓cT,↓cU,↓cV,↓cW,↓cX,↓cY,↓cZ,↓c0,↓b4,↓b5,↓b6,↓bB,↓cK,↓bE,↓c1,↓bJ,↓cv,↓cJ,↓c2,↓aQ,↓aH,↓aR,↓aI,↓aD,↓aS,↓cH,↓bR,↓bS,↓b7,↓b8,↓b9,↓ca,↓cb,↓cc,↓cd,↓cf,↓dq,↓dr,↓c6,↓dA,↓ck,↓cl,↓cw,↓c8,bV,dJ,cj,decide_eq_false_iff_not,ite_not,↓reduceIte,a2,aO,a0,bq,bc,bM,cr,Nat.reduceAdd,bA,↓a9,Nat.reduceLeDiff,aC,cN,cQ,dx,du,bL,↓(bx q),gV,Cu];exact ar
def rW(n:Bool)(l:List Nat):Bool:= !n&&decide (l=[1])
theorem G2{l:List Nat}(h:l.length=1):l=[1]↔l.getD 0 0=1:=by
 match l,h with
 |[x],_=>simp [List.getD]
theorem FN(s:ag)(n:Bool)(v:ae)(l:List Nat)(h:je v l):aX a4 G X 89 [mc n v] s=.ok (.bool (rW n l)) s:=by
 have p:=fun(S:ag) (k:bb)=>(h.rd S).len (T:=a4) (G:=G) (X:=X) k S
 rw[GA,Rb];cases n with
 |true=>simp -implicitDefEqProofs only[↓cx,↓cy,↓bH,↓bd,↓ax,↓az,↓av,↓aA,↓aF,↓aG,↓aw,↓aB,↓aU,↓aM,↓aP,↓bf,↓dG,↓aL,↓bl,↓bP,↓cR,↓bW,↓bX,↓bQ,↓bY,↓bZ,↓b0,↓b1,↓b2,↓b3,↓bn,↓bo,↓bp,↓cS,↓cT,↓cU,↓cV,↓cW,↓cX,↓cY,↓cZ,↓c0,↓b4,↓b5,↓b6,↓bB,↓cK,↓bE,↓c1,↓bJ,↓cv,↓cJ,↓c2,↓aQ,↓aH,↓aR,↓aI,↓aD,↓aS,↓cH,↓bR,↓bS,↓b7,↓b8,↓b9,↓ca,↓cb,↓cc,↓cd,↓cf,↓dq,↓dr,↓c6,↓dA,↓ck,↓cl,↓cw,↓c8,bV,dJ,cj,decide_eq_false_iff_not,ite_not,↓reduceIte,a2,aO,a0,bq,bc,bM,cr,Nat.reduceAdd,bA,↓a9,Nat.reduceLeDiff,aC,cN,cQ,dx,du,bL,gV,rW,fK]
 |false=>
  by_cases ar:l.length=1
  ·have e:(l.length:Int)=1:=by omega
   have g:=fun(k:bb)=>(h.rd s.ak).get (T:=a4) (G:=G) (X:=X) .i64 0 (by omega) k
   have g':∀k:bb,(a3 a4 G X).c7 s.ak (fun v S=>(a3 a4 G X).aK S k none v) 1 v (.int .i64 0)=k (U (l.getD 0 0)) s.ak:=g;simp -implicitDefEqProofs only[↓cx,↓cy,↓bH,↓bd,↓ax,↓az,↓av,↓aA,↓aF,↓aG,↓aw,↓aB,↓aU,↓aM,↓aP,↓bf,↓dG,↓aL,↓bl,↓bP,↓cR,↓bW,↓bX,↓bQ,↓bY,↓bZ,↓b0,↓b1,↓b2,↓b3,↓bn,↓bo,↓bp,↓cS,↓cT,↓cU,↓cV,↓cW,↓cX,↓cY,↓cZ,↓c0,↓b4,↓b5,↓b6,↓bB,↓cK,↓bE,↓c1,↓bJ,↓cv,↓cJ,↓c2,↓aQ,↓aH,↓aR,↓aI,↓aD,↓aS,↓cH,↓bR,↓bS,↓b7,↓b8,↓b9,↓ca,↓cb,↓cc,↓cd,↓cf,↓dq,↓dr,↓c6,↓dA,↓ck,↓cl,↓cw,↓c8,bV,dJ,cj,decide_eq_false_iff_not,ite_not,↓reduceIte,a2,aO,a0,bq,bc,bM,cr,Nat.reduceAdd,bA,↓a9,Nat.reduceLeDiff,aC,cN,cQ,dx,du,bL,gJ,rW,eT,↓p,eq_true e,↓g'];congr 3;rw[eq_iff_iff,G2 ar];omega
  ·have e:¬(l.length:Int)=1:=by omega
   have:¬l=[1]:=fun e=>ar (by rw[e];rfl)
   simp -implicitDefEqProofs only[↓cx,↓cy,↓bH,↓bd,↓ax,↓az,↓av,↓aA,↓aF,↓aG,↓aw,↓aB,↓aU,↓aM,↓aP,↓bf,↓dG,↓aL,↓bl,↓bP,↓cR,↓bW,↓bX,↓bQ,↓bY,↓bZ,↓b0,↓b1,↓b2,↓b3,↓bn,↓bo,↓bp,↓cS,↓cT,↓cU,↓cV,↓cW,↓cX,↓cY,↓cZ,↓c0,↓b4,↓b5,↓b6,↓bB,↓cK,↓bE,↓c1,↓bJ,↓cv,↓cJ,↓c2,↓aQ,↓aH,↓aR,↓aI,↓aD,↓aS,↓cH,↓bR,↓bS,↓b7,↓b8,↓b9,↓ca,↓cb,↓cc,↓cd,↓cf,↓dq,↓dr,↓c6,↓dA,↓ck,↓cl,↓cw,↓c8,bV,dJ,cj,decide_eq_false_iff_not,ite_not,↓reduceIte,a2,aO,a0,bq,bc,bM,cr,Nat.reduceAdd,bA,↓a9,Nat.reduceLeDiff,aC,cN,cQ,dx,du,bL,gJ,rW,eT,↓p,eq_false e,eq_false this]
theorem RB(s:ag)(n:Bool)(v:ae)(l:List Nat)(h:je v l):aX a4 G X 88 [mc n v] s=.ok (.bool (decide (l=[]))) s:=by
 have e:=fun(S:ag) (k:bb)=>(h.rd S).len (T:=a4) (G:=G) (X:=X) k S
 rw[Gz,Ra];simp -implicitDefEqProofs only[↓cx,↓cy,↓bH,↓bd,↓ax,↓az,↓av,↓aA,↓aF,↓aG,↓aw,↓aB,↓aU,↓aM,↓aP,↓bf,↓dG,↓aL,↓bl,↓bP,↓cR,↓bW,↓bX,↓bQ,↓bY,↓bZ,↓b0,↓b1,↓b2,↓b3,↓bn,↓bo,↓bp,↓cS,↓cT,↓cU,↓cV,↓cW,↓cX,↓cY,↓cZ,↓c0,↓b4,↓b5,↓b6,↓bB,↓cK,↓bE,↓c1,↓bJ,↓cv,↓cJ,↓c2,↓aQ,↓aH,↓aR,↓aI,↓aD,↓aS,↓cH,↓bR,↓bS,↓b7,↓b8,↓b9,↓ca,↓cb,↓cc,↓cd,↓cf,↓dq,↓dr,↓c6,↓dA,↓ck,↓cl,↓cw,↓c8,bV,dJ,cj,decide_eq_false_iff_not,ite_not,↓reduceIte,a2,aO,a0,bq,bc,bM,cr,Nat.reduceAdd,bA,↓a9,Nat.reduceLeDiff,aC,cN,cQ,dx,du,bL,↓e];congr 3;rw[eq_iff_iff];cases l<;> simp <;> omega
def mE(ku e:Bool)(x y:List Nat):Bool:=ic ku x&&ic e y&& !e&&decide (y≠[])&&decide (Nat.gcd (val x) (val y)=1)
theorem Bo{l:List Nat}(e:dC l)(p:eM l):l=[1]↔val l=1:=by
 constructor
 ·intro h;subst h;simp [val]
 ·intro h;have gR:dC [1]:=fun x aZ=>by rw[List.mem_singleton.1 aZ,kj];omega
  have dY:eM [1]:=fun _=>by simp
  have v1:val [1]=1:=by simp [val]
  exact val_inj e gR (va e gR p dY (by rw[h,v1])) (by rw[h,v1])
theorem RC(s:ag)(ku h:Bool)(v1 v2:ae)(x y:List Nat)(A:je v1 x)(q:je v2 y)(I:dC x)(B:dC y)(J:x.length<9223372036854775807)(M:y.length<9223372036854775807):
  aX a4 G X 71 [.agg [.bool ku,v1,.bool h,v2]] s=.ok (.bool (mE ku h x y)) s:=by
 have dY:=to G X s.ak ku v1 x A J;have p:=to G X s.ak h v2 y q M;have F:=RB G X s.ak h v2 y q;have N:=FN G X s.ak h v2 y q;rw[Gy,Q9];cases dI:ic ku x with
 |false=>rw[dI] at dY;simp -implicitDefEqProofs only[↓cx,↓cy,↓bH,↓bd,↓ax,↓az,↓av,↓aA,↓aF,↓aG,↓aw,↓aB,↓aU,↓aM,↓aP,↓bf,↓dG,↓aL,↓bl,↓bP,↓cR,↓bW,↓bX,↓bQ,↓bY,↓bZ,↓b0,↓b1,↓b2,↓b3,↓bn,↓bo,↓bp,↓cS,↓cT,↓cU,↓cV,↓cW,↓cX,↓cY,↓cZ,↓c0,↓b4,↓b5,↓b6,↓bB,↓cK,↓bE,↓c1,↓bJ,↓cv,↓cJ,↓c2,↓aQ,↓aH,↓aR,↓aI,↓aD,↓aS,↓cH,↓bR,↓bS,↓b7,↓b8,↓b9,↓ca,↓cb,↓cc,↓cd,↓cf,↓dq,↓dr,↓c6,↓dA,↓ck,↓cl,↓cw,↓c8,bV,dJ,cj,decide_eq_false_iff_not,ite_not,↓reduceIte,a2,aO,a0,bq,bc,bM,cr,Nat.reduceAdd,bA,↓a9,Nat.reduceLeDiff,aC,cN,cQ,dx,du,bL,↓(bx dY),gJ,mE,dI,fK]
 |true=>
  rw[dI] at dY;cases e:ic h y with
  |false=>rw[e] at p;simp -implicitDefEqProofs only[↓cx,↓cy,↓bH,↓bd,↓ax,↓az,↓av,↓aA,↓aF,↓aG,↓aw,↓aB,↓aU,↓aM,↓aP,↓bf,↓dG,↓aL,↓bl,↓bP,↓cR,↓bW,↓bX,↓bQ,↓bY,↓bZ,↓b0,↓b1,↓b2,↓b3,↓bn,↓bo,↓bp,↓cS,↓cT,↓cU,↓cV,↓cW,↓cX,↓cY,↓cZ,↓c0,↓b4,↓b5,↓b6,↓bB,↓cK,↓bE,↓c1,↓bJ,↓cv,↓cJ,↓c2,↓aQ,↓aH,↓aR,↓aI,↓aD,↓aS,↓cH,↓bR,↓bS,↓b7,↓b8,↓b9,↓ca,↓cb,↓cc,↓cd,↓cf,↓dq,↓dr,↓c6,↓dA,↓ck,↓cl,↓cw,↓c8,bV,dJ,cj,decide_eq_false_iff_not,ite_not,↓reduceIte,a2,aO,a0,bq,bc,bM,cr,Nat.reduceAdd,bA,↓a9,Nat.reduceLeDiff,aC,cN,cQ,dx,du,bL,↓(bx dY),↓(bx p),gV,gJ,mE,dI,e,fK,Bool.and_false]
  |true=>
   rw[e] at p;cases h with
   |true=>simp -implicitDefEqProofs only[↓cx,↓cy,↓bH,↓bd,↓ax,↓az,↓av,↓aA,↓aF,↓aG,↓aw,↓aB,↓aU,↓aM,↓aP,↓bf,↓dG,↓aL,↓bl,↓bP,↓cR,↓bW,↓bX,↓bQ,↓bY,↓bZ,↓b0,↓b1,↓b2,↓b3,↓bn,↓bo,↓bp,↓cS,↓cT,↓cU,↓cV,↓cW,↓cX,↓cY,↓cZ,↓c0,↓b4,↓b5,↓b6,↓bB,↓cK,↓bE,↓c1,↓bJ,↓cv,↓cJ,↓c2,↓aQ,↓aH,↓aR,↓aI,↓aD,↓aS,↓cH,↓bR,↓bS,↓b7,↓b8,↓b9,↓ca,↓cb,↓cc,↓cd,↓cf,↓dq,↓dr,↓c6,↓dA,↓ck,↓cl,↓cw,↓c8,bV,dJ,cj,decide_eq_false_iff_not,ite_not,↓reduceIte,a2,aO,a0,bq,bc,bM,cr,Nat.reduceAdd,bA,↓a9,Nat.reduceLeDiff,aC,cN,cQ,dx,du,bL,↓(bx dY),↓(bx p),gV,mE,dI,e,fK,Bool.and_false]
   |false=>
    by_cases fb:y=[]
    ·simp -implicitDefEqProofs only[↓cx,↓cy,↓bH,↓bd,↓ax,↓az,↓av,↓aA,↓aF,↓aG,↓aw,↓aB,↓aU,↓aM,↓aP,↓bf,↓dG,↓aL,↓bl,↓bP,↓cR,↓bW,↓bX,↓bQ,↓bY,↓bZ,↓b0,↓b1,↓b2,↓b3,↓bn,↓bo,↓bp,↓cS,↓cT,↓cU,↓cV,↓cW,↓cX,↓cY,↓cZ,↓c0,↓b4,↓b5,↓b6,↓bB,↓cK,↓bE,↓c1,↓bJ,↓cv,↓cJ,↓c2,↓aQ,↓aH,↓aR,↓aI,↓aD,↓aS,↓cH,↓bR,↓bS,↓b7,↓b8,↓b9,↓ca,↓cb,↓cc,↓cd,↓cf,↓dq,↓dr,↓c6,↓dA,↓ck,↓cl,↓cw,↓c8,bV,dJ,cj,decide_eq_false_iff_not,ite_not,↓reduceIte,a2,aO,a0,bq,bc,bM,cr,Nat.reduceAdd,bA,↓a9,Nat.reduceLeDiff,aC,cN,cQ,dx,du,bL,↓(bx dY),↓(bx p),↓(bx F),gV,mE,dI,e,fb,fK,Bool.and_false,ne_eq,not_true_eq_false]
    ·obtain⟨O,ab⟩:=mT e;simp -implicitDefEqProofs only[↓cx,↓cy,↓bH,↓bd,↓ax,↓az,↓av,↓aA,↓aF,↓aG,↓aw,↓aB,↓aU,↓aM,↓aP,↓bf,↓dG,↓aL,↓bl,↓bP,↓cR,↓bW,↓bX,↓bQ,↓bY,↓bZ,↓b0,↓b1,↓b2,↓b3,↓bn,↓bo,↓bp,↓cS,↓cT,↓cU,↓cV,↓cW,↓cX,↓cY,↓cZ,↓c0,↓b4,↓b5,↓b6,↓bB,↓cK,↓bE,↓c1,↓bJ,↓cv,↓cJ,↓c2,↓aQ,↓aH,↓aR,↓aI,↓aD,↓aS,↓cH,↓bR,↓bS,↓b7,↓b8,↓b9,↓ca,↓cb,↓cc,↓cd,↓cf,↓dq,↓dr,↓c6,↓dA,↓ck,↓cl,↓cw,↓c8,bV,dJ,cj,decide_eq_false_iff_not,ite_not,↓reduceIte,a2,aO,a0,bq,bc,bM,cr,Nat.reduceAdd,bA,↓a9,Nat.reduceLeDiff,aC,cN,cQ,dx,du,bL,↓(bx dY),↓(bx p),↓(bx F),↓(bx N),gV,mE,dI,e,eq_false fb,gJ,eT,ne_eq,not_false_eq_true,Cw];by_cases ar:y=[1]
     ·have:Nat.gcd (val x) (val y)=1:=by rw[(Bo B O).1 ar,Nat.gcd_one_right]
      simp -implicitDefEqProofs only[rW,gJ,eT,eJ ar,eq_true this,↓cx,↓cy,↓bH,↓bd,↓ax,↓az,↓av,↓aA,↓aF,↓aG,↓aw,↓aB,↓aU,↓aM,↓aP,↓bf,↓dG,↓aL,↓bl,↓bP,↓cR,↓bW,↓bX,↓bQ,↓bY,↓bZ,↓b0,↓b1,↓b2,↓b3,↓bn,↓bo,↓bp,↓cS,↓cT,↓cU,↓cV,↓cW,↓cX,↓cY,↓cZ,↓c0,↓b4,↓b5,↓b6,↓bB,↓cK,↓bE,↓c1,↓bJ,↓cv,↓cJ,↓c2,↓aQ,↓aH,↓aR,↓aI,↓aD,↓aS,↓cH,↓bR,↓bS,↓b7,↓b8,↓b9,↓ca,↓cb,↓cc,↓cd,↓cf,↓dq,↓dr,↓c6,↓dA,↓ck,↓cl,↓cw,↓c8,bV,dJ,cj,decide_eq_false_iff_not,ite_not,↓reduceIte,a2,aO,a0,bq,bc,bM,cr,Nat.reduceAdd,bA,↓a9,Nat.reduceLeDiff,aC,cN,cQ,dx,du,bL,if_true]
     ·obtain⟨w,r,U,H,or,V,Y⟩:=RA G X s.ak ku false v1 v2 x y A q I B dI e;have Z:=fun S:ag=>FN G X S false w r H
      have aa:=fun(k:bb)=>cH (T:=a4) (G:=G) (X:=X) (s:=s.ak) (k:=k) 2 [.bool false,w] [.bool false,.cm 1 [] .nil] rfl rfl (by simp -implicitDefEqProofs only[List.all_cons,H.eO,List.all_nil];rfl)
      simp -implicitDefEqProofs only[rW,gJ,eT,dT ar,bL,if_false,Cv,↓cx,↓cy,↓bH,↓bd,↓ax,↓az,↓av,↓aA,↓aF,↓aG,↓aw,↓aB,↓aU,↓aM,↓aP,↓bf,↓dG,↓aL,↓bl,↓bP,↓cR,↓bW,↓bX,↓bQ,↓bY,↓bZ,↓b0,↓b1,↓b2,↓b3,↓bn,↓bo,↓bp,↓cS,↓cT,↓cU,↓cV,↓cW,↓cX,↓cY,↓cZ,↓c0,↓b4,↓b5,↓b6,↓bB,↓cK,↓bE,↓c1,↓bJ,↓cv,↓cJ,↓c2,↓aQ,↓aH,↓aR,↓aI,↓aD,↓aS,↓cH,↓bR,↓bS,↓b7,↓b8,↓b9,↓ca,↓cb,↓cc,↓cd,↓cf,↓dq,↓dr,↓c6,↓dA,↓ck,↓cl,↓cw,↓c8,bV,dJ,cj,decide_eq_false_iff_not,ite_not,↓reduceIte,a2,aO,a0,bq,bc,bM,cr,Nat.reduceAdd,bA,↓a9,Nat.reduceLeDiff,aC,cN,cQ,dx,du,bL,↓(bx U),↓ov,↓ow,↓aa,↓(bx (Z _))];rw[i5 ((Child.ak s).new _)];congr 3;rw[eq_iff_iff,Bo or V,Y]
end Go.f0
end
section
namespace Go.hb
theorem getD_none(l:List Nat)(i:Nat)(h:l.length≤i):l.getD i 0=0:=by simp only[List.getD];rw[List.getElem?_eq_none h];rfl
end Go.hb
end
section
namespace Go.f0
open Go.Ab Go.hb
variable(G:Nat→ae)(X:Nat→List ae→ag→ah)
abbrev I(n:Int):ae:=.int .i64 n
structure gh where
 neg:Bool
 rh:List Nat
 g:ga
def gh.v(n:gh):ae:=.cm 1 (n.rh.map U) n.g
structure jS (n:gh):Prop where
 g:∀a,n.g≠.dW a
 ok:dC n.rh
 len:n.rh.length<9223372036854775807
theorem jS.ix{n:gh}(h:jS n):je n.v n.rh:=⟨n.g,rfl,h.g⟩
structure be where
 name:List Nat
 op:Int
 args:List Int
 sK:ga
 li:gh
 cg:gh
 ru:gh
 pI:gh
 pj:Int
abbrev oX(l:List Int)(g:ga):ae:=.cm 1 (l.map I) g
def be.cs(x:be):List ae:=[.str x.name,I x.op,oX x.args x.sK,.bool x.li.neg,x.li.v,.bool x.cg.neg,x.cg.v,.bool x.ru.neg,x.ru.v,.bool x.pI.neg,x.pI.v,I x.pj]
def be.enc(x:be):ae:=.agg x.cs
structure oG (x:be):Prop where
 sK:∀a,x.sK≠.dW a
 WU:x.args.length<9223372036854775807
 li:jS x.li
 cg:jS x.cg
 ru:jS x.ru
 pI:jS x.pI
theorem pK{g:ga}(h:∀a,g≠.dW a)(sz:Nat)(es:List ae):ae.bj (.cm sz es g)=true:=by cases g<;> first|rfl |exact absurd rfl (h _)
theorem Lg{g:ga}(h:∀a,g≠.dW a)(d:Nat):g.aq d=g:=by cases g<;> first|rfl |exact absurd rfl (h _)
theorem oG.bj{x:be}(h:oG x):x.enc.bj=true:=by simp -implicitDefEqProofs only[be.enc,be.cs,ae.bj,ae.a6,gh.v,pK h.sK,pK h.li.g,pK h.cg.g,pK h.ru.g,pK h.pI.g,bA]
theorem be.cells(x:be):x.cs.all ae.eO=true:=rfl
def nj(op:Int):List Int:=
 if op=2 then[0] else if op=3 then[1,1] else if op=4 then[2,2] else if op=5 then[1,1] else if op=6∨op=7 then[1,1,1] else if op=8 then[2,3] else if op=9 then[3,3]
 else if op=10∨op=11 then[1,2] else if op=12 then[1,1] else if op=13 then[1,2] else if op=14 then[1,1,1] else if op=15 then[1,3] else if op=16 then[3] else[]
def oH(op:Int):Int:=
 if op=1∨op=2∨op=4∨op=8∨op=9∨op=12∨op=13∨op=16 then 1 else if op=3∨op=10∨op=11∨op=14∨op=15 then 2 else if op=5∨op=6∨op=7 then 3 else 0
def oI(op:Int):Bool:=decide (op=8∨op=9∨op=14∨op=15)
def FO(op:Int):ga:=if 2≤op∧op≤16 then .exact else .nil
abbrev Lh(op:Int):ae:=.d7 [oX (nj op) (FO op),I (oH op),.bool (oI op)]
theorem ri{S:ag}{k:bb}(l:List Int):(a3 a4 G X).bG S k 1 (l.map I)=k (oX l .exact) S:=by
 refine kQ 1 _ ?_ ?_
 ·induction l with
  |nil=>rfl
  |cons x l e=>simp -implicitDefEqProofs only[fM,ae.a6,e,Bool.and_true];rfl
 ·induction l with
  |nil=>rfl
  |cons x l e=>simp -implicitDefEqProofs only[fM,List.all_cons,e,Bool.and_true];rfl
theorem X7{s S:ag}(e:Child s S)(v:ae)(n:Int)(b:Bool)(bD:Ab.freeze S v=some v):(a3 a4 G X).bw false [some v,some (.int .i64 n),some (.bool b)] S=.ok (.d7 [v,.int .i64 n,.bool b]) s:=by obtain⟨ar,ay⟩:=e;show qD false [some v,some (.int .i64 n),some (.bool b)] S=_;unfold qD;simp -implicitDefEqProofs only[fA,fZ,eb,cond_false,bD,show Ab.freeze S (.int .i64 n)=some (.int .i64 n) from rfl,show Ab.freeze S (.bool b)=some (.bool b) from rfl,r3,ar,ay]
theorem Dp(op:Int):op=1∨op=2∨op=3∨op=4∨op=5∨op=6∨op=7∨op=8∨op=9∨op=10∨op=11∨op=12∨op=13∨op=14∨op=15∨op=16∨(op≠1∧op≠2∧op≠3∧op≠4∧op≠5∧op≠6∧op≠7∧op≠8∧op≠9∧op≠10∧op≠11∧op≠12∧op≠13∧op≠14∧op≠15∧op≠16):=by omega
theorem yg(op:Int)(s:ag):aX a4 G X 21 [I op] s=.ok (Lh op) s:=by
 rw[GI,Rj];rcases Dp op with h|h|h|h|h|h|h|h|h|h|h|h|h|h|h|h|h
 all_goals try (subst h;kernel_rfl)
 obtain⟨ar,ay,ch,dk,p,q,r,y,A,B,F,H,J,M,N,O⟩:=h;simp -implicitDefEqProofs only[bB,hH,dT ar,dT ay,dT ch,dT dk,dT p,dT q,dT r,dT y,dT A,dT B,dT F,dT H,dT J,dT M,dT N,dT O,CL,CK,CJ];have e:Lh op=.d7 [oX [] .nil,I 0,.bool false]:=by
  unfold Lh;have g:FO op=.nil:=by unfold FO;rw[if_neg (by omega)]
  rw[g];simp [nj,oH,oI,ar,ay,ch,dk,p,q,r,y,A,B,F,H,J,M,N,O]
 rw[e];exact X7 G X (.ak s) _ _ _ rfl
theorem RD(x:be)(s:ag):aX a4 G X 48 [x.enc] s=.ok (I (oH x.op)) s:=by rw[GG,Rh];simp -implicitDefEqProofs only[be.enc,be.cs,↓cx,↓cy,↓bH,↓bd,↓ax,↓az,↓av,↓aA,↓aF,↓aG,↓aw,↓aB,↓aU,↓aM,↓aP,↓bf,↓dG,↓aL,↓bl,↓bP,↓cR,↓bW,↓bX,↓bQ,↓bY,↓bZ,↓b0,↓b1,↓b2,↓b3,↓bn,↓bo,↓bp,↓cS,↓cT,↓cU,↓cV,↓cW,↓cX,↓cY,↓cZ,↓c0,↓b4,↓b5,↓b6,↓ft,↓fu,↓fv,↓bB,↓cK,↓bE,↓c1,↓bJ,↓cv,↓cJ,↓c2,↓aQ,↓aH,↓aR,↓aI,↓aD,↓aS,↓cH,↓bR,↓bS,↓b7,↓b8,↓b9,↓ca,↓cb,↓cc,↓cd,↓cf,bV,dJ,List.cons_append,List.nil_append,cj,decide_eq_false_iff_not,ite_not,↓reduceIte,a2,aO,a0,bq,ey,dU,dV,bc,bM,cr,Nat.reduceAdd,List.all_cons,List.all_nil,dj,c5,dm,dE,bA,↓a9,Nat.reduceLeDiff,aC,cN,cQ,↓(bx (yg G X x.op _)),ov,ow,B0]
theorem RE(x:be)(s:ag):aX a4 G X 43 [x.enc] s=.ok (.bool (oI x.op)) s:=by rw[GD,Re];simp -implicitDefEqProofs only[be.enc,be.cs,↓cx,↓cy,↓bH,↓bd,↓ax,↓az,↓av,↓aA,↓aF,↓aG,↓aw,↓aB,↓aU,↓aM,↓aP,↓bf,↓dG,↓aL,↓bl,↓bP,↓cR,↓bW,↓bX,↓bQ,↓bY,↓bZ,↓b0,↓b1,↓b2,↓b3,↓bn,↓bo,↓bp,↓cS,↓cT,↓cU,↓cV,↓cW,↓cX,↓cY,↓cZ,↓c0,↓b4,↓b5,↓b6,↓ft,↓fu,↓fv,↓bB,↓cK,↓bE,↓c1,↓bJ,↓cv,↓cJ,↓c2,↓aQ,↓aH,↓aR,↓aI,↓aD,↓aS,↓cH,↓bR,↓bS,↓b7,↓b8,↓b9,↓ca,↓cb,↓cc,↓cd,↓cf,bV,dJ,List.cons_append,List.nil_append,cj,decide_eq_false_iff_not,ite_not,↓reduceIte,a2,aO,a0,bq,ey,dU,dV,bc,bM,cr,Nat.reduceAdd,List.all_cons,List.all_nil,dj,c5,dm,dE,bA,↓a9,Nat.reduceLeDiff,aC,cN,cQ,↓(bx (yg G X x.op _)),ov,ow,B0]
def acc(want is:Int):Bool:=decide (is=want)||(decide (want=0)&&(decide (is=2)||decide (is=3)))
theorem RF(want is:Int)(s:ag):aX a4 G X 50 [I want,I is] s=.ok (.bool (acc want is)) s:=by
 rw[GH,Ri,bB];unfold acc;by_cases ar:is=want
 ·simp -implicitDefEqProofs only[eJ ar,g0,gH,aD,Bool.true_or,cI]
 ·simp -implicitDefEqProofs only[dT ar,fo,fO,Bool.false_or,bB];by_cases ay:want=0
  ·simp -implicitDefEqProofs only[eJ ay,gQ,bB,eT];by_cases ch:is=2
   ·simp -implicitDefEqProofs only[eJ ch,g0,gQ,gH,aD,Bool.true_or]
   ·simp -implicitDefEqProofs only[dT ch,fo,gQ,fO,gH,aD,Bool.false_or,bB]
  ·simp -implicitDefEqProofs only[dT ay,h1,fo,fO,aD,fK,cI]
def mF(ku e:gh):Bool:= !ku.neg&& !e.neg&&decide (ku.rh=[])&&decide (e.rh=[])
abbrev FP(ku e:gh):ae:=.agg [.bool ku.neg,ku.v,.bool e.neg,e.v]
theorem X8(l:List Nat):decide (((l.map U).length:Int)=0)=decide (l=[]):=by congr 1;rw[eq_iff_iff];cases l<;> simp <;> omega
theorem FQ(ku e:gh)(s:ag):aX a4 G X 72 [FP ku e] s=.ok (.bool (mF ku e)) s:=by
 rw[GJ,Rk];unfold mF;cases ar:ku.neg with
 |true=>simp -implicitDefEqProofs only[gh.v,ar,↓cx,↓cy,↓bH,↓bd,↓ax,↓az,↓av,↓aA,↓aF,↓aG,↓aw,↓aB,↓aU,↓aM,↓aP,↓bf,↓dG,↓aL,↓bl,↓bP,↓cR,↓bW,↓bX,↓bQ,↓bY,↓bZ,↓b0,↓b1,↓b2,↓b3,↓bn,↓bo,↓bp,↓cS,↓cT,↓cU,↓cV,↓cW,↓cX,↓cY,↓cZ,↓c0,↓b4,↓b5,↓b6,↓bB,↓cK,↓bE,↓c1,↓bJ,↓cv,↓cJ,↓c2,↓aQ,↓aH,↓aR,↓aI,↓aD,↓aS,↓cH,↓bR,↓bS,↓b7,↓b8,↓b9,↓ca,↓cb,↓cc,↓cd,↓cf,↓dq,↓dr,↓c6,↓dA,↓ck,↓cl,↓cw,↓c8,bV,dJ,cj,decide_eq_false_iff_not,ite_not,↓reduceIte,a2,aO,a0,bq,bc,bM,cr,Nat.reduceAdd,bA,↓a9,Nat.reduceLeDiff,aC,cN,cQ,dx,du,bL,gV,fK,cI,h1,fO]
 |false=>
  cases ay:e.neg with
  |true=>simp -implicitDefEqProofs only[gh.v,ar,ay,↓cx,↓cy,↓bH,↓bd,↓ax,↓az,↓av,↓aA,↓aF,↓aG,↓aw,↓aB,↓aU,↓aM,↓aP,↓bf,↓dG,↓aL,↓bl,↓bP,↓cR,↓bW,↓bX,↓bQ,↓bY,↓bZ,↓b0,↓b1,↓b2,↓b3,↓bn,↓bo,↓bp,↓cS,↓cT,↓cU,↓cV,↓cW,↓cX,↓cY,↓cZ,↓c0,↓b4,↓b5,↓b6,↓bB,↓cK,↓bE,↓c1,↓bJ,↓cv,↓cJ,↓c2,↓aQ,↓aH,↓aR,↓aI,↓aD,↓aS,↓cH,↓bR,↓bS,↓b7,↓b8,↓b9,↓ca,↓cb,↓cc,↓cd,↓cf,↓dq,↓dr,↓c6,↓dA,↓ck,↓cl,↓cw,↓c8,bV,dJ,cj,decide_eq_false_iff_not,ite_not,↓reduceIte,a2,aO,a0,bq,bc,bM,cr,Nat.reduceAdd,bA,↓a9,Nat.reduceLeDiff,aC,cN,cQ,dx,du,bL,gV,gJ,fK,Bool.and_false,cI,h1,gQ,fO,gH]
  |false=>
   by_cases ch:ku.rh=[]
   ·simp -implicitDefEqProofs only[gh.v,ar,ay,↓cx,↓cy,↓bH,↓bd,↓ax,↓az,↓av,↓aA,↓aF,↓aG,↓aw,↓aB,↓aU,↓aM,↓aP,↓bf,↓dG,↓aL,↓bl,↓bP,↓cR,↓bW,↓bX,↓bQ,↓bY,↓bZ,↓b0,↓b1,↓b2,↓b3,↓bn,↓bo,↓bp,↓cS,↓cT,↓cU,↓cV,↓cW,↓cX,↓cY,↓cZ,↓c0,↓b4,↓b5,↓b6,↓bB,↓cK,↓bE,↓c1,↓bJ,↓cv,↓cJ,↓c2,↓aQ,↓aH,↓aR,↓aI,↓aD,↓aS,↓cH,↓bR,↓bS,↓b7,↓b8,↓b9,↓ca,↓cb,↓cc,↓cd,↓cf,↓dq,↓dr,↓c6,↓dA,↓ck,↓cl,↓cw,↓c8,bV,dJ,cj,decide_eq_false_iff_not,ite_not,↓reduceIte,a2,aO,a0,bq,bc,bM,cr,Nat.reduceAdd,bA,↓a9,Nat.reduceLeDiff,aC,cN,cQ,dx,du,bL,gJ,eT,X8,eq_true ch,if_true]
   ·have h:¬((ku.rh.map U).length:Int)=0:=by
     rw[ht];have:=List.length_pos_iff.2 ch;omega
    simp -implicitDefEqProofs only[gh.v,ar,ay,↓cx,↓cy,↓bH,↓bd,↓ax,↓az,↓av,↓aA,↓aF,↓aG,↓aw,↓aB,↓aU,↓aM,↓aP,↓bf,↓dG,↓aL,↓bl,↓bP,↓cR,↓bW,↓bX,↓bQ,↓bY,↓bZ,↓b0,↓b1,↓b2,↓b3,↓bn,↓bo,↓bp,↓cS,↓cT,↓cU,↓cV,↓cW,↓cX,↓cY,↓cZ,↓c0,↓b4,↓b5,↓b6,↓bB,↓cK,↓bE,↓c1,↓bJ,↓cv,↓cJ,↓c2,↓aQ,↓aH,↓aR,↓aI,↓aD,↓aS,↓cH,↓bR,↓bS,↓b7,↓b8,↓b9,↓ca,↓cb,↓cc,↓cd,↓cf,↓dq,↓dr,↓c6,↓dA,↓ck,↓cl,↓cw,↓c8,bV,dJ,cj,decide_eq_false_iff_not,ite_not,↓reduceIte,a2,aO,a0,bq,bc,bM,cr,Nat.reduceAdd,bA,↓a9,Nat.reduceLeDiff,aC,cN,cQ,dx,du,bL,gJ,eT,eq_false h,eq_false ch,fK]
theorem FR{s:ag}{k:bb}(a b:List Nat):(a3 a4 G X).ai s k (ao .eql (.str a) (.str b))=k (.bool (decide (a=b))) s:=by show k (.bool (a==b)) s=_;congr 2;exact(by rw[Bool.eq_iff_iff];simp)
theorem RG{S:ag}{k:bb}{d j o:Nat}{cs:List ae}{c:ae}(h:S.get (.g d j)=some (.cells cs))(aW:cs[o]? =some c):(a3 a4 G X).aK S k none (.ref (.g d j) o)=k c S:=by
 rw[ha];simp -implicitDefEqProofs only[dP,h,ew]
 have:cs.drop o=c::cs.drop (o+1):=by have e:=(ez.1 aW);rw[kk e.1,e.2]
 rw[this];rfl
theorem RH(o x:be)(s:ag)(d j:Nat)(cF:d≤s.aa)(h:s.get (.g d j)=some (.cells x.cs)):aX a4 G X 74 [o.enc,.ref (.g d j) 0] s=.ok (.bool (decide (o.name=x.name))) s:=by
 have ay:s.ak.get (.g d j)=some (.cells x.cs):=(Child.ak s).nZ.2 d j _ cF h;have l:=fun(k:bb)=>RG G X (k:=k) (o:=0+0) ay (c:=.str x.name) rfl
 rw[GL,Rm];simp -implicitDefEqProofs only[be.enc];rw[ax];simp -implicitDefEqProofs only[be.cs] at *;rw[dG,bV,bf,aL,l,FR,aD]
def oJ(ry:List Nat):List be→Nat→Int
 |[],_=> -1
 |o::r,i=>if o.name=ry then(i:Int) else oJ ry r (i+1)
theorem pk(ry:List Nat):∀(l:List be) (i:Nat),decide (0≤oJ ry l i)=l.any fun o=>decide (o.name=ry)
 |[],i=>rfl
 |o::r,i=>by
  rw[List.any_cons];by_cases h:o.name=ry
  ·have e:oJ ry (o::r) i=(i:Int):=if_pos h;simp [e,h]
  ·have e:oJ ry (o::r) i=oJ ry r (i+1):=if_neg h;have p:=pk ry r (i+1);simp [e,h] at p ⊢;exact p
abbrev dZ(l:List be)(g:ga):ae:=.cm 12 (l.map be.enc) g
theorem yh(x:be):x.cs.take 12=x.cs:=rfl
theorem RI(l:List be)(g:ga)(x:be)(s:ag)(d j:Nat)(cF:d≤s.aa)(h:s.get (.g d j)=some (.cells x.cs))(bO:l.length<9223372036854775807):aX a4 G X 62 [dZ l g,.fn 74 [.ref (.g d j) 0]] s=.ok (I (oJ x.name l 0)) s:=by
 have loop:∀n i:Nat,i+n=l.length→tj (a3 a4 G X) (dZ l g) (.fn 74 [.ref (.g d j) 0]) (.int .i64 (l.length:Int)) (.int .i64 (i:Int)) s.ak=.ok (I (oJ x.name (l.drop i) i)) s:=by
  intro n
  induction n with
  |zero=>
   intro i bN;have e:¬(i:Int)<(l.length:Int):=by omega
   rw[u2,bE,dT e,hH,CO,aI,n0 (by omega)];rfl
  |succ n q=>
   intro i bN;have e:(i:Int)<(l.length:Int):=by omega
   have p:i<l.length:=by omega
   have r:(l.map be.enc)[i]? =some l[i].enc:=by simp [p]
   have c:=RH G X l[i] x s.ak d j (by have:=(Child.ak s).aa;omega) ((Child.ak s).nZ.2 d j _ cF h);have y:=fun S k=>q8 G X S k i (by omega)
   rw[u2,bE,eJ e,fT,CN,nG _ _ _ _ _ _ r];simp -implicitDefEqProofs only[be.enc,ae.cells];rw[a9 _ _ (aC 12),yh,a2,bl];simp -implicitDefEqProofs only[be.enc] at c;simp -implicitDefEqProofs only[List.cons_append,List.nil_append];rw[bx c,kk p,oJ];by_cases df:l[i].name=x.name
   ·rw[eJ df,fT,aI,if_pos df]
   ·rw[dT df,hH,CM,y,if_neg df];exact q (i+1) (by omega)
 rw[GM,Rn,aU,ht];exact loop l.length 0 (by omega)
theorem RJ(l:List be)(g:ga)(cE:∀a,g≠.dW a)(x:be)(s:ag)(d j:Nat)(cF:d≤s.aa)(h:s.get (.g d j)=some (.cells x.cs))(bO:l.length<9223372036854775807):aX a4 G X 73 [dZ l g,.fn 74 [.ref (.g d j) 0]] s=.ok (.bool (l.any fun o=>decide (o.name=x.name))) s:=by
 have c:=RI G X l g x s.ak d j (by have:=(Child.ak s).aa;omega) ((Child.ak s).nZ.2 d j _ cF h) bO;rw[GK,Rl];have e:ae.aq s.ak.aa (dZ l g)=dZ l g:=by simp -implicitDefEqProofs only[ae.aq,Lg cE]
 rw[e,ey,bx c,cv,pk,aD]
def lg(pre:List be)(w a:Int):Bool:=decide (0≤a∧a<(pre.length:Int))&&acc w (match pre[a.toNat]? with |some o=>oH o.op|none=>0)
def iw(pre:List be):List Int→List Int→Bool
 |w::ws,a::as=>lg pre w a&&iw pre ws as
 |_,_=>true
def FT(op pj:Int):Bool:=if oI op=true then decide (pj=1∨pj=2) else decide (pj=0)
def fU(ku e:gh):Bool:=mE ku.neg e.neg ku.rh e.rh
def sM(x:be):Bool:=
 if x.op=1 then fU x.li x.cg&&fU x.ru x.pI else if x.op=2 then fU x.li x.cg&&mF x.ru x.pI else mF x.li x.cg&&mF x.ru x.pI
def lE(pre:List be)(x:be):Bool:=pre.any fun o=>decide (o.name=x.name)
def wf(pre:List be)(x:be):Bool:=
 decide (oH x.op≠0)&&decide ((nj x.op).length=x.args.length)&&decide (x.name≠[])&&(iw pre (nj x.op) x.args&&(FT x.op x.pj&&(sM x&& !lE pre x)))
section
variable(x:be)(s:ag)(k:bb)
theorem X9:(a3 a4 G X).aK (s.new (.cells x.cs)) k none (.ref (.l s.own.length) 0)=k (.str x.name) (s.new (.cells x.cs)):=bS _ _
theorem WJ(o:Nat)(c:ae)(h:x.cs[o]? =some c):(a3 a4 G X).aK (s.new (.cells x.cs)) k none (.ref (.l s.own.length) o)=k c (s.new (.cells x.cs)):=wJ (by simp [ag.new]) h
theorem wZ:(a3 a4 G X).aK (s.new (.cells x.cs)) k none (.ref (.l s.own.length) 1)=k (I x.op) (s.new (.cells x.cs)):=WJ G X x s k 1 _ rfl
theorem So:(a3 a4 G X).aK (s.new (.cells x.cs)) k none (.ref (.l s.own.length) 2)=k (oX x.args x.sK) (s.new (.cells x.cs)):=WJ G X x s k 2 _ rfl
theorem rX:(a3 a4 G X).aK (s.new (.cells x.cs)) k none (.ref (.l s.own.length) 11)=k (I x.pj) (s.new (.cells x.cs)):=WJ G X x s k 11 _ rfl
theorem Sp(o:Nat)(h:o+4≤12):(a3 a4 G X).aK (s.new (.cells x.cs)) k (some 4) (.ref (.l s.own.length) o)=k (.agg ((x.cs.drop o).take 4)) (s.new (.cells x.cs)):=by rw[ha];simp -implicitDefEqProofs only[dP,gM,ew];rw[show Nat.ble 4 (x.cs.drop o).length=true from eK (by simp;show 4≤12-o;omega)];rfl
theorem Li:(a3 a4 G X).aK (s.new (.cells x.cs)) k (some 4) (.ref (.l s.own.length) 3)=k (FP x.li x.cg) (s.new (.cells x.cs)):=Sp G X x s k 3 (by omega)
theorem Lj:(a3 a4 G X).aK (s.new (.cells x.cs)) k (some 4) (.ref (.l s.own.length) 7)=k (FP x.ru x.pI) (s.new (.cells x.cs)):=Sp G X x s k 7 (by omega)
end
theorem Bp{ku e:gh}(ar:jS ku)(ay:jS e)(s:ag):aX a4 G X 71 [FP ku e] s=.ok (.bool (fU ku e)) s:=RC G X s ku.neg e.neg ku.v e.v ku.rh e.rh ar.ix ay.ix ar.ok ay.ok ar.len ay.len
theorem FU(l:List be){g:ga}(cE:∀a,g≠.dW a)(n:Nat)(df:n≤l.length)(S:ag)(k:bb):(a3 a4 G X).jr 12 (dZ l g) none (some (.int .i64 (n:Int))) none S k=k (dZ (l.take n) (ot g l.length n)) S:=by show my 12 (.cm 12 (l.map be.enc) g) none (some (.int .i64 (n:Int))) none S k=_;unfold my;simp -implicitDefEqProofs only[oV,gL,hj,Nat.zero_le,eK (Nat.zero_le n),show Nat.ble n (l.map be.enc).length=true from eK (by simpa using df),show oM g 0 n (l.map be.enc)=true from by cases g<;> first|rfl |exact absurd rfl (cE _),bA,ci,bV,Nat.sub_zero,List.map_take,dZ];cases g<;> first|rfl |exact absurd rfl (cE _)|simp [ot]
theorem nO(l:List be){g:ga}(cE:∀a,g≠.dW a)(d:Nat):ae.aq d (dZ l g)=dZ l g:=by simp -implicitDefEqProofs only[ae.aq,Lg cE]
theorem yi(d i o:Nat):ae.aq d (.ref (.l i) o)=.ref (.g d i) o:=rfl
theorem Dq(s:ag)(o:cO):(s.new o).get (.g (s.new o).aa s.own.length)=some o:=by simp [ag.get,ag.new]
theorem pL{s:ag}{k:bb}(b:Bool):(a3 a4 G X).ai s k (kl .not (.bool b))=k (.bool (!b)) s:=cJ b
section
variable(pre:List be)(x:be)(g:ga)(cE:∀a,g≠.dW a)(s:ag)(gb:pre.length<9223372036854775806)(aZ:oG x)
include cE gb
theorem Dr:x4 (a3 a4 G X) (dZ (pre++[x]) g) (.int .i64 (pre.length:Int)) (.ref (.l s.ak.own.length) 0) (s.ak.new (.cells x.cs))=.ok (.bool (!lE pre x)) s:=by
 have cm:=fun(S:ag) (k:bb)=>FU G X (pre++[x]) cE pre.length (by simp) S k
 rw[List.take_left' rfl] at cm;have e:=uB cE (pre++[x]).length pre.length;have c:=RJ G X pre _ e x (s.ak.new (.cells x.cs)) _ _ (aC _) (Dq s.ak (.cells x.cs)) (by omega);rw[CD,cm,cx,yi,nO _ e,ey];rw[bx c,cJ,i5 ((Child.ak s).new _)];rfl
include aZ
theorem Ds:x5 (a3 a4 G X) (dZ (pre++[x]) g) (.int .i64 (pre.length:Int)) (.ref (.l s.ak.own.length) 0) (s.ak.new (.cells x.cs))=.ok (.bool (sM x&& !lE pre x)) s:=by
 have e:=Dr G X pre x g cE s gb;have dY:=Bp G X aZ.li aZ.cg (s.ak.new (.cells x.cs));have q:=Bp G X aZ.ru aZ.pI (s.ak.new (.cells x.cs));have dI:=FQ G X x.li x.cg (s.ak.new (.cells x.cs));have h:=FQ G X x.ru x.pI (s.ak.new (.cells x.cs));have fin:=fun b=>i5 (T:=a4) (G:=G) (X:=X) ((Child.ak s).new (.cells x.cs)) b
 rw[CE,aL,bc,wZ,bB];unfold sM;by_cases ar:x.op=1
 ·simp -implicitDefEqProofs only[eJ ar,g0,gH,aL,bc,↓wZ,↓bB,gQ,↓Li,a2,↓(bx dY),pL,if_pos ar,cI];cases bD:fU x.li x.cg with
  |false=>simp -implicitDefEqProofs only[gJ,g0,gH,fo,h1,gQ,fO,fT,fin,fK,cI]
  |true=>
   simp -implicitDefEqProofs only[gV,fo,h1,fO,gQ,cI,↓Lj,a2,↓(bx q),pL];cases p:fU x.ru x.pI with
   |false=>simp -implicitDefEqProofs only[gJ,gV,g0,gH,fo,h1,gQ,fO,fT,fin,fK,eT,cI]
   |true=>simp -implicitDefEqProofs only[gV,fo,h1,fO,gH,gQ,cI,pL,hH,e,eT]
 ·by_cases ay:x.op=2
  ·simp -implicitDefEqProofs only[dT ar,fo,fO,aL,bc,↓wZ,↓bB,eJ ay,gQ,↓Li,a2,↓(bx dY),pL,if_neg ar,if_pos ay,cI];cases bD:fU x.li x.cg with
   |false=>simp -implicitDefEqProofs only[gJ,g0,gH,fo,h1,gQ,fO,fT,fin,fK,cI]
   |true=>
    simp -implicitDefEqProofs only[gV,gJ,fo,h1,fO,gH,gQ,cI,↓Lj,a2,↓(bx h),pL];cases p:mF x.ru x.pI with
    |false=>simp -implicitDefEqProofs only[gJ,gV,g0,gH,fo,h1,gQ,fO,fT,fin,fK,eT,cI]
    |true=>simp -implicitDefEqProofs only[gV,fo,h1,fO,gH,gQ,cI,pL,hH,e,eT]
  ·simp -implicitDefEqProofs only[dT ar,fo,fO,aL,bc,↓wZ,↓bB,dT ay,h1,gQ,↓Li,a2,↓(bx dI),pL,if_neg ar,if_neg ay,cI,gJ];cases bD:mF x.li x.cg with
   |false=>simp -implicitDefEqProofs only[gJ,g0,gH,fo,h1,gQ,fO,fT,fin,fK,cI]
   |true=>
    simp -implicitDefEqProofs only[gV,gJ,fo,h1,fO,gH,gQ,cI,↓Lj,a2,↓(bx h),pL];cases p:mF x.ru x.pI with
    |false=>simp -implicitDefEqProofs only[gJ,gV,g0,gH,fo,h1,gQ,fO,fT,fin,fK,eT,cI]
    |true=>simp -implicitDefEqProofs only[gV,fo,h1,fO,gH,gQ,cI,pL,hH,e,eT]
theorem Dt:x6 (a3 a4 G X) (dZ (pre++[x]) g) (.int .i64 (pre.length:Int)) (.ref (.l s.ak.own.length) 0) (.bool (oI x.op)) (s.ak.new (.cells x.cs))=.ok (.bool (FT x.op x.pj&&(sM x&& !lE pre x))) s:=by
 have h:=Ds G X pre x g cE s gb aZ;have fin:=fun b=>i5 (T:=a4) (G:=G) (X:=X) ((Child.ak s).new (.cells x.cs)) b
 have e:∀(a b:Bool) (k:bb) (S:ag),(a3 a4 G X).ai S k ((pt .bool (.bool a) (.bool b)).map fun b=>.bool (bif true then !b else b))=k (.bool (!(a==b))) S:=fun a b k S=>rfl
 rw[CF,aL,bc,rX,bB];unfold FT;cases p:oI x.op with
 |true=>
  by_cases ar:x.pj=1
  ·simp -implicitDefEqProofs only[eJ ar,g0,gH,e,show(!(true==true))=false from rfl,fo,gV,h1,fO,hH,h,if_true,eq_true (Or.inl ar:x.pj=1∨x.pj=2),dx,eT,cI,pL]
  ·by_cases ay:x.pj=2
   ·simp -implicitDefEqProofs only[dT ar,fo,fO,aL,bc,↓rX,↓bB,eJ ay,e,show(!(true==true))=false from rfl,gV,h1,hH,h,if_true,eq_true (Or.inr ay:x.pj=1∨x.pj=2),dx,eT,cI,pL]
   ·have ch:¬(x.pj=1∨x.pj=2):=by omega
    simp -implicitDefEqProofs only[dT ar,fo,fO,aL,bc,↓rX,↓bB,dT ay,e,show(!(true==false))=true from rfl,g0,gH,fT,fin,if_true,eq_false ch,du,fK,cI,pL]
 |false=>
  by_cases eU:x.pj=0
  ·have ar:¬x.pj=1:=by omega
   have ay:¬x.pj=2:=by omega
   simp -implicitDefEqProofs only[dT ar,fo,fO,aL,bc,↓rX,↓bB,dT ay,e,show(!(false==false))=false from rfl,gJ,gQ,cK,dT (not_not_intro eU),fO,gH,hH,h,bL,if_false,eJ eU,eT,pL]
  ·by_cases ar:x.pj=1
   ·simp -implicitDefEqProofs only[eJ ar,g0,gH,e,show(!(false==true))=true from rfl,fT,fin,bL,if_false,dT eU,fK,cI]
   ·by_cases ay:x.pj=2
    ·simp -implicitDefEqProofs only[dT ar,fo,fO,aL,bc,↓rX,↓bB,eJ ay,e,show(!(false==true))=true from rfl,g0,gH,fT,fin,bL,if_false,dT eU,fK,cI]
    ·simp -implicitDefEqProofs only[dT ar,fo,fO,aL,bc,↓rX,↓bB,dT ay,e,show(!(false==false))=false from rfl,gJ,gQ,cK,eq_true eU,not_false_eq_true,dx,gH,fT,fin,bL,if_false,dT eU,fK,pL]
theorem Du(ws:List Int)(p:ga)(ab:ws.length=x.args.length):∀n i:Nat,i+n=x.args.length→(∀o,o∈pre→oG o)→
  th (a3 a4 G X) (dZ (pre++[x]) g) (.int .i64 (pre.length:Int)) (.ref (.l s.ak.own.length) 0) (oX ws p) (.bool (oI x.op)) (oX x.args x.sK) (.int .i64 (x.args.length:Int)) (.int .i64 (i:Int)) (s.ak.new (.cells x.cs))=.ok (.bool (iw pre (ws.drop i) (x.args.drop i)&&(FT x.op x.pj&&(sM x&& !lE pre x)))) s:=by
 have fin:=fun b=>i5 (T:=a4) (G:=G) (X:=X) ((Child.ak s).new (.cells x.cs)) b
 intro n
 induction n with
 |zero=>
  intro i bN q;have e:¬(i:Int)<(x.args.length:Int):=by omega
  rw[uZ,bE,dT e,hH,Dt G X pre x g cE s gb aZ,n0 (by omega),n0 (by omega)];simp -implicitDefEqProofs only[iw,eT]
 |succ n B=>
  intro i bN q;have e:(i:Int)<(x.args.length:Int):=by omega
  have r:i<x.args.length:=by omega
  have y:i<ws.length:=by omega
  have ac:=aZ.WU;have F:(x.args.map I)[i]? =some (I x.args[i]):=by simp [r]
  have H:(ws.map I)[i]? =some (I ws[i]):=by simp [y]
  have J:∀k:bb,(a3 a4 G X).c7 (s.ak.new (.cells x.cs)) k 1 (oX x.args x.sK) (.int .i64 (i:Int))=k (.bU [I x.args[i]]) (s.ak.new (.cells x.cs)):=fun k=>nG (T:=a4) (G:=G) (X:=X) (s:=s.ak.new (.cells x.cs)) (k:=k) 1 _ x.sK .i64 i _ F
  have M:∀k:bb,(a3 a4 G X).c7 (s.ak.new (.cells x.cs)) k 1 (oX ws p) (.int .i64 (i:Int))=k (.bU [I ws[i]]) (s.ak.new (.cells x.cs)):=fun k=>nG (T:=a4) (G:=G) (X:=X) (s:=s.ak.new (.cells x.cs)) (k:=k) 1 _ p .i64 i _ H
  have N:=fun S k=>q8 G X S k i (by omega)
  rw[uZ,bE,eJ e,fT,CC,J,bf,bE,kk r,kk y,iw];unfold lg;by_cases ar:x.args[i]<0
  ·have ay:¬(0≤x.args[i]∧x.args[i]<(pre.length:Int)):=by omega
   simp -implicitDefEqProofs only[eJ ar,g0,gH,fT,fin,dT ay,fK,cI]
  ·by_cases ay:(pre.length:Int)≤x.args[i]
   ·have ch:¬(0≤x.args[i]∧x.args[i]<(pre.length:Int)):=by omega
    simp -implicitDefEqProofs only[dT ar,fo,fO,cv,eJ ay,g0,gH,fT,fin,dT ch,fK,cI]
   ·have ch:0≤x.args[i]∧x.args[i]<(pre.length:Int):=by omega
    have h:x.args[i].toNat<pre.length:=by omega
    have O:((pre++[x]).map be.enc)[x.args[i].toNat]? =some pre[x.args[i].toNat].enc:=by rw[iy,g1 h,fB h];rfl
    have U:pre[x.args[i].toNat]? =some pre[x.args[i].toNat]:=fB h;have ip:=fun(k:bb)=>LR (T:=a4) (G:=G) (X:=X) (s:=s.ak.new (.cells x.cs)) (k:=k) 12 _ g .i64 x.args[i] _ ch.1 O
    generalize V:pre[x.args[i].toNat]=o at *;have jJ:o∈pre:=V ▸ w3 h;have IA:=RD G X o {own:=[],up:=[],ro:=[]};have Y:ae.a6 [o.enc]=true:=by simp -implicitDefEqProofs only[ae.a6,(q o jJ).bj,bA]
    have I6:=RF G X ws[i] (oH o.op) (s.ak.new (.cells x.cs));have A:=fun(k:bb)=>a9 (T:=a4) (G:=G) (X:=X) (s:=s.ak.new (.cells x.cs)) (k:=k) 12 o.cs (aC 12)
    rw[yh] at A;have Z:∀k:bb,(a3 a4 G X).aK (s.ak.new (.cells x.cs)) k (some 12) (.bU o.enc.cells)=k o.enc (s.ak.new (.cells x.cs)):=A;have aa:∀d,ae.aq d o.enc=o.enc:=fun d=>rfl
    simp -implicitDefEqProofs only[dT ar,fo,fO,cv,dT ay,M,ae.cells,bf];rw[ip,Z,aa,j4 Y IA rfl,aO,aO,bx I6,pL];simp -implicitDefEqProofs only[U,eJ ch,eT];cases ad:acc ws[i] (oH o.op) with
    |false=>simp -implicitDefEqProofs only[gJ,fT,fin,fK]
    |true=>simp -implicitDefEqProofs only[gV,hH,eT,CB,N];exact B (i+1) (by omega) q
theorem RK(q:∀o,o∈pre→oG o):aX a4 G X 42 [dZ (pre++[x]) g] s=.ok (.bool (wf pre x)) s:=by
 have fin:=fun b=>i5 (T:=a4) (G:=G) (X:=X) ((Child.ak s).new (.cells x.cs)) b
 have r:((pre++[x]).map be.enc)[pre.length]? =some x.enc:=by rw[iy,im (aC _),Nat.sub_self];rfl
 have ip:=fun S k=>WH G X S k 12 _ g .i64 pre.length _ r
 have dR:=fun(S:ag) (k:bb)=>jt (T:=a4) (G:=G) (X:=X) (s:=S) (k:=k) (pre.length+1) (by omega) (by omega)
 simp -implicitDefEqProofs only[Nat.add_sub_cancel] at dR;have y:∀(S:ag) (k:bb),(a3 a4 G X).aK S k (some 12) (.bU x.enc.cells)=k x.enc S:=fun S k=>a9 (T:=a4) (G:=G) (X:=X) (s:=S) (k:=k) 12 x.cs (aC 12)
 have A:∀d,ae.aq d x.enc=x.enc:=fun d=>rfl
 have gq:=fun(k:bb) (cs:List ae) (h:cs.length=12)=>cH (T:=a4) (G:=G) (X:=X) (s:=s.ak) (k:=k) 12 x.cs cs rfl h x.cells
 have wQ:=yg G X x.op (s.ak.new (.cells x.cs));have H:=aZ.WU;have B:=fun h=>Du G X pre x g cE s gb aZ (nj x.op) (FO x.op) h x.args.length 0 (by omega) q
 have F:((nj x.op).map I).length=(nj x.op).length:=ht ..;have p:(x.args.map I).length=x.args.length:=ht ..;rw[GC,Rd,aU,ht,f9,List.length_singleton,dR,ip,y,cx,A];refine(gq _ _ rfl).trans ?_;rw[aL,bc,wZ,aO,bx wQ,ov,ow,B0,bB];unfold wf;by_cases eU:oH x.op=0
 ·simp -implicitDefEqProofs only[eJ eU,g0,gH,fT,fin,dT (not_not_intro eU:¬oH x.op≠0),fK,cI]
 ·simp -implicitDefEqProofs only[dT eU,fo,fO,aU,aL,bc,↓So,cK,F,p,eJ (show oH x.op≠0 from eU),eT];by_cases ar:(nj x.op).length=x.args.length
  ·have e:¬¬((nj x.op).length:Int)=(x.args.length:Int):=by omega
   simp -implicitDefEqProofs only[dT e,fo,fO,aL,bc,↓X9,FR,eJ ar,eT];by_cases ay:x.name=[]
   ·simp -implicitDefEqProofs only[eJ ay,fO,fT,fin,dT (not_not_intro ay:¬x.name≠[]),fK]
   ·simp -implicitDefEqProofs only[dT ay,fO,hH,CG,aL,bc,↓So,aU,p,eJ (show x.name≠[] from ay),eT]
    have:=B ar;simp -implicitDefEqProofs only[bV] at this;exact this
  ·have e:¬((nj x.op).length:Int)=(x.args.length:Int):=by omega
   simp -implicitDefEqProofs only[eJ e,g0,gH,fT,fin,dT ar,fK,cI]
end
abbrev s0(p:Nat×Nat):ae:=.agg [I p.1,I p.2]
def md(i:Nat)(x:be):List (Nat×Nat):=if x.op=1 then[(i,0),(i,1)] else if x.op=2 then[(i,0)] else[]
def jP:List be→Nat→List (Nat×Nat)
 |[],_=>[]
 |x::r,i=>md i x++jP r (i+1)
theorem Dv(i:Nat)(x:be):(md i x).length≤2:=by unfold md;split<;> (try split)<;> simp
theorem nP:∀l:List (Nat×Nat),ae.a6 (l.map s0)=true
 |[]=>rfl
 |x::l=>by simp -implicitDefEqProofs only[fM,ae.a6,nP l,Bool.and_true];rfl
theorem w0:∀l:List (Nat×Nat),((l.map s0).flatMap ae.cells).all ae.eO=true
 |[]=>rfl
 |x::l=>by simp -implicitDefEqProofs only[fM,List.flatMap_cons,List.all_append,w0 l,Bool.and_true];rfl
theorem Lk{S:ag}{k:bb}(l:List (Nat×Nat)):(a3 a4 G X).bG S k 2 (l.map s0)=k (.cm 2 (l.map s0) .exact) S:=by
 refine kQ 2 _ (nP l) ?_
 induction l with
 |nil=>rfl
 |cons x l e=>simp -implicitDefEqProofs only[fM,List.all_cons,e,Bool.and_true];rfl
theorem G3{α β:Type}(f:α→β)(l:List α):nb (l.map f)=nb l:=by cases l<;> rfl
theorem yj{S:ag}(a b:Nat)(k:bb):(a3 a4 G X).eh [.int .i64 0,.int .i64 0] [(0,1,.int .i64 (a:Int)),(1,1,.int .i64 (b:Int))] S k=k (s0 (a,b)) S:=rfl
theorem RL(l:List be)(g:ga)(s:ag)(bO:l.length≤1000):aX a4 G X 44 [dZ l g] s=.ok (.cm 2 ((jP l 0).map s0) (nb (jP l 0))) s:=by
 have loop:∀n i:Nat,i+n=l.length→∀(es:List (Nat×Nat)) (ge:ga) (S:ag),Child s S→iv S ge es.length→es.length≤2*i→
   ti (a3 a4 G X) (.cm 2 (es.map s0) ge) (dZ l g) (.int .i64 (l.length:Int)) (.int .i64 (i:Int)) S=.ok (.cm 2 ((es++jP (l.drop i) i).map s0) (nb (es++jP (l.drop i) i))) s:=by
  intro n
  induction n with
  |zero=>
   intro i bN es ge S p cE he;have e:¬(i:Int)<(l.length:Int):=by omega
   rw[u1,bE,dT e,hH,CI,n0 (by omega)];simp -implicitDefEqProofs only[jP,Bz]
   have:=xH (S:=S) (sz:=2) (es:=es.map s0) (g:=ge) (by simpa using cE) (nP es);rw[G3] at this;exact js p _ _ this
  |succ n q=>
   intro i bN es ge S p cE he;have e:(i:Int)<(l.length:Int):=by omega
   have r:i<l.length:=by omega
   have F:(l.map be.enc)[i]? =some l[i].enc:=by simp [r]
   have ip:=fun(k:bb)=>WH G X S k 12 _ g .i64 i _ F
   have H:∀x,l[i]=x→l.drop i=x::l.drop (i+1):=fun x aZ=>by rw[←aZ];exact kk r
   generalize aZ:l[i]=x at *;have I:∀(S:ag) (k:bb),(a3 a4 G X).aK S k (some 12) (.bU x.enc.cells)=k x.enc S:=fun S k=>a9 (T:=a4) (G:=G) (X:=X) (s:=S) (k:=k) 12 x.cs (aC 12)
   have J:∀d,ae.aq d x.enc=x.enc:=fun d=>rfl
   have gq:=fun(k:bb) (cs:List ae) (h:cs.length=12)=>cH (T:=a4) (G:=G) (X:=X) (s:=S) (k:=k) 12 x.cs cs rfl h x.cells
   have y:=fun S k=>q8 G X S k i (by omega)
   have cF:=H x rfl;have A:iv (S.new (.cells x.cs)) ge es.length:=cE.new _;have app:∀new:List (Nat×Nat),new=md i x→new≠[]→(a3 a4 G X).hs (S.new (.cells x.cs)) (fun v S=>q3 (a3 a4 G X) v (dZ l g) (.int .i64 (l.length:Int)) (.int .i64 (i:Int)) S) 2 16 (some (.l 0)) (.cm 2 (es.map s0) ge) (.cm 2 (new.map s0) .exact)=.ok (.cm 2 ((es++jP (l.drop i) i).map s0) (nb (es++jP (l.drop i) i))) s:=fun new B e6=>by
    have hlen:new.length≤2:=by rw[B];exact Dv i x
    refine wI (by simpa using A) (by simpa using e6) (by simp;omega) (w0 new) (fun g' S' M ar ay ch N=>?_);rw[u0,y,←List.map_append]
    have:=q (i+1) (by omega) (es++new) g' S' (N.child (p.new _)) (by simpa using M) (by simp;omega);rw[this,cF];simp -implicitDefEqProofs only[jP,B,tr]
   rw[u1,bE,eJ e,fT,CH,ip,I,cx,J];refine(gq _ _ rfl).trans ?_;rw[aL,bc,wZ,bB];by_cases ar:x.op=1
   ·have bN:md i x=[(i,0),(i,1)]:=by unfold md;rw[if_pos ar]
    have a:=app _ bN.symm (by simp);rw[eJ ar,fT];refine(yj G X i 0 _).trans ?_;refine(yj G X i 1 _).trans ?_;refine(Lk G X [(i,0),(i,1)]).trans ?_;exact a
   ·rw[dT ar,hH,bB];by_cases ay:x.op=2
    ·have bN:md i x=[(i,0)]:=by unfold md;rw[if_neg ar,if_pos ay]
     have a:=app _ bN.symm (by simp);rw[eJ ay,fT];refine(yj G X i 0 _).trans ?_;refine(Lk G X [(i,0)]).trans ?_;exact a
    ·have bN:md i x=[]:=by unfold md;rw[if_neg ar,if_neg ay]
     have:=q (i+1) (by omega) es ge (S.new (.cells x.cs)) (p.new _) A (by omega);rw[dT ay,hH,u0,y,this,cF];simp -implicitDefEqProofs only[jP,bN,List.nil_append]
 rw[GF,Rg,aU,ht]
 have:=loop l.length 0 (by omega) [] .nil s.ak (.ak s) .nil (by simp);simp -implicitDefEqProofs only[List.map_nil,List.nil_append,bV] at this;exact this
def kD:List be→List be→Bool
 |_,[]=>true
 |pre,x::r=>wf pre x&&kD (pre++[x]) r
def yk(l:List be):Nat:=(l.filter fun x=>oI x.op).length
def rj(l:List be):Int:=bif kD [] l then(if 40<l.length∨5<yk l∨20<(jP l 0).length then 111 else 0) else 120
theorem Ll(l:List be)(x:be):yk (l++[x])=yk l+(if oI x.op=true then 1 else 0):=by unfold yk;rw[List.filter_append,f9];congr 1;simp -implicitDefEqProofs only[List.filter_cons,List.filter_nil];split<;> rfl
theorem Lm(l:List be):yk l≤l.length:=List.length_filter_le _ _
theorem FV(l:List be)(g:ga)(cE:∀a,g≠.dW a)(s:ag)(bO:l.length<9223372036854775806)(H:∀o,o∈l→oG o):aX a4 G X 16 [dZ l g] s=.ok (I (rj l)) s:=by
 have fin:∀S,Child s S→x3 (a3 a4 G X) (dZ l g) (I (yk l:Int)) S=.ok (I (if 40<l.length∨5<yk l∨20<(jP l 0).length then 111 else 0)) s:=fun S p=>by
  have aa:=Lm l;have q:=fun n=>iQ (T:=a4) (G:=G) (X:=X) p .i64 n
  rw[CA,aU,ht,bJ];by_cases ar:40<l.length
  ·have e:(40:Int)<(l.length:Int):=by omega
   rw[if_pos (.inl ar)];simp -implicitDefEqProofs only[eJ e,g0,gH,fT,cI];exact q _
  ·have e:¬(40:Int)<(l.length:Int):=by omega
   simp -implicitDefEqProofs only[dT e,fo,fO,bJ];by_cases ay:5<yk l
   ·have A:(5:Int)<(yk l:Int):=by omega
    rw[if_pos (.inr (.inl ay))];simp -implicitDefEqProofs only[eJ A,g0,gH,fT,cI];exact q _
   ·have A:¬(5:Int)<(yk l:Int):=by omega
    have c:=RL G X l g S (by omega);simp -implicitDefEqProofs only[dT A,fo,fO,nO _ cE];rw[bx c];simp -implicitDefEqProofs only[aU,ht,bJ];by_cases ch:20<(jP l 0).length
    ·have B:(20:Int)<((jP l 0).length:Int):=by omega
     rw[if_pos (.inr (.inr ch)),eJ B,fT];exact q _
    ·have B:¬(20:Int)<((jP l 0).length:Int):=by omega
     rw[if_neg (by omega),dT B,hH,Cz];exact q _
 have loop:∀n i:Nat,i+n=l.length→∀S,Child s S→
   tg (a3 a4 G X) (dZ l g) (I (yk (l.take i):Int)) (dZ l g) (.int .i64 (l.length:Int)) (.int .i64 (i:Int)) S=.ok (I (bif kD (l.take i) (l.drop i) then(if 40<l.length∨5<yk l∨20<(jP l 0).length then 111 else 0) else 120)) s:=by
  intro n
  induction n with
  |zero=>
   intro i bN S p;have e:¬(i:Int)<(l.length:Int):=by omega
   rw[uY,bE,dT e,hH,n0 (by omega),jC (by omega),fin S p];rfl
  |succ n O=>
   intro i bN S p;have e:(i:Int)<(l.length:Int):=by omega
   have y:i<l.length:=by omega
   have U:(l.map be.enc)[i]? =some l[i].enc:=by simp [y]
   have ip:=fun(k:bb)=>WH G X S k 12 _ g .i64 i _ U
   have jJ:l[i]∈l:=w3 y;have cF:l.drop i=l[i]::l.drop (i+1):=kk y;have d6:l.take (i+1)=l.take i++[l[i]]:=List.take_succ_eq_append_getElem y;generalize aZ:l[i]=x at *;have V:∀(S:ag) (k:bb),(a3 a4 G X).aK S k (some 12) (.bU x.enc.cells)=k x.enc S:=fun S k=>a9 (T:=a4) (G:=G) (X:=X) (s:=S) (k:=k) 12 x.cs (aC 12)
   have Y:∀d,ae.aq d x.enc=x.enc:=fun d=>rfl
   have gq:=fun(k:bb) (cs:List ae) (h:cs.length=12)=>cH (T:=a4) (G:=G) (X:=X) (s:=S) (k:=k) 12 x.cs cs rfl h x.cells
   have F:=fun S k=>q8 G X S k i (by omega)
   have cm:=fun(S:ag) (k:bb)=>FU G X l cE (i+1) (by omega) S k
   rw[d6] at cm;have J:=uB cE l.length (i+1);have ab:(l.take i).length=i:=by simp;omega
   have UR:=RK G X (l.take i) x _ J (S.new (.cells x.cs)) (by omega) (H x jJ) (fun o Z=>H o (List.mem_of_mem_take Z));have M:=fun(k:bb)=>bR (T:=a4) (G:=G) (X:=X) (s:=S) (k:=k) 12 x.cs (aC 12)
   rw[yh] at M;have Cf:=RE G X x (S.new (.cells x.cs));have q:=fun n=>iQ (T:=a4) (G:=G) (X:=X) (p.new (.cells x.cs)) .i64 n
   have r:=O (i+1) (by omega) (S.new (.cells x.cs)) (p.new _);rw[d6,Ll] at r;have ac:=Lm (l.take i);rw[uY,bE,eJ e,fT,Cy,ip,V,cx,Y];refine(gq _ _ rfl).trans ?_;rw[F,cm,nO _ J,bx UR,cJ,cF];simp -implicitDefEqProofs only[kD];cases hw:wf (l.take i) x with
   |false=>rw[gJ,fT,fK,cond_false];exact q _
   |true=>
    rw[gV,hH,eT,Cx];refine(M _).trans ?_;show(a3 a4 G X).cn (S.new (.cells x.cs)) _ 43 [x.enc]=_;rw[bx Cf];cases N:oI x.op with
    |false=>rw[N] at r;rw[hH,uX,F];exact r
    |true=>
     rw[N] at r;have dR:=fun S k=>q8 G X S k (yk (l.take i)) (by omega)
     rw[fT,dR,uX,F];exact r
 rw[GB,Rc,aU,ht];exact loop l.length 0 (by omega) s.ak (.ak s)
end Go.f0
end
