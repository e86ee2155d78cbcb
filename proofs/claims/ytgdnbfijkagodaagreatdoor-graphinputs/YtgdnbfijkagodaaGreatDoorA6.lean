/- A part of the proof: no condition. -/
import Derived.Test.YtgdnbfijkagodaaGreatDoorA5
import Derived.Test.YtgdnbfijkagodaaGreatDoorA3
set_option linter.unusedSectionVars false
set_option linter.unusedSimpArgs false
set_option linter.unusedVariables false
section
namespace Go.hK
def B:Nat:=4294967296
theorem kP:B=4294967296:=rfl
theorem g8:0<B:=by decide
def val:List Nat→Nat
 |[]=>0
 |x::xs=>x+B*val xs
def dR(l:List Nat):Prop:=∀x,x∈l→x<B
theorem dR.tail{x:Nat}{l:List Nat}(h:dR (x::l)):dR l:=fun y eT=>h y (by simp [eT])
theorem dR.take{l:List Nat}(h:dR l)(n:Nat):dR (l.take n):=fun y eT=>h y (List.mem_of_mem_take eT)
theorem dR.drop{l:List Nat}(h:dR l)(n:Nat):dR (l.drop n):=fun y eT=>h y (List.mem_of_mem_drop eT)
theorem dR.getD{l:List Nat}(h:dR l)(i:Nat):l.getD i 0<B:=by
 by_cases bX:i<l.length
 ·have:l.getD i 0=l[i]:=by simp [List.getD,bX]
  rw[this];exact h _ (nT bX)
 ·have:l.getD i 0=0:=by simp [List.getD,Nat.not_lt.1 bX]
  rw[this];exact g8
theorem dR.set{l:List Nat}(h:dR l)(i x:Nat)(a8:x<B):dR (l.set i x):=fun y eT=>by
 rcases List.mem_or_eq_of_mem_set eT with au|au
 ·exact h y au
 ·exact au ▸ a8
theorem pk(n:Nat):dR (List.replicate n 0):=fun y eT=>by rw[(List.mem_replicate.1 eT).2];exact g8
theorem m6:∀(a b:List Nat),val (a++b)=val a+B^a.length*val b
 |[],b=>by simp [val]
 |x::a,b=>by simp only[List.cons_append,val,m6 a b,bP,Nat.pow_succ,fD];rw[ez (B^a.length) B,gL];omega
theorem hY:∀(l:List Nat),dR l→val l<B^l.length
 |[],_=>by simp [val]
 |x::l,h=>by have au:=hY l h.tail;have az:=h x (by simp);simp only[val,bP,Nat.pow_succ];have b3:B*(val l+1)≤B*B^l.length:=Nat.mul_le_mul_left _ au;rw[fD,Nat.mul_one] at b3;rw[ez (B^l.length)];omega
theorem Co(n:Nat):val (List.replicate n 0)=0:=by
 induction n with
 |zero=>rfl
 |succ n e=>simp [List.replicate_succ,val,e]
theorem val_succ(l:List Nat)(i:Nat)(h:i<l.length):val (l.take (i+1))=val (l.take i)+B^i*l.getD i 0:=by
 rw[List.take_succ_eq_append_getElem h,m6]
 have:(l.take i).length=i:=by simp;omega
 rw[this];simp [val,List.getD,h]
theorem k7(l:List Nat)(i:Nat)(h:i≤l.length):val l=val (l.take i)+B^i*val (l.drop i):=by
 have:=m6 (l.take i) (l.drop i);rw[List.take_append_drop] at this;rw[this]
 have:(l.take i).length=i:=by simp;omega
 rw[this]
theorem mg(l:List Nat)(i:Nat)(h:i<l.length):val (l.drop i)=l.getD i 0+B*val (l.drop (i+1)):=by rw[iW h];simp [val,List.getD,h]
theorem l4{l:List Nat}{i j x:Nat}(h:i≤j):(l.set j x).take i=l.take i:=by
 apply List.ext_getElem?;intro n;rw[List.getElem?_take,List.getElem?_take];split
 ·rw[ns (by omega)]
 ·rfl
theorem r0{l:List Nat}{i j x:Nat}(h:j<i):(l.set j x).drop i=l.drop i:=by apply List.ext_getElem?;intro n;rw[List.getElem?_drop,List.getElem?_drop,ns (by omega)]
theorem fP{l:List Nat}{i x:Nat}(h:i<l.length):(l.set i x).getD i 0=x:=by simp [List.getD,h]
theorem getD_set_ne{l:List Nat}{i j x:Nat}(h:i≠j):(l.set i x).getD j 0=l.getD j 0:=by simp only[List.getD];rw[ns h]
def g9(l:List Nat):Nat→Nat
 |0=>0
 |n+1=>if l.getD n 0=0 then g9 l n else n+1
theorem jz(l:List Nat):∀n,g9 l n≤n
 |0=>aC _
 |n+1=>by
  unfold g9;split
  ·exact Nat.le_succ_of_le (jz l n)
  ·exact aC _
def gb(l:List Nat):List Nat:=l.take (g9 l l.length)
def fb(l:List Nat):Prop:=l≠[]→l.getD (l.length-1) 0≠0
theorem wg(l:List Nat):∀n,n≤l.length→val (l.take (g9 l n))=val (l.take n)
 |0,_=>rfl
 |n+1,h=>by
  unfold g9;split
  ·rename_i eZ;rw[wg l n (by omega),val_succ l n (by omega),eZ,Nat.mul_zero,Nat.add_zero]
  ·rfl
theorem r1(l:List Nat):∀n,g9 l n≠0→l.getD (g9 l n-1) 0≠0
 |0,h=>absurd rfl h
 |n+1,h=>by
  unfold g9 at h ⊢;split
  ·rename_i eZ;rw[if_pos eZ] at h;exact r1 l n h
  ·rename_i eZ;exact eZ
theorem kj(l:List Nat):val (gb l)=val l:=by unfold gb;rw[wg l _ (aC _),List.take_length]
theorem ik(l:List Nat):(gb l).length=g9 l l.length:=by
 unfold gb;rw[List.length_take]
 have:=jz l l.length;omega
theorem jl(l:List Nat):fb (gb l):=fun h=>by
 have au:g9 l l.length≠0:=fun e=>h (by unfold gb;rw[e];rfl)
 have az:=r1 l l.length au;rw[ik];unfold gb;simp only[List.getD] at az ⊢;rw[List.getElem?_take,if_pos (by omega)];exact az
theorem ls{l:List Nat}(h:dR l):dR (gb l):=h.take _
theorem pC(l:List Nat)(h:fb l)(fe:l≠[]):B^(l.length-1)≤val l:=by
 have bK:0<l.length:=List.length_pos_iff.2 fe;have au:=val_succ l (l.length-1) (by omega);rw[show l.length-1+1=l.length by omega,List.take_length] at au;have az:=h fe;rw[au]
 have:B^(l.length-1)*1≤B^(l.length-1)*l.getD (l.length-1) 0:=Nat.mul_le_mul_left _ (by omega);omega
theorem tt{l:List Nat}(h:fb l):val l=0↔l=[]:=by
 constructor
 ·intro eZ;by_cases fe:l=[]
  ·exact fe
  ·have:=pC l h fe
   have:=Nat.pow_pos (n:=l.length-1) g8;omega
 ·intro e;subst e;rfl
theorem oo{m n:Nat}(h:m≤n):B^m≤B^n:=Nat.pow_le_pow_right g8 h
theorem nM{a b:List Nat}(q:dR a)(r:fb b)(h:a.length<b.length):val a<val b:=by have au:=hY a q;have az:=pC b r (by intro e;subst e;simp at h);have b3:B^a.length≤B^(b.length-1):=oo (by omega);omega
theorem wh{a b:List Nat}(e:dR a)(q:dR b)(r:fb a)(u:fb b)(h:val a=val b):a.length=b.length:=by
 rcases Nat.lt_trichotomy a.length b.length with au|au|au
 ·have:=nM e u au;omega
 ·exact au
 ·have:=nM q r au;omega
theorem qv{l:List Nat}(a3:fb l){n:Nat}(h:val l<B^n):l.length≤n:=by
 by_cases e:l=[]
 ·subst e;simp
 ·have au:=pC l a3 e;by_cases az:l.length≤n
  ·exact az
  ·have b3:B^n≤B^(l.length-1):=oo (by omega);omega
theorem val_inj:∀{a b:List Nat},dR a→dR b→a.length=b.length→val a=val b→a=b
 |[],[],_,_,_,_=>rfl
 |[],y::b,_,_,h,_=>by simp at h
 |x::a,[],_,_,h,_=>by simp at h
 |x::a,y::b,e,q,bK,h=>by
  have a8:=e x (by simp);have eT:=q y (by simp);simp only[val] at h;have au:x=y:=by
   have dU:(x+B*val a)%B=x:=by rw[Nat.add_mul_mod_self_left,hz a8]
   have r:(y+B*val b)%B=y:=by rw[Nat.add_mul_mod_self_left,hz eT]
   rw[←dU,←r,h]
  subst au;have az:B*val a=B*val b:=by omega
  have b3:=Nat.eq_of_mul_eq_mul_left g8 az;rw[val_inj e.tail q.tail (by simpa using bK) b3]
end Go.hK
namespace Go.hK
theorem tu:B=2^32:=rfl
theorem E9(w r:Nat):B^w*2^r=2^(32*w+r):=by rw[tu,←Nat.pow_mul,←Nat.pow_add]
theorem xW(x r:Nat)(aT:r<32):∃q,x*2^r%B=q*2^r∧q*2^r+2^r≤B:=by
 refine⟨x%2^(32-r),?_,?_⟩
 ·have:B=2^(32-r)*2^r:=by rw[←Nat.pow_add,tu];congr 1;omega
  rw[this,Nat.mul_mod_mul_right]
 ·have:B=2^(32-r)*2^r:=by rw[←Nat.pow_add,tu];congr 1;omega
  have au:x%2^(32-r)+1≤2^(32-r):=Nat.mod_lt _ (Nat.two_pow_pos _);have az:=fV (2^r) au;rw[e9,Nat.one_mul] at az;rw[this];exact az
theorem xX(x r:Nat)(a8:x<B)(aT:r<32):x*2^r/B<2^r∧x*2^r<18446744073709551616:=by
 have au:x*2^r<B*2^r:=Nat.mul_lt_mul_of_pos_right a8 (Nat.two_pow_pos _);refine⟨by rw[Nat.div_lt_iff_lt_mul g8,ez (2^r)];exact au,?_⟩;have az:B*2^r≤B*2^32:=Nat.mul_le_mul_left _ (Nat.pow_le_pow_right (by omega) (by omega));have b3:B*2^32=18446744073709551616:=by decide
 omega
theorem Fa(l out:List Nat)(i w r:Nat)(aT:r<32)(bX:i<l.length)(bK:l.length+w<out.length)(h:dR out)(u:dR l)(bO:val (out.take (i+w+1))=val (l.take i)*2^(32*w+r))(a3:out.getD (i+w) 0<2^r)(c:Nat)(Ds:c=out.getD (i+w) 0)(y:Nat)(eT:y=c+l.getD i 0*2^r%B):
  let e:=(out.set (i+w) y).set (i+w+1) (l.getD i 0*2^r/B)
  dR e∧e.length=out.length∧val (e.take (i+1+w+1))=val (l.take (i+1))*2^(32*w+r)∧e.getD (i+1+w) 0<2^r:=by
 have a8:=u.getD i;have A:=xX (l.getD i 0) r a8 aT;obtain⟨q,K,L⟩:=xW (l.getD i 0) r aT;have M:2^r≤2^32:=Nat.pow_le_pow_right (by omega) (by omega);have F:y<B:=by omega
 have N:(2:Nat)^32=B:=rfl;have dU:i+1+w=i+w+1:=by omega
 refine⟨(h.set _ _ F).set _ _ (by omega),by simp,?_,?_⟩
 ·have s1:=val_succ ((out.set (i+w) y).set (i+w+1) (l.getD i 0*2^r/B)) (i+w+1) (by simp;omega);have s2:=val_succ (out.set (i+w) y) (i+w) (by simp;omega);have H:=val_succ out (i+w) (by omega);have ho:((out.set (i+w) y).set (i+w+1) (l.getD i 0*2^r/B)).getD (i+w+1) 0=l.getD i 0*2^r/B:=fP (by simp;omega);have gF:(out.set (i+w) y).getD (i+w) 0=y:=fP (by omega);rw[dU,s1,ho,l4 (aC _),s2,gF,l4 (aC _),val_succ l i bX,e9,←bO,H,←Ds];have I:B^i*l.getD i 0*2^(32*w+r)=B^(i+w)*(l.getD i 0*2^r):=by
   rw[←E9,Nat.pow_add,gL,gL,Nat.mul_left_comm (l.getD i 0)]
  have J:B^(i+w)*(l.getD i 0*2^r)=B^(i+w)*(l.getD i 0*2^r%B)+B^(i+w)*(B*(l.getD i 0*2^r/B)):=by rw[←fD,Nat.mod_add_div]
  rw[I,J,eT,fD,Nat.pow_succ,gL (B^(i+w)) B];omega
 ·have ho:((out.set (i+w) y).set (i+w+1) (l.getD i 0*2^r/B)).getD (i+w+1) 0=l.getD i 0*2^r/B:=fP (by simp;omega);rw[dU,ho];exact A.1
theorem Cp(a out:List Nat)(n d rest:Nat)(cS:d≠0)(dp:n<a.length)(bK:out.length=a.length)(e:dR a)(h:dR out)(aT:rest<d)(bO:val (a.drop (n+1))=val (out.drop (n+1))*d+rest):
  (rest*B+a.getD n 0)/d<B∧dR (out.set n ((rest*B+a.getD n 0)/d))∧(rest*B+a.getD n 0)%d<d∧val (a.drop n)=val ((out.set n ((rest*B+a.getD n 0)/d)).drop n)*d+(rest*B+a.getD n 0)%d:=by
 have a8:=e.getD n;have au:rest*B+a.getD n 0<d*B:=by have:(rest+1)*B≤d*B:=fV _ aT;rw[e9,Nat.one_mul] at this;omega
 have gh:(rest*B+a.getD n 0)/d<B:=by rw[Nat.div_lt_iff_lt_mul (by omega),ez B];exact au
 refine⟨gh,h.set _ _ gh,Nat.mod_lt _ (by omega),?_⟩;have s1:=mg (out.set n ((rest*B+a.getD n 0)/d)) n (by simp;omega);have ho:(out.set n ((rest*B+a.getD n 0)/d)).getD n 0=(rest*B+a.getD n 0)/d:=fP (by omega);rw[mg a n dp,bO,s1,ho,r0 (by omega),e9];have hm:=Nat.div_add_mod (rest*B+a.getD n 0) d;have dU:B*(val (out.drop (n+1))*d+rest)=B*val (out.drop (n+1))*d+rest*B:=by rw[fD,gL,ez B rest]
 rw[dU];have q:(rest*B+a.getD n 0)/d*d=d*((rest*B+a.getD n 0)/d):=ez _ _;omega
end Go.hK
end
section
namespace Go.gw
open Go.Ab Go.hK
variable(G:Nat→af)(X:Nat→List af→ag→ah)
theorem wi(S:ag)(k:bf)(sz:Nat)(es:List af)(g:fi)(eu:IntKind)(i:Nat)(e:af)(h:es[i]? =some e):(aU aK G X).bT S k sz (.bG sz es g) (.int eu (i:Int))=k (.bI e.cells) S:=jF sz es g eu i e h
theorem nn(S:ag)(k:bf)(a:Nat)(h:a+1<9223372036854775808):(aU aK G X).ai S k (an .add (.int .i64 (a:Int)) (.int .i64 1))=k (.int .i64 ((a+1:Nat):Int)) S:=ji a h
theorem Cq(s:ag)(v:af)(l:List Nat)(h:l1 s v l)(A:l.length<9223372036854775807)(S:ag)(e:Child s S):∀n,n≤l.length→rH (aU aK G X) v (.int .i64 (n:Int)) S=.ok (pa v (g9 l n)) s:=by
 have u:∀n,n≤l.length→vv (aU aK G X) v (.int .i64 (n:Int)) S=.ok (pa v n) s:=fun n dp=>by rw[BP,h.slice n dp];exact iH e _ _ ((h.cut n dp).same e)
 intro n
 induction n with
 |zero=>
  intro dp;rw[th];have eZ:¬((0:Int)<((0:Nat):Int)):=by omega
  simp -implicitDefEqProofs only[↓cJ,↓cK,↓bY,↓bl,↓aB,↓aF,↓ax,↓aG,↓aM,↓aN,↓ay,↓aH,↓aE,↓aV,↓aZ,↓ba,↓ds,↓aA,↓bu,↓b4,↓c4,↓cc,↓cd,↓b5,↓cf,↓cg,↓ch,↓ci,↓cj,↓ck,↓bw,↓bx,↓bz,↓c5,↓c6,↓c7,↓c8,↓c9,↓da,↓db,↓dc,↓dd,↓cl,↓cm,↓cn,↓bE,↓cA,↓bm,↓c1,↓ca,↓cF,↓cU,↓de,↓a0,↓aO,↓a1,↓aS,↓aD,↓a2,↓cP,↓bV,↓b6,↓co,↓cp,↓cq,↓cr,↓ct,↓cv,↓cw,↓cx,↓dD,↓dE,↓di,↓dO,↓cD,↓cE,↓cO,↓dn,bL,dK,b1,decide_eq_false_iff_not,ite_not,↓reduceIte,a7,aI,bc,bA,bg,bP,cy,Nat.reduceAdd,bD,↓bb,Nat.reduceLeDiff,aC,cV,cX,dG,dy,bW,eq_false eZ];exact u 0 (Nat.zero_le _)
 |succ n y=>
  intro dp;have eZ:(0:Int)<((n+1:Nat):Int):=by omega
  have g:=fun(k:bf)=>(h.oH e.oH).get (T:=aK) (G:=G) (X:=X) .i64 n (by omega) k
  have q:=fun(S:ag) (k:bf)=>jV (T:=aK) (G:=G) (X:=X) (s:=S) (k:=k) (n+1) (by omega) (by omega)
  simp -implicitDefEqProofs only[Nat.add_sub_cancel] at q;rw[th];by_cases hC:l.getD n 0=0
  ·have r:((l.getD n 0:Nat):Int)=0:=by omega
   simp -implicitDefEqProofs only[↓cJ,↓cK,↓bY,↓bl,↓aB,↓aF,↓ax,↓aG,↓aM,↓aN,↓ay,↓aH,↓aE,↓aV,↓aZ,↓ba,↓ds,↓aA,↓bu,↓b4,↓c4,↓cc,↓cd,↓b5,↓cf,↓cg,↓ch,↓ci,↓cj,↓ck,↓bw,↓bx,↓bz,↓c5,↓c6,↓c7,↓c8,↓c9,↓da,↓db,↓dc,↓dd,↓cl,↓cm,↓cn,↓bE,↓cA,↓bm,↓c1,↓ca,↓cF,↓cU,↓de,↓a0,↓aO,↓a1,↓aS,↓aD,↓a2,↓cP,↓bV,↓b6,↓co,↓cp,↓cq,↓cr,↓ct,↓cv,↓cw,↓cx,↓dD,↓dE,↓di,↓dO,↓cD,↓cE,↓cO,↓dn,bL,dK,b1,decide_eq_false_iff_not,ite_not,↓reduceIte,a7,aI,bc,bA,bg,bP,cy,Nat.reduceAdd,bD,↓bb,Nat.reduceLeDiff,aC,cV,cX,dG,dy,bW,eq_true eZ,q,↓g,r,BO,g9,if_pos hC];exact y (by omega)
  ·have r:¬((l.getD n 0:Nat):Int)=0:=by omega
   simp -implicitDefEqProofs only[↓cJ,↓cK,↓bY,↓bl,↓aB,↓aF,↓ax,↓aG,↓aM,↓aN,↓ay,↓aH,↓aE,↓aV,↓aZ,↓ba,↓ds,↓aA,↓bu,↓b4,↓c4,↓cc,↓cd,↓b5,↓cf,↓cg,↓ch,↓ci,↓cj,↓ck,↓bw,↓bx,↓bz,↓c5,↓c6,↓c7,↓c8,↓c9,↓da,↓db,↓dc,↓dd,↓cl,↓cm,↓cn,↓bE,↓cA,↓bm,↓c1,↓ca,↓cF,↓cU,↓de,↓a0,↓aO,↓a1,↓aS,↓aD,↓a2,↓cP,↓bV,↓b6,↓co,↓cp,↓cq,↓cr,↓ct,↓cv,↓cw,↓cx,↓dD,↓dE,↓di,↓dO,↓cD,↓cE,↓cO,↓dn,bL,dK,b1,decide_eq_false_iff_not,ite_not,↓reduceIte,a7,aI,bc,bA,bg,bP,cy,Nat.reduceAdd,bD,↓bb,Nat.reduceLeDiff,aC,cV,cX,dG,dy,bW,eq_true eZ,q,↓g,eq_false r,g9,if_neg hC];exact u (n+1) dp
theorem mH(s:ag)(v:af)(l:List Nat)(h:l1 s v l)(e:l.length<9223372036854775807):aL aK G X 135 [v] s=.ok (pa v (g9 l l.length)) s:=by rw[EV,OI,h.len];exact Cq G X s v l h e s.aj (.aj s) l.length (aC _)
theorem JQ{s S:ag}(e:Child s S){j:Nat}{l:List Nat}(h:gU S j l)(n:Nat)(dp:n=l.length)(q:l.length<9223372036854775807):∃v,jB v (gb l)∧(aU aK G X).bt S (fun v s=>(aU aK G X).a5 false [some v] s) 135 [.cZ (.g S.aa j) 0 n n 1]=.ok v s:=by
 subst dp;have aT:=h.rd l.length l.length (aC _) (aC _);rw[List.take_length] at aT;rw[a9 (mH G X S _ l aT q)];have hle:=jz l l.length;obtain⟨v,au,az⟩:=m3 (S:=S) (j:=j) (off:=0) (cap:=l.length) (gb l) (n:=g9 l l.length) (ik l).symm h (by rw[bL,ik];simp [gb,List.map_take]) (by rw[ik];simpa using hle)
 exact⟨v,az,iH e _ _ au⟩
theorem wj{s S:ag}(e:Child s S){j:Nat}{l:List Nat}(h:gU S j l)(n:Nat)(dp:n=l.length)(q:l.length<9223372036854775807)(w:af)(hw:w.plain=true):∃v,jB v (gb l)∧(aU aK G X).bt S (fun v s=>(aU aK G X).a5 false [some v,some w] s) 135 [.cZ (.g S.aa j) 0 n n 1]=.ok (.ea [v,w]) s:=by
 subst dp;have aT:=h.rd l.length l.length (aC _) (aC _);rw[List.take_length] at aT;rw[a9 (mH G X S _ l aT q)];have hle:=jz l l.length;obtain⟨v,au,az⟩:=m3 (S:=S) (j:=j) (off:=0) (cap:=l.length) (gb l) (n:=g9 l l.length) (ik l).symm h (by rw[bL,ik];simp [gb,List.map_take]) (by rw[ik];simpa using hle)
 exact⟨v,az,hE e _ _ _ _ au (xp hw)⟩
def pn(x y:Nat):Int:=if x<y then -1 else if y<x then 1 else 0
theorem Cr(s:ag)(J K:af)(a b:List Nat)(L:l1 s J a)(O:l1 s K b)(U:dR a)(V:dR b)(bK:a.length=b.length)(gZ:a.length<9223372036854775807)(S:ag)(q:Child s S):∀n k,k+n=a.length→val (a.drop n)=val (b.drop n)→
  rD (aU aK G X) J K (.int .i64 (a.length:Int)) (.int .i64 (k:Int)) S=.ok (.int .i64 (pn (val a) (val b))) s:=by
 intro n
 induction n with
 |zero=>
  intro k dl he;have h:¬((k:Int)<(a.length:Int)):=by omega
  rw[tf];simp -implicitDefEqProofs only[↓cJ,↓cK,↓bY,↓bl,↓aB,↓aF,↓ax,↓aG,↓aM,↓aN,↓ay,↓aH,↓aE,↓aV,↓aZ,↓ba,↓ds,↓aA,↓bu,↓b4,↓c4,↓cc,↓cd,↓b5,↓cf,↓cg,↓ch,↓ci,↓cj,↓ck,↓bw,↓bx,↓bz,↓c5,↓c6,↓c7,↓c8,↓c9,↓da,↓db,↓dc,↓dd,↓cl,↓cm,↓cn,↓bE,↓cA,↓bm,↓c1,↓ca,↓cF,↓cU,↓de,↓a0,↓aO,↓a1,↓aS,↓aD,↓a2,↓cP,↓bV,↓b6,↓co,↓cp,↓cq,↓cr,↓ct,↓cv,↓cw,↓cx,↓dD,↓dE,↓di,↓dO,↓cD,↓cE,↓cO,↓dn,bL,dK,b1,decide_eq_false_iff_not,ite_not,↓reduceIte,a7,aI,bc,bA,bg,bP,cy,Nat.reduceAdd,bD,↓bb,Nat.reduceLeDiff,aC,cV,cX,dG,dy,bW,eq_false h,BJ];simp -implicitDefEqProofs only[bL] at he;rw[ir q,he];simp [pn]
 |succ n Y=>
  intro k dl he;have h:(k:Int)<(a.length:Int):=by omega
  have xt:=fun(k:bf)=>(L.oH q.oH).get (T:=aK) (G:=G) (X:=X) .i64 n (by omega) k
  have u:=fun(k:bf)=>(O.oH q.oH).get (T:=aK) (G:=G) (X:=X) .i64 n (by omega) k
  have y:=fun(S:ag) (k:bf)=>L.len (T:=aK) (G:=G) (X:=X) k S
  have A:=fun(S:ag) (k:bf)=>jV (T:=aK) (G:=G) (X:=X) (s:=S) (k:=k) a.length (by omega) (by omega)
  have r:=fun(S:ag) (lN:bf)=>m2 (T:=aK) (G:=G) (X:=X) (s:=S) (k:=lN) (a.length-1) k (by omega) (by omega)
  have Z:=fun(S:ag) (lN:bf)=>ji (T:=aK) (G:=G) (X:=X) (s:=S) (k:=lN) k (by omega)
  have aa:a.length-1-k=n:=by omega
  simp -implicitDefEqProofs only[aa] at r;have F:=mg a n (by omega);have H:=mg b n (by omega);have M:=k7 a n (by omega);have N:=k7 b n (by omega);have ab:=hY (a.take n) (U.take n);have ac:=hY (b.take n) (V.take n);have ad:(a.take n).length=n:=by simp;omega
  have ae:(b.take n).length=n:=by simp;omega
  rw[ad] at ab;rw[ae] at ac;rw[tf];simp -implicitDefEqProofs only[↓cJ,↓cK,↓bY,↓bl,↓aB,↓aF,↓ax,↓aG,↓aM,↓aN,↓ay,↓aH,↓aE,↓aV,↓aZ,↓ba,↓ds,↓aA,↓bu,↓b4,↓c4,↓cc,↓cd,↓b5,↓cf,↓cg,↓ch,↓ci,↓cj,↓ck,↓bw,↓bx,↓bz,↓c5,↓c6,↓c7,↓c8,↓c9,↓da,↓db,↓dc,↓dd,↓cl,↓cm,↓cn,↓bE,↓cA,↓bm,↓c1,↓ca,↓cF,↓cU,↓de,↓a0,↓aO,↓a1,↓aS,↓aD,↓a2,↓cP,↓bV,↓b6,↓co,↓cp,↓cq,↓cr,↓ct,↓cv,↓cw,↓cx,↓dD,↓dE,↓di,↓dO,↓cD,↓cE,↓cO,↓dn,bL,dK,b1,decide_eq_false_iff_not,ite_not,↓reduceIte,a7,aI,bc,bA,bg,bP,cy,Nat.reduceAdd,bD,↓bb,Nat.reduceLeDiff,aC,cV,cX,dG,dy,bW,eq_true h];rw[BI];by_cases e:a.getD n 0=b.getD n 0
  ·have hZ:((a.getD n 0:Nat):Int)=((b.getD n 0:Nat):Int):=by omega
   simp -implicitDefEqProofs only[↓cJ,↓cK,↓bY,↓bl,↓aB,↓aF,↓ax,↓aG,↓aM,↓aN,↓ay,↓aH,↓aE,↓aV,↓aZ,↓ba,↓ds,↓aA,↓bu,↓b4,↓c4,↓cc,↓cd,↓b5,↓cf,↓cg,↓ch,↓ci,↓cj,↓ck,↓bw,↓bx,↓bz,↓c5,↓c6,↓c7,↓c8,↓c9,↓da,↓db,↓dc,↓dd,↓cl,↓cm,↓cn,↓bE,↓cA,↓bm,↓c1,↓ca,↓cF,↓cU,↓de,↓a0,↓aO,↓a1,↓aS,↓aD,↓a2,↓cP,↓bV,↓b6,↓co,↓cp,↓cq,↓cr,↓ct,↓cv,↓cw,↓cx,↓dD,↓dE,↓di,↓dO,↓cD,↓cE,↓cO,↓dn,bL,dK,b1,decide_eq_false_iff_not,ite_not,↓reduceIte,a7,aI,bc,bA,bg,bP,cy,Nat.reduceAdd,bD,↓bb,Nat.reduceLeDiff,aC,cV,cX,dG,dy,bW,↓y,↓A,↓r,↓xt,↓u,hZ,not_true_eq_false];rw[BH,Z];exact Y (k+1) (by omega) (by rw[F,H,e,he])
  ·have hZ:¬((a.getD n 0:Nat):Int)=((b.getD n 0:Nat):Int):=by omega
   by_cases ah:a.getD n 0<b.getD n 0
   ·have I:((a.getD n 0:Nat):Int)<((b.getD n 0:Nat):Int):=by omega
    simp -implicitDefEqProofs only[↓cJ,↓cK,↓bY,↓bl,↓aB,↓aF,↓ax,↓aG,↓aM,↓aN,↓ay,↓aH,↓aE,↓aV,↓aZ,↓ba,↓ds,↓aA,↓bu,↓b4,↓c4,↓cc,↓cd,↓b5,↓cf,↓cg,↓ch,↓ci,↓cj,↓ck,↓bw,↓bx,↓bz,↓c5,↓c6,↓c7,↓c8,↓c9,↓da,↓db,↓dc,↓dd,↓cl,↓cm,↓cn,↓bE,↓cA,↓bm,↓c1,↓ca,↓cF,↓cU,↓de,↓a0,↓aO,↓a1,↓aS,↓aD,↓a2,↓cP,↓bV,↓b6,↓co,↓cp,↓cq,↓cr,↓ct,↓cv,↓cw,↓cx,↓dD,↓dE,↓di,↓dO,↓cD,↓cE,↓cO,↓dn,bL,dK,b1,decide_eq_false_iff_not,ite_not,↓reduceIte,a7,aI,bc,bA,bg,bP,cy,Nat.reduceAdd,bD,↓bb,Nat.reduceLeDiff,aC,cV,cX,dG,dy,bW,↓y,↓A,↓r,↓xt,↓u,eq_false hZ,not_false_eq_true,eq_true I];rw[ir q]
    have:val a<val b:=by
     rw[M,N];have au:val (a.drop n)+1≤val (b.drop n):=by rw[F,H,he];omega
     have az:=Nat.mul_le_mul_left (B^n) au;rw[fD,Nat.mul_one] at az;omega
    simp [pn,this]
   ·have I:¬((a.getD n 0:Nat):Int)<((b.getD n 0:Nat):Int):=by omega
    simp -implicitDefEqProofs only[↓cJ,↓cK,↓bY,↓bl,↓aB,↓aF,↓ax,↓aG,↓aM,↓aN,↓ay,↓aH,↓aE,↓aV,↓aZ,↓ba,↓ds,↓aA,↓bu,↓b4,↓c4,↓cc,↓cd,↓b5,↓cf,↓cg,↓ch,↓ci,↓cj,↓ck,↓bw,↓bx,↓bz,↓c5,↓c6,↓c7,↓c8,↓c9,↓da,↓db,↓dc,↓dd,↓cl,↓cm,↓cn,↓bE,↓cA,↓bm,↓c1,↓ca,↓cF,↓cU,↓de,↓a0,↓aO,↓a1,↓aS,↓aD,↓a2,↓cP,↓bV,↓b6,↓co,↓cp,↓cq,↓cr,↓ct,↓cv,↓cw,↓cx,↓dD,↓dE,↓di,↓dO,↓cD,↓cE,↓cO,↓dn,bL,dK,b1,decide_eq_false_iff_not,ite_not,↓reduceIte,a7,aI,bc,bA,bg,bP,cy,Nat.reduceAdd,bD,↓bb,Nat.reduceLeDiff,aC,cV,cX,dG,dy,bW,↓y,↓A,↓r,↓xt,↓u,eq_false hZ,not_false_eq_true,eq_false I,BG];rw[ir q]
    have:val b<val a:=by
     rw[M,N];have au:val (b.drop n)+1≤val (a.drop n):=by rw[F,H,he];omega
     have az:=Nat.mul_le_mul_left (B^n) au;rw[fD,Nat.mul_one] at az;omega
    simp [pn,this,Nat.not_lt.2 (Nat.le_of_lt this)]
theorem OX(s:ag)(q r:af)(a b:List Nat)(A:l1 s q a)(B:l1 s r b)(F:dR a)(H:dR b)(I:fb a)(J:fb b)(gZ:a.length<9223372036854775807)(L:b.length<9223372036854775807):
  aL aK G X 133 [q,r] s=.ok (.int .i64 (pn (val a) (val b))) s:=by
 rw[ET,OG];have h:=fun(S:ag) (k:bf)=>A.len (T:=aK) (G:=G) (X:=X) k S
 have u:=fun(S:ag) (k:bf)=>B.len (T:=aK) (G:=G) (X:=X) k S
 by_cases e:a.length=b.length
 ·have hZ:(a.length:Int)=(b.length:Int):=by omega
  simp -implicitDefEqProofs only[↓cJ,↓cK,↓bY,↓bl,↓aB,↓aF,↓ax,↓aG,↓aM,↓aN,↓ay,↓aH,↓aE,↓aV,↓aZ,↓ba,↓ds,↓aA,↓bu,↓b4,↓c4,↓cc,↓cd,↓b5,↓cf,↓cg,↓ch,↓ci,↓cj,↓ck,↓bw,↓bx,↓bz,↓c5,↓c6,↓c7,↓c8,↓c9,↓da,↓db,↓dc,↓dd,↓cl,↓cm,↓cn,↓bE,↓cA,↓bm,↓c1,↓ca,↓cF,↓cU,↓de,↓a0,↓aO,↓a1,↓aS,↓aD,↓a2,↓cP,↓bV,↓b6,↓co,↓cp,↓cq,↓cr,↓ct,↓cv,↓cw,↓cx,↓dD,↓dE,↓di,↓dO,↓cD,↓cE,↓cO,↓dn,bL,dK,b1,decide_eq_false_iff_not,ite_not,↓reduceIte,a7,aI,bc,bA,bg,bP,cy,Nat.reduceAdd,bD,↓bb,Nat.reduceLeDiff,aC,cV,cX,dG,dy,bW,↓h,↓u,eq_true hZ,not_true_eq_false];rw[BK,h];exact Cr G X s q r a b A B F H e gZ s.aj (.aj s) a.length 0 (by omega) (by rw[List.drop_length,e,List.drop_length])
 ·have hZ:¬(a.length:Int)=(b.length:Int):=by omega
  by_cases K:a.length<b.length
  ·have y:(a.length:Int)<(b.length:Int):=by omega
   have:=nM F J K;simp -implicitDefEqProofs only[↓cJ,↓cK,↓bY,↓bl,↓aB,↓aF,↓ax,↓aG,↓aM,↓aN,↓ay,↓aH,↓aE,↓aV,↓aZ,↓ba,↓ds,↓aA,↓bu,↓b4,↓c4,↓cc,↓cd,↓b5,↓cf,↓cg,↓ch,↓ci,↓cj,↓ck,↓bw,↓bx,↓bz,↓c5,↓c6,↓c7,↓c8,↓c9,↓da,↓db,↓dc,↓dd,↓cl,↓cm,↓cn,↓bE,↓cA,↓bm,↓c1,↓ca,↓cF,↓cU,↓de,↓a0,↓aO,↓a1,↓aS,↓aD,↓a2,↓cP,↓bV,↓b6,↓co,↓cp,↓cq,↓cr,↓ct,↓cv,↓cw,↓cx,↓dD,↓dE,↓di,↓dO,↓cD,↓cE,↓cO,↓dn,bL,dK,b1,decide_eq_false_iff_not,ite_not,↓reduceIte,a7,aI,bc,bA,bg,bP,cy,Nat.reduceAdd,bD,↓bb,Nat.reduceLeDiff,aC,cV,cX,dG,dy,bW,↓h,↓u,eq_false hZ,not_false_eq_true,eq_true y];simp [pn,this]
  ·have y:¬(a.length:Int)<(b.length:Int):=by omega
   have:=nM H I (by omega:b.length<a.length);simp -implicitDefEqProofs only[↓cJ,↓cK,↓bY,↓bl,↓aB,↓aF,↓ax,↓aG,↓aM,↓aN,↓ay,↓aH,↓aE,↓aV,↓aZ,↓ba,↓ds,↓aA,↓bu,↓b4,↓c4,↓cc,↓cd,↓b5,↓cf,↓cg,↓ch,↓ci,↓cj,↓ck,↓bw,↓bx,↓bz,↓c5,↓c6,↓c7,↓c8,↓c9,↓da,↓db,↓dc,↓dd,↓cl,↓cm,↓cn,↓bE,↓cA,↓bm,↓c1,↓ca,↓cF,↓cU,↓de,↓a0,↓aO,↓a1,↓aS,↓aD,↓a2,↓cP,↓bV,↓b6,↓co,↓cp,↓cq,↓cr,↓ct,↓cv,↓cw,↓cx,↓dD,↓dE,↓di,↓dO,↓cD,↓cE,↓cO,↓dn,bL,dK,b1,decide_eq_false_iff_not,ite_not,↓reduceIte,a7,aI,bc,bA,bg,bP,cy,Nat.reduceAdd,bD,↓bb,Nat.reduceLeDiff,aC,cV,cX,dG,dy,bW,↓h,↓u,eq_false hZ,not_false_eq_true,eq_false y,BF];simp [pn,this,Nat.not_lt.2 (Nat.le_of_lt this)]
def ma(x:Nat):Nat:=if x=0 then 0 else x.log2+1
theorem acs:∀x,x<256→ma x≤8∧x<2^ma x∧(x≠0→2^ma x≤2*x):=by decide +kernel
theorem JR{s:ag}{k:bf}(fc:List Nat)(eu:IntKind)(i n:Nat)(h:fc[i]? =some n):(aU aK G X).hx s k (.str fc) (.int eu (i:Int))=k (.int .u8 (n:Int)) s:=by show h8 (gH G (aL aK G X) bQ) s k (.str fc) (.int eu (i:Int))=_;unfold h8;simp -implicitDefEqProofs only[g6,h];rfl
theorem tv(s:ag)(x m:Nat)(a8:x<256)(hm:m≤24):∃n:Nat,ph (aU aK G X) (.int .u32 (x:Int)) (.int .i64 (m:Int)) s.aj=.ok (.int .i64 ((m+n:Nat):Int)) s∧n≤8∧x<2^n∧(x≠0→2^n≤2*x):=by
 obtain⟨az,b3⟩:=acs x a8;refine⟨ma x,?_,az,b3⟩;have e:∀(S:ag) (k:bf),(aU aK G X).b9 S k .u8 (.int .u32 (x:Int))=k (.int .u8 (x:Int)) S:=fun S k=>by
  show k (.int .u8 (IntKind.wrap .u8 (x:Int))) S=_
  have:IntKind.wrap .u8 (x:Int)=(x:Int):=by unfold IntKind.wrap;simp -implicitDefEqProofs only[show IntKind.bits .u8=8 from rfl,show IntKind.signed .u8=false from rfl,fU];show(x:Int)%256=x;omega
  rw[this]
 have h:∀(S:ag) (k:bf),(aU aK G X).b9 S k .i64 (.int .u8 (ma x:Int))=k (.int .i64 (ma x:Int)) S:=fun S k=>by show k (.int .i64 (IntKind.wrap .i64 (ma x:Int))) S=_;rw[eD _ (by omega) (by omega)]
 have q:=fun(S:ag) (k:bf)=>iy (T:=aK) (G:=G) (X:=X) (s:=S) (k:=k) m (ma x) (by omega)
 rw[B7,e];refine(JR G X _ _ x (ma x) ?_).trans ?_
 ·clear q h e b3 az
  revert x
  decide +kernel
 ·rw[h,q,aS]
theorem OY(s:ag)(x:Nat)(a8:x<4294967296):∃n:Nat,aL aK G X 111 [U x] s=.ok (.int .i64 (n:Int)) s∧n≤32∧x<2^n∧(x≠0→2^n≤2*x):=by
 rw[E1,OO];have h:=fun(S:ag) (k:bf)=>vk (T:=aK) (G:=G) (X:=X) (s:=S) (k:=k) .u64 x 16 (by omega)
 have e:∀y m:Nat,y<65536→m≤16→∃n:Nat,nJ (aU aK G X) (.int .u32 (y:Int)) (.int .i64 (m:Int)) s.aj=.ok (.int .i64 ((m+n:Nat):Int)) s∧n≤16∧y<2^n∧(y≠0→2^n≤2*y):=fun y m eT hm=>by
  have q:=fun(S:ag) (k:bf)=>vk (T:=aK) (G:=G) (X:=X) (s:=S) (k:=k) .u64 y 8 (by omega)
  have r:=fun(S:ag) (k:bf)=>iy (T:=aK) (G:=G) (X:=X) (s:=S) (k:=k) m 8 (by omega)
  rw[B8];by_cases c:256≤y
  ·have nS:(256:Int)≤(y:Int):=by omega
   obtain⟨n,au,az,b3,dJ⟩:=tv G X s (y/2^8) (m+8) (by omega) (by omega);refine⟨n+8,?_,by omega,?_,fun eZ=>?_⟩
   ·have dU:(aU aK G X).ai s.aj (fun v10 s=>(aU aK G X).ai s (fun u s=>ph (aU aK G X) v10 u s) (an .add (.int .i64 (m:Int)) (.int .i64 8))) (an .shr (.int .u32 (y:Int)) (.int .u64 8))=.ok (.int .i64 ((m+(n+8):Nat):Int)) s:=by
     refine(q _ _).trans ?_;refine(r _ _).trans ?_;rw[au];congr 3;omega
    simp -implicitDefEqProofs only[↓cJ,↓cK,↓bY,↓bl,↓aB,↓aF,↓ax,↓aG,↓aM,↓aN,↓ay,↓aH,↓aE,↓aV,↓aZ,↓ba,↓ds,↓aA,↓bu,↓b4,↓c4,↓cc,↓cd,↓b5,↓cf,↓cg,↓ch,↓ci,↓cj,↓ck,↓bw,↓bx,↓bz,↓c5,↓c6,↓c7,↓c8,↓c9,↓da,↓db,↓dc,↓dd,↓cl,↓cm,↓cn,↓bE,↓cA,↓bm,↓c1,↓ca,↓cF,↓cU,↓de,↓a0,↓aO,↓a1,↓aS,↓aD,↓a2,↓cP,↓bV,↓b6,↓co,↓cp,↓cq,↓cr,↓ct,↓cv,↓cw,↓cx,↓dD,↓dE,↓di,↓dO,↓cD,↓cE,↓cO,↓dn,bL,dK,b1,decide_eq_false_iff_not,ite_not,↓reduceIte,a7,aI,bc,bA,bg,bP,cy,Nat.reduceAdd,bD,↓bb,Nat.reduceLeDiff,aC,cV,cX,dG,dy,bW,eq_true nS,dU]
   ·rw[Nat.pow_add];omega
   ·rw[Nat.pow_add];omega
  ·have nS:¬(256:Int)≤(y:Int):=by omega
   obtain⟨n,au,az,b3,dJ⟩:=tv G X s y m (by omega) (by omega);refine⟨n,?_,by omega,b3,dJ⟩;simp -implicitDefEqProofs only[↓cJ,↓cK,↓bY,↓bl,↓aB,↓aF,↓ax,↓aG,↓aM,↓aN,↓ay,↓aH,↓aE,↓aV,↓aZ,↓ba,↓ds,↓aA,↓bu,↓b4,↓c4,↓cc,↓cd,↓b5,↓cf,↓cg,↓ch,↓ci,↓cj,↓ck,↓bw,↓bx,↓bz,↓c5,↓c6,↓c7,↓c8,↓c9,↓da,↓db,↓dc,↓dd,↓cl,↓cm,↓cn,↓bE,↓cA,↓bm,↓c1,↓ca,↓cF,↓cU,↓de,↓a0,↓aO,↓a1,↓aS,↓aD,↓a2,↓cP,↓bV,↓b6,↓co,↓cp,↓cq,↓cr,↓ct,↓cv,↓cw,↓cx,↓dD,↓dE,↓di,↓dO,↓cD,↓cE,↓cO,↓dn,bL,dK,b1,decide_eq_false_iff_not,ite_not,↓reduceIte,a7,aI,bc,bA,bg,bP,cy,Nat.reduceAdd,bD,↓bb,Nat.reduceLeDiff,aC,cV,cX,dG,dy,bW,eq_false nS,au]
 by_cases c:65536≤x
 ·have nS:(65536:Int)≤(x:Int):=by omega
  obtain⟨n,au,az,b3,dJ⟩:=e (x/2^16) 16 (by omega) (by omega);refine⟨16+n,?_,by omega,?_,fun eZ=>?_⟩
  ·have dU:(aU aK G X).ai s.aj (fun v6 s=>nJ (aU aK G X) v6 (.int .i64 16) s) (an .shr (.int .u32 (x:Int)) (.int .u64 16))=.ok (.int .i64 ((16+n:Nat):Int)) s:=by
    refine(h _ _).trans ?_;exact au
   simp -implicitDefEqProofs only[↓cJ,↓cK,↓bY,↓bl,↓aB,↓aF,↓ax,↓aG,↓aM,↓aN,↓ay,↓aH,↓aE,↓aV,↓aZ,↓ba,↓ds,↓aA,↓bu,↓b4,↓c4,↓cc,↓cd,↓b5,↓cf,↓cg,↓ch,↓ci,↓cj,↓ck,↓bw,↓bx,↓bz,↓c5,↓c6,↓c7,↓c8,↓c9,↓da,↓db,↓dc,↓dd,↓cl,↓cm,↓cn,↓bE,↓cA,↓bm,↓c1,↓ca,↓cF,↓cU,↓de,↓a0,↓aO,↓a1,↓aS,↓aD,↓a2,↓cP,↓bV,↓b6,↓co,↓cp,↓cq,↓cr,↓ct,↓cv,↓cw,↓cx,↓dD,↓dE,↓di,↓dO,↓cD,↓cE,↓cO,↓dn,bL,dK,b1,decide_eq_false_iff_not,ite_not,↓reduceIte,a7,aI,bc,bA,bg,bP,cy,Nat.reduceAdd,bD,↓bb,Nat.reduceLeDiff,aC,cV,cX,dG,dy,bW,eq_true nS,dU]
   try rfl
  ·rw[Nat.pow_add];omega
  ·rw[Nat.pow_add];omega
 ·have nS:¬(65536:Int)≤(x:Int):=by omega
  obtain⟨n,au,az,b3,dJ⟩:=e x 0 (by omega) (by omega);refine⟨n,?_,by omega,b3,dJ⟩;rw[bg] at au;have A:nJ (aU aK G X) (.int .u32 (x:Int)) (.int .i64 0) s.aj=.ok (.int .i64 (n:Int)) s:=au;simp -implicitDefEqProofs only[↓cJ,↓cK,↓bY,↓bl,↓aB,↓aF,↓ax,↓aG,↓aM,↓aN,↓ay,↓aH,↓aE,↓aV,↓aZ,↓ba,↓ds,↓aA,↓bu,↓b4,↓c4,↓cc,↓cd,↓b5,↓cf,↓cg,↓ch,↓ci,↓cj,↓ck,↓bw,↓bx,↓bz,↓c5,↓c6,↓c7,↓c8,↓c9,↓da,↓db,↓dc,↓dd,↓cl,↓cm,↓cn,↓bE,↓cA,↓bm,↓c1,↓ca,↓cF,↓cU,↓de,↓a0,↓aO,↓a1,↓aS,↓aD,↓a2,↓cP,↓bV,↓b6,↓co,↓cp,↓cq,↓cr,↓ct,↓cv,↓cw,↓cx,↓dD,↓dE,↓di,↓dO,↓cD,↓cE,↓cO,↓dn,bL,dK,b1,decide_eq_false_iff_not,ite_not,↓reduceIte,a7,aI,bc,bA,bg,bP,cy,Nat.reduceAdd,bD,↓bb,Nat.reduceLeDiff,aC,cV,cX,dG,dy,bW,eq_false nS,A]
theorem OZ(s:ag)(x:Nat)(a8:x<4294967296)(eZ:x≠0):∃c:Nat,aL aK G X 136 [U x] s=.ok (.int .i64 (c:Int)) s∧c<32∧2147483648≤x*2^c∧x*2^c<4294967296:=by
 obtain⟨n,au,az,b3,dJ⟩:=OY G X s.aj x a8;have h:=dJ eZ;have dp:n≠0:=fun e=>by subst e;omega
 have r:2^n*2^(32-n)=4294967296:=by rw[←Nat.pow_add,show n+(32-n)=32 by omega]
 refine⟨32-n,?_,by omega,?_,?_⟩
 ·have q:=fun(S:ag) (k:bf)=>m2 (T:=aK) (G:=G) (X:=X) (s:=S) (k:=k) 32 n az (by omega)
  rw[EW,OJ,aI,a9 au];refine(q _ _).trans ?_;rw[aS]
 ·have:=fV (2^(32-n)) h;rw[gL] at this;omega
 ·have:=Nat.mul_lt_mul_of_pos_right b3 (Nat.two_pow_pos (32-n));omega
theorem Cs(s:ag)(u:af)(a:List Nat)(d:Nat)(y:l1 s u a)(A:dR a)(cS:d≠0)(L:d<4294967296)(gZ:a.length<9223372036854775807)(j:Nat):∀n k rest out S,k+n=a.length→Child s S→gU S j out→out.length=a.length→dR out→rest<d→val (a.drop n)=val (out.drop n)*d+rest→
  ∃v q,rF (aU aK G X) u (.int .u32 (d:Int)) (.cZ (.l j) 0 a.length a.length 1) (.int .u64 (rest:Int)) (.int .i64 (a.length:Int)) (.int .i64 (k:Int)) S=.ok (.ea [v,.int .u32 ((val a%d:Nat):Int)]) s∧jB v q∧dR q∧fb q∧val q=val a/d:=by
 intro n
 induction n with
 |zero=>
  intro k rest out S dl e df bK r aT bO;have h:¬((k:Int)<(a.length:Int)):=by omega
  have M:rest%4294967296=rest:=by omega
  rw[tg];simp -implicitDefEqProofs only[↓cJ,↓cK,↓bY,↓bl,↓aB,↓aF,↓ax,↓aG,↓aM,↓aN,↓ay,↓aH,↓aE,↓aV,↓aZ,↓ba,↓ds,↓aA,↓bu,↓b4,↓c4,↓cc,↓cd,↓b5,↓cf,↓cg,↓ch,↓ci,↓cj,↓ck,↓bw,↓bx,↓bz,↓c5,↓c6,↓c7,↓c8,↓c9,↓da,↓db,↓dc,↓dd,↓cl,↓cm,↓cn,↓bE,↓cA,↓bm,↓c1,↓ca,↓cF,↓cU,↓de,↓a0,↓aO,↓a1,↓aS,↓aD,↓a2,↓cP,↓bV,↓b6,↓co,↓cp,↓cq,↓cr,↓ct,↓cv,↓cw,↓cx,↓dD,↓dE,↓di,↓dO,↓cD,↓cE,↓cO,↓dn,bL,dK,b1,decide_eq_false_iff_not,ite_not,↓reduceIte,a7,aI,bc,bA,bg,bP,cy,Nat.reduceAdd,bD,↓bb,Nat.reduceLeDiff,aC,cV,cX,dG,dy,bW,eq_false h,BN,iz,M];obtain⟨v,f1,f2⟩:=wj G X e df a.length bK.symm (by omega) (.int .u32 (rest:Int)) rfl;simp -implicitDefEqProofs only[bL] at bO;refine⟨v,gb out,?_,f1,ls r,jl out,?_⟩
  ·rw[f2,bO,ez,Nat.mul_add_mod,hz aT]
  ·rw[kj,bO,ez,Nat.mul_add_div (by omega),Nat.div_eq_of_lt aT,Nat.add_zero]
 |succ n N=>
  intro k rest out S dl e df bK r aT bO;have h:(k:Int)<(a.length:Int):=by omega
  obtain⟨B,F,H,I⟩:=Cp a out n d rest cS (by omega) bK A r aT bO;have a8:=A.getD n;rw[kP] at B F H I a8;have xt:=fun(k:bf)=>(y.oH e.oH).get (T:=aK) (G:=G) (X:=X) .i64 n (by omega) k
  have gT:=fun x (k:bf)=>df.gT (T:=aK) (G:=G) (X:=X) n a.length a.length x (by omega) (by omega) k
  have O:=fun(S:ag) (k:bf)=>y.len (T:=aK) (G:=G) (X:=X) k S
  have U:=fun(S:ag) (k:bf)=>jV (T:=aK) (G:=G) (X:=X) (s:=S) (k:=k) a.length (by omega) (by omega)
  have J:=fun(S:ag) (lN:bf)=>m2 (T:=aK) (G:=G) (X:=X) (s:=S) (k:=lN) (a.length-1) k (by omega) (by omega)
  have V:=fun(S:ag) (lN:bf)=>ji (T:=aK) (G:=G) (X:=X) (s:=S) (k:=lN) k (by omega)
  have Y:a.length-1-k=n:=by omega
  simp -implicitDefEqProofs only[Y] at J;have Z:rest*4294967296%18446744073709551616=rest*4294967296:=by omega
  have aa:=fun(S:ag) (k:bf)=>hX (T:=aK) (G:=G) (X:=X) (s:=S) (k:=k) (a.getD n 0) a8
  have K:=fun(S:ag) (k:bf)=>hX (T:=aK) (G:=G) (X:=X) (s:=S) (k:=k) d L
  have gz:=fun(S:ag) (k:bf)=>vl (T:=aK) (G:=G) (X:=X) (s:=S) (k:=k) rest (a.getD n 0) a8 (by omega)
  have d1:=fun(S:ag) (k:bf)=>FM (T:=aK) (G:=G) (X:=X) (s:=S) (k:=k) (rest*4294967296+a.getD n 0) d cS (by omega)
  have d2:=fun(S:ag) (k:bf)=>yP (T:=aK) (G:=G) (X:=X) (s:=S) (k:=k) (rest*4294967296+a.getD n 0) d cS
  have em:(rest*4294967296+a.getD n 0)/d%4294967296=(rest*4294967296+a.getD n 0)/d:=hz B;rw[tg];simp -implicitDefEqProofs only[↓cJ,↓cK,↓bY,↓bl,↓aB,↓aF,↓ax,↓aG,↓aM,↓aN,↓ay,↓aH,↓aE,↓aV,↓aZ,↓ba,↓ds,↓aA,↓bu,↓b4,↓c4,↓cc,↓cd,↓b5,↓cf,↓cg,↓ch,↓ci,↓cj,↓ck,↓bw,↓bx,↓bz,↓c5,↓c6,↓c7,↓c8,↓c9,↓da,↓db,↓dc,↓dd,↓cl,↓cm,↓cn,↓bE,↓cA,↓bm,↓c1,↓ca,↓cF,↓cU,↓de,↓a0,↓aO,↓a1,↓aS,↓aD,↓a2,↓cP,↓bV,↓b6,↓co,↓cp,↓cq,↓cr,↓ct,↓cv,↓cw,↓cx,↓dD,↓dE,↓di,↓dO,↓cD,↓cE,↓cO,↓dn,bL,dK,b1,decide_eq_false_iff_not,ite_not,↓reduceIte,a7,aI,bc,bA,bg,bP,cy,Nat.reduceAdd,bD,↓bb,Nat.reduceLeDiff,aC,cV,cX,dG,dy,bW,eq_true h];rw[BM,O,U,J,cD,Z,xt,aa,gz,K,d1,dn,em];simp -implicitDefEqProofs only[aI];rw[gT,K,d2,BL,V];exact N (k+1) _ _ _ (by omega) (e.put _ _) (df.put _) (by simp [bK]) F H I
theorem O0(s:ag)(e:af)(a:List Nat)(d:Nat)(r:l1 s e a)(y:dR a)(cS:d≠0)(A:d<4294967296)(gZ:a.length<4294967296):
  ∃v q,aL aK G X 134 [e,U d] s=.ok (.ea [v,.int .u32 ((val a%d:Nat):Int)]) s∧jB v q∧dR q∧fb q∧val q=val a/d:=by
 rw[EU,OH];have u:=fun(S:ag) (k:bf)=>r.len (T:=aK) (G:=G) (X:=X) k S
 have B:=fun(S:ag) (k:bf)=>oc (T:=aK) (G:=G) (X:=X) (s:=S) (k:=k) (U 0) 4 a.length a.length (aC _) (by omega)
 rw[u];refine Exists.imp (fun v h=>Exists.imp (fun q h=>?_) h) (Cs G X s e a d r y cS A (by omega) _ a.length 0 0 _ _ (by omega) ((Child.aj s).new (.cells (List.replicate a.length (U 0)))) (gU.make _ _) (by simp) (pk _) (by omega) (by rw[List.drop_length,lz (by simp)];simp [val]));refine⟨?_,h.2⟩;refine(B _ _).trans ?_;rw[u];exact h.1
theorem O1(a b:Nat)(e:a<4294967296)(h:b<4294967296):((BitVec.ofInt 32 (a:Int) ||| BitVec.ofInt 32 (b:Int)).toNat:Int)=((a ||| b:Nat):Int):=by
 rw[BitVec.toNat_or];simp -implicitDefEqProofs only[BitVec.toNat_ofInt];congr 1;have au:(((a:Int)%((2^32:Nat):Int))).toNat=a:=by omega
 have az:(((b:Int)%((2^32:Nat):Int))).toNat=b:=by omega
 rw[au,az]
theorem VF{s:ag}{k:bf}(c y q p:Nat)(a3:c<2^p)(eT:y=q*2^p)(gh:q*2^p+c<4294967296):(aU aK G X).ai s k (an .or (.int .u32 (c:Int)) (.int .u32 (y:Int)))=k (.int .u32 ((c+y:Nat):Int)) s:=by
 subst eT;have e:an .or (.int .u32 (c:Int)) (.int .u32 ((q*2^p:Nat):Int))=some (.int .u32 (IntKind.wrap .u32 ((BitVec.ofInt 32 (c:Int) ||| BitVec.ofInt 32 ((q*2^p:Nat):Int)).toNat:Int))):=by simp -implicitDefEqProofs only[an,gm,↓reduceIte];rfl
 rw[e,O1 _ _ (by omega) (by omega),cK,wrap_u32];congr 2
 have:c ||| q*2^p=c+q*2^p:=by rw[Nat.or_comm,ez,←Nat.two_pow_add_eq_or_of_lt a3,Nat.add_comm]
 rw[this];omega
theorem Ct(s:ag)(F:af)(l:List Nat)(n:Nat)(M:l1 s F l)(u:dR l)(dp:n<4294967296)(gZ:l.length<4294967296)(j N:Nat)(pZ:N=l.length+n/32+1):∀m i out S,i+m=l.length→Child s S→gU S j out→out.length=N→dR out→val (out.take (i+n/32+1))=val (l.take i)*2^(32*(n/32)+n%32)→out.getD (i+n/32) 0<2^(n%32)→
  ∃v q,rJ (aU aK G X) F (.int .i64 (n:Int)) (.cZ (.l j) 0 N N 1) (.int .i64 (l.length:Int)) (.int .i64 (i:Int)) S=.ok v s∧jB v q∧dR q∧fb q∧val q=val l*2^n:=by
 intro m
 induction m with
 |zero=>
  intro i out S bX r df bK A bO a3;have h:¬((i:Int)<(l.length:Int)):=by omega
  rw[ti];simp -implicitDefEqProofs only[↓cJ,↓cK,↓bY,↓bl,↓aB,↓aF,↓ax,↓aG,↓aM,↓aN,↓ay,↓aH,↓aE,↓aV,↓aZ,↓ba,↓ds,↓aA,↓bu,↓b4,↓c4,↓cc,↓cd,↓b5,↓cf,↓cg,↓ch,↓ci,↓cj,↓ck,↓bw,↓bx,↓bz,↓c5,↓c6,↓c7,↓c8,↓c9,↓da,↓db,↓dc,↓dd,↓cl,↓cm,↓cn,↓bE,↓cA,↓bm,↓c1,↓ca,↓cF,↓cU,↓de,↓a0,↓aO,↓a1,↓aS,↓aD,↓a2,↓cP,↓bV,↓b6,↓co,↓cp,↓cq,↓cr,↓ct,↓cv,↓cw,↓cx,↓dD,↓dE,↓di,↓dO,↓cD,↓cE,↓cO,↓dn,bL,dK,b1,decide_eq_false_iff_not,ite_not,↓reduceIte,a7,aI,bc,bA,bg,bP,cy,Nat.reduceAdd,bD,↓bb,Nat.reduceLeDiff,aC,cV,cX,dG,dy,bW,eq_false h,BS,iz];obtain⟨v,f1,f2⟩:=JQ G X r df N bK.symm (by omega);refine⟨v,gb out,f2,f1,ls A,jl out,?_⟩;have dU:i=l.length:=by omega
  rw[dU] at bO;rw[kj,←List.take_length (l:=out),bK,pZ,bO,List.take_length,Nat.div_add_mod]
 |succ m O=>
  intro i out S bX r df bK A bO a3;have h:(i:Int)<(l.length:Int):=by omega
  have aT:n%32<32:=Nat.mod_lt _ (by omega);obtain⟨q,H,U⟩:=xW (l.getD i 0) (n%32) aT;have I:=xX (l.getD i 0) (n%32) (u.getD i) aT;have e:=Fa l out i (n/32) (n%32) aT (by omega) (by omega) A u bO a3 _ rfl _ rfl;simp -implicitDefEqProofs only[] at e;have a8:=u.getD i;have V:B=4294967296:=rfl;have ai:2^(n%32)≤2^32:=Nat.pow_le_pow_right (by omega) (by omega);rw[V] at H U I e a8;generalize Y:l.getD i 0=x at *;have xt:=fun(k:bf)=>(M.oH r.oH).get (T:=aK) (G:=G) (X:=X) .i64 i (by omega) k
  rw[Y] at xt;have Z:=fun(S:ag) (k:bf)=>hX (T:=aK) (G:=G) (X:=X) (s:=S) (k:=k) x a8
  have pE:=fun(S:ag) (k:bf)=>sA (T:=aK) (G:=G) (X:=X) (s:=S) (k:=k) n
  have J:=fun(S:ag) (k:bf)=>sy (T:=aK) (G:=G) (X:=X) (s:=S) (k:=k) n (by omega)
  have s1:=fun(S:ag) (k:bf)=>yQ (T:=aK) (G:=G) (X:=X) (s:=S) (k:=k) .i64 x (n%32) (by omega)
  have es:x*2^(n%32)%18446744073709551616=x*2^(n%32):=hz I.2;have K:=fun(S:ag) (k:bf)=>iy (T:=aK) (G:=G) (X:=X) (s:=S) (k:=k) i (n/32) (by omega)
  have aa:=fun S k=>nn G X S k (i+n/32) (by omega)
  have ab:=fun S k=>nn G X S k i (by omega)
  have ho:=fun(k:bf)=>df.get (T:=aK) (G:=G) (X:=X) (i+n/32) N N (by omega) (by omega) k
  have gz:=fun(S:ag) (k:bf)=>VF G X (s:=S) (k:=k) (out.getD (i+n/32) 0) (x*2^(n%32)%4294967296) q (n%32) a3 H (by omega)
  have ac:=fun y (k:bf)=>df.gT (T:=aK) (G:=G) (X:=X) (i+n/32) N N y (by omega) (by omega) k
  have L:=df.put (out.set (i+n/32) (out.getD (i+n/32) 0+x*2^(n%32)%4294967296));have ad:=fun y (k:bf)=>L.gT (T:=aK) (G:=G) (X:=X) (i+n/32+1) N N y (by simp;omega) (by omega) k
  have ae:x*2^(n%32)/4294967296%4294967296=x*2^(n%32)/4294967296:=hz (by omega);have ah:=L.put ((out.set (i+n/32) (out.getD (i+n/32) 0+x*2^(n%32)%4294967296)).set (i+n/32+1) (x*2^(n%32)/4294967296))
  have:=O (i+1) _ _ (by omega) ((r.put _ _).put _ _) ah (by simp [bK]) e.1 e.2.2.1 e.2.2.2;refine Exists.imp (fun v az=>Exists.imp (fun q b3=>⟨?_,b3.2⟩) az) this;rw[ti];simp -implicitDefEqProofs only[↓cJ,↓cK,↓bY,↓bl,↓aB,↓aF,↓ax,↓aG,↓aM,↓aN,↓ay,↓aH,↓aE,↓aV,↓aZ,↓ba,↓ds,↓aA,↓bu,↓b4,↓c4,↓cc,↓cd,↓b5,↓cf,↓cg,↓ch,↓ci,↓cj,↓ck,↓bw,↓bx,↓bz,↓c5,↓c6,↓c7,↓c8,↓c9,↓da,↓db,↓dc,↓dd,↓cl,↓cm,↓cn,↓bE,↓cA,↓bm,↓c1,↓ca,↓cF,↓cU,↓de,↓a0,↓aO,↓a1,↓aS,↓aD,↓a2,↓cP,↓bV,↓b6,↓co,↓cp,↓cq,↓cr,↓ct,↓cv,↓cw,↓cx,↓dD,↓dE,↓di,↓dO,↓cD,↓cE,↓cO,↓dn,bL,dK,b1,decide_eq_false_iff_not,ite_not,↓reduceIte,a7,aI,bc,bA,bg,bP,cy,Nat.reduceAdd,bD,↓bb,Nat.reduceLeDiff,aC,cV,cX,dG,dy,bW,eq_true h];rw[BR,xt,Z,pE,s1,es,J,K,ho,dn,gz];simp -implicitDefEqProofs only[aI];rw[ac,J,K,aa,cE,dn,ae];simp -implicitDefEqProofs only[aI];rw[ad,BQ,ab];exact b3.1
theorem Cu(s:ag)(e:af)(l:List Nat)(n:Nat)(h:l1 s e l)(u:dR l)(dp:n<4294967296)(gZ:l.length<4294967296):
  ∃v q,aL aK G X 137 [e,.int .i64 (n:Int)] s=.ok v s∧jB v q∧dR q∧fb q∧val q=val l*2^n:=by
 rw[EX,OK];have r:=fun(S:ag) (k:bf)=>h.len (T:=aK) (G:=G) (X:=X) k S
 have y:=fun(S:ag) (k:bf)=>sy (T:=aK) (G:=G) (X:=X) (s:=S) (k:=k) n (by omega)
 have A:=fun(S:ag) (k:bf)=>iy (T:=aK) (G:=G) (X:=X) (s:=S) (k:=k) l.length (n/32) (by omega)
 have B:=fun S k=>nn G X S k (l.length+n/32) (by omega)
 have F:=fun(S:ag) (k:bf)=>oc (T:=aK) (G:=G) (X:=X) (s:=S) (k:=k) (U 0) 4 (l.length+n/32+1) (l.length+n/32+1) (aC _) (by omega)
 have H:∀m i,(List.replicate m 0).getD i 0=0:=fun m i=>by simp -implicitDefEqProofs only[List.getD,List.getElem?_replicate];split<;> rfl
 have I:=Ct G X s e l n h u dp gZ s.aj.own.length _ rfl l.length 0 _ _ (by omega) ((Child.aj s).new (.cells (List.replicate (l.length+n/32+1) (U 0)))) (gU.make _ _) (by simp) (pk _) (by rw[List.take_replicate,Co];simp [val]) (by rw[H];exact Nat.two_pow_pos _);refine Exists.imp (fun v az=>Exists.imp (fun q b3=>⟨?_,b3.2⟩) az) I;rw[r,y,A,B];refine(F _ _).trans ?_;rw[r];exact b3.1
end Go.gw
end
section
namespace Go.hK
def k8(a b:Nat):Nat:=(((a:Int)-(b:Int))%18446744073709551616).toNat
theorem xY(u p c:Nat)(hu:u<4294967296)(fC:p<4294967296)(a3:c≤4294967296)(e:p+c≤4294967296):k8 (k8 u p) c%4294967296+p+c=u+4294967296*(k8 (k8 u p) c/9223372036854775808)∧k8 (k8 u p) c/9223372036854775808≤1:=by unfold k8;omega
theorem wk(l:List Nat)(j i:Nat):(l.drop j).getD i 0=l.getD (j+i) 0:=by simp [List.getD,List.getElem?_drop]
def e5(l:List Nat)(j i:Nat):Nat:=val ((l.drop j).take i)
theorem xZ(l:List Nat)(j:Nat):e5 l j 0=0:=by simp [e5,val]
theorem f5(l:List Nat)(j i:Nat)(h:j+i<l.length):e5 l j (i+1)=e5 l j i+B^i*l.getD (j+i) 0:=by unfold e5;rw[val_succ _ i (by simp;omega),wk]
theorem r2(l:List Nat)(j i k x:Nat)(h:j+i≤k):e5 (l.set k x) j i=e5 l j i:=by
 unfold e5;rw[List.drop_set];split
 ·rfl
 ·rw[l4 (by omega)]
theorem zx(vs:List Nat)(i:Nat):e5 vs 0 i=val (vs.take i):=by simp [e5]
theorem r3(l:List Nat)(j n:Nat)(h:j+n≤l.length):val (l.drop j)=e5 l j n+B^n*val (l.drop (j+n)):=by have:=k7 (l.drop j) n (by simp;omega);rw[this,List.drop_drop];rfl
theorem r4(l:List Nat)(j i:Nat)(h:dR l):e5 l j i<B^i:=by
 have:=hY ((l.drop j).take i) ((h.drop j).take i);have az:((l.drop j).take i).length≤i:=by simp;omega
 exact f8 this (oo az)
theorem Fb(dq gI vs:List Nat)(j i q carry e:Nat)(gh:q<B)(bX:i<vs.length)(df:j+i<dq.length)(lF:dR vs)(A:dR dq)(a3:carry<B)(J:e≤1)(H:dq.getD (j+i) 0=gI.getD (j+i) 0)(bK:dq.length=gI.length)
  (bO:e5 dq j i+q*e5 vs 0 i=e5 gI j i+(carry+e)*B^i):
  let p:=q*vs.getD i 0+carry
  let t:=k8 (k8 (dq.getD (j+i) 0) (p%B)) e
  p<18446744073709551616∧p/B<B∧t/9223372036854775808≤1∧t%B<B∧dR (dq.set (j+i) (t%B))∧e5 (dq.set (j+i) (t%B)) j (i+1)+q*e5 vs 0 (i+1)=e5 gI j (i+1)+(p/B+t/9223372036854775808)*B^(i+1):=by
 have K:=lF.getD i;have fC:q*vs.getD i 0+carry<B*B:=by
  have au:q*vs.getD i 0≤(B-1)*(B-1):=Nat.mul_le_mul (by omega) (by omega);have az:(B-1)*(B-1)+B≤B*B:=by decide
  omega
 have L:B*B=18446744073709551616:=by decide
 have cS:=xY (dq.getD (j+i) 0) ((q*vs.getD i 0+carry)%B) e (A.getD _) (Nat.mod_lt _ g8) (by have:=kP;omega) (by have:=Nat.mod_lt (q*vs.getD i 0+carry) g8;rw[kP] at this ⊢;omega);have F:k8 (k8 (dq.getD (j+i) 0) ((q*vs.getD i 0+carry)%B)) e%B<B:=Nat.mod_lt _ g8;refine⟨by omega,by rw[Nat.div_lt_iff_lt_mul g8];exact fC,cS.2,F,A.set _ _ F,?_⟩;rw[f5 _ _ _ (by simpa using df),r2 _ _ _ _ _ (aC _),fP df,f5 vs 0 i (by omega),f5 gI j i (by omega),bg,←H];have hm:=Nat.mod_add_div (q*vs.getD i 0+carry) B;rw[←kP] at cS;generalize k8 (k8 (dq.getD (j+i) 0) ((q*vs.getD i 0+carry)%B)) e=t at *;generalize t/9223372036854775808=h at *;generalize t%B=y at *;generalize M:(q*vs.getD i 0+carry)%B=pl at *;generalize (q*vs.getD i 0+carry)/B=r at *;generalize dq.getD (j+i) 0=u at *;have key:y+q*vs.getD i 0+carry+e=u+(r+h)*B:=by rw[e9,ez r B,ez h B];omega
 have oR:B^i*(y+q*vs.getD i 0+carry+e)=B^i*(u+(r+h)*B):=by rw[key]
 have dU:B^i*(y+q*vs.getD i 0+carry+e)=B^i*y+q*(B^i*vs.getD i 0)+(carry+e)*B^i:=by rw[show y+q*vs.getD i 0+carry+e=y+(q*vs.getD i 0+(carry+e)) from by omega,fD,fD,Nat.mul_left_comm,ez (B^i) (carry+e)];omega
 have I:B^i*(u+(r+h)*B)=B^i*u+(r+h)*B^(i+1):=by rw[fD,Nat.pow_succ,Nat.mul_left_comm]
 rw[dU,I] at oR;rw[fD];generalize (r+h)*B^(i+1)=N at *;generalize (carry+e)*B^i=O at *;generalize q*(B^i*vs.getD i 0)=U at *;generalize q*e5 vs 0 i=V at *;omega
theorem Fc(dq gI vs:List Nat)(j i carry:Nat)(bX:i<vs.length)(df:j+i<dq.length)(lF:dR vs)(h:dR dq)(a3:carry≤1)(q:dq.getD (j+i) 0=gI.getD (j+i) 0)(bK:dq.length=gI.length)
  (bO:e5 dq j i+carry*B^i=e5 gI j i+e5 vs 0 i):
  let t:=dq.getD (j+i) 0+vs.getD i 0+carry
  t<18446744073709551616∧t/B≤1∧dR (dq.set (j+i) (t%B))∧e5 (dq.set (j+i) (t%B)) j (i+1)+t/B*B^(i+1)=e5 gI j (i+1)+e5 vs 0 (i+1):=by
 have F:=lF.getD i;have H:=h.getD (j+i);have I:=kP;have r:(dq.getD (j+i) 0+vs.getD i 0+carry)%B<B:=Nat.mod_lt _ g8;refine⟨by omega,?_,h.set _ _ r,?_⟩
 ·have:(dq.getD (j+i) 0+vs.getD i 0+carry)/B<2:=by rw[Nat.div_lt_iff_lt_mul g8];omega
  omega
 rw[f5 _ _ _ (by simpa using df),r2 _ _ _ _ _ (aC _),fP df,f5 vs 0 i (by omega),f5 gI j i (by omega),bg,←q];have hm:=Nat.mod_add_div (dq.getD (j+i) 0+vs.getD i 0+carry) B;generalize (dq.getD (j+i) 0+vs.getD i 0+carry)%B=y at *;generalize (dq.getD (j+i) 0+vs.getD i 0+carry)/B=e at *;generalize dq.getD (j+i) 0=u at *;generalize vs.getD i 0=v at *;have oR:B^i*(y+B*e)=B^i*(u+v+carry):=by rw[hm]
 have dU:B^i*(y+B*e)=B^i*y+e*B^(i+1):=by rw[fD,Nat.pow_succ,ez e,gL]
 have A:B^i*(u+v+carry)=B^i*u+B^i*v+carry*B^i:=by rw[fD,fD,ez carry]
 rw[dU,A] at oR;generalize e*B^(i+1)=J at *;generalize carry*B^i=K at *;omega
theorem Cv(U V q n I h r u y v1 v2:Nat)(O:U=(r*B*B+u*B+y)*B^n+I)(A:V=(v1*B+v2)*B^n+h)(Y:I<B^n)(J:h<B^n)(Z:B≤2*v1)(gh:q<B)(au:q*(v1*B+v2)≤r*B*B+u*B+y)(az:∀qc,qc<B→qc*(v1*B+v2)≤r*B*B+u*B+y→qc≤q)(K:U<B*V):
  U/V≤q∧q≤U/V+1:=by
 have F:0<V:=by
  have:1≤v1:=by have:=g8;omega
  have b3:1*B≤v1*B:=fV _ this;have dJ:1*B^n≤(v1*B+v2)*B^n:=fV _ (by have:=g8;omega)
  have:=Nat.pow_pos (n:=n) g8;omega
 constructor
 ·refine az _ (by rw[Nat.div_lt_iff_lt_mul F];exact K) ?_;have b3:U/V*V≤U:=Nat.div_mul_le_self U V;have dJ:U/V*(v1*B+v2)*B^n≤U/V*V:=by
   rw[gL];exact Nat.mul_le_mul_left _ (by omega)
  have H:U/V*(v1*B+v2)*B^n<(r*B*B+u*B+y+1)*B^n:=by rw[e9 _ 1,Nat.one_mul];omega
  have:=Nat.lt_of_mul_lt_mul_right H;omega
 ·have b3:q*V≤U+V:=by
   rw[A,fD,←gL];have dJ:q*(v1*B+v2)*B^n≤(r*B*B+u*B+y)*B^n:=fV _ au;have H:q*h≤B*B^n:=Nat.mul_le_mul (Nat.le_of_lt gh) (Nat.le_of_lt J);have L:B*B^n≤(v1*B+v2)*B^n:=by
    refine fV _ ?_
    have:1*B≤v1*B:=fV _ (by have:=g8;omega);omega
   omega
  have aa:q*V≤(U/V+1)*V+V:=by have:=Nat.div_add_mod U V;have M:=Nat.mod_lt U F;rw[e9,Nat.one_mul,ez (U/V)];omega
  have N:q*V<(U/V+2)*V:=by
   rw[A,fD,←gL];have dJ:q*(v1*B+v2)*B^n≤(r*B*B+u*B+y)*B^n:=fV _ au;have H:q*h≤B*h:=fV _ (Nat.le_of_lt gh);have ab:B*h<B*B^n:=Nat.mul_lt_mul_of_pos_left J g8;have L:B*B^n≤(v1*B+v2)*B^n:=by
    refine fV _ ?_
    have:1*B≤v1*B:=fV _ (by have:=g8;omega);omega
   have ac:q*(v1*B+v2)*B^n+q*h<U+V:=by omega
   have ad:=Nat.div_add_mod U V;have M:=Nat.mod_lt U F;rw[←A];have e:(U/V+2)*V=V*(U/V)+V+V:=by rw[e9,ez (U/V)];omega
   rw[e];omega
  have:=Nat.lt_of_mul_lt_mul_right N;omega
end Go.hK
namespace Go.hK
theorem JS(n w x R:Nat)(h:w+B^n*x=B^(n+1)+R)(hw:w<B^n)(e:R<B^n):x=B∧w=R:=by
 rw[Nat.pow_succ] at h;have a8:x=B:=by
  have au:(w+B^n*x)/B^n=x:=by rw[Nat.add_mul_div_left _ _ (Nat.pow_pos g8),Nat.div_eq_of_lt hw,bg]
  have az:(B^n*B+R)/B^n=B:=by rw[Nat.add_comm,Nat.add_mul_div_left _ _ (Nat.pow_pos g8),Nat.div_eq_of_lt e,bg]
  rw[←au,h,az]
 subst a8;exact⟨rfl,by omega⟩
theorem r5(vs:List Nat):val vs=e5 vs 0 vs.length:=by rw[zx,List.take_length]
theorem Cw(x y r:Nat)(aT:r<32)(a8:x<B):x%2^r+(x+B*y)/2^r%B*2^r=x+B*(y%2^r):=by
 have h:=Nat.two_pow_pos r;have e:B=2^r*2^(32-r):=by rw[←Nat.pow_add,tu];congr 1;omega
 generalize F:(2:Nat)^(32-r)=Q at *;generalize (2:Nat)^r=P at *;have dU:(x+B*y)/P=x/P+Q*y:=by rw[e,gL,Nat.add_mul_div_left _ _ h]
 have H:x/P<Q:=by rw[Nat.div_lt_iff_lt_mul h,ez,←e];exact a8
 have q:Q*y=B*(y/P)+Q*(y%P):=by
  conv=>lhs;rw[←Nat.div_add_mod y P]
  rw[fD,e,←gL,ez Q P]
 have u:x/P+Q*(y%P)<B:=by have au:y%P+1≤P:=Nat.mod_lt _ h;have az:=Nat.mul_le_mul_left Q au;rw[fD,Nat.mul_one,ez Q P,←e] at az;omega
 have A:(x+B*y)/P%B=x/P+Q*(y%P):=by rw[dU,q,show x/P+(B*(y/P)+Q*(y%P))=x/P+Q*(y%P)+B*(y/P) by omega,Nat.add_mul_mod_self_left,hz u]
 rw[A,e9,e];have dJ:=Nat.mod_add_div x P;have I:Q*(y%P)*P=P*Q*(y%P):=by rw[ez,←gL]
 have J:x/P*P=P*(x/P):=ez _ _;omega
theorem Cx(l out:List Nat)(w i r:Nat)(aT:r<32)(e:dR l)(h:dR out)(bX:i<out.length)(bK:w+i<l.length)(bO:val (out.take i)*2^r+l.getD w 0%2^r=val ((l.drop w).take i)+B^i*(l.getD (w+i) 0%2^r)):
  dR (out.set i ((l.getD (w+i) 0+B*l.getD (w+i+1) 0)/2^r%B))∧val ((out.set i ((l.getD (w+i) 0+B*l.getD (w+i+1) 0)/2^r%B)).take (i+1))*2^r+l.getD w 0%2^r=val ((l.drop w).take (i+1))+B^(i+1)*(l.getD (w+(i+1)) 0%2^r):=by
 refine⟨h.set _ _ (Nat.mod_lt _ g8),?_⟩;have au:=Cw (l.getD (w+i) 0) (l.getD (w+i+1) 0) r aT (e.getD _);generalize eT:(l.getD (w+i) 0+B*l.getD (w+i+1) 0)/2^r%B=y at *;have s1:=val_succ (out.set i y) i (by simpa using bX);have s2:=val_succ (l.drop w) i (by simp;omega);have ho:(out.set i y).getD i 0=y:=fP bX;rw[wk] at s2;rw[s1,s2,ho,l4 (aC _),e9,Nat.pow_succ,←Nat.add_assoc w i 1];have az:B^i*(l.getD (w+i) 0%2^r+y*2^r)=B^i*(l.getD (w+i) 0+B*(l.getD (w+i+1) 0%2^r)):=by rw[au]
 rw[fD,fD,←gL,←gL] at az;omega
theorem x0(l:List Nat)(w:Nat)(e:dR l)(h:w≤l.length):val l/B^w=val (l.drop w):=by
 have au:=k7 l w h;have b3:=hY (l.take w) (e.take _);have dJ:(l.take w).length=w:=by simp;omega
 rw[dJ] at b3;rw[au,Nat.add_mul_div_left _ _ (Nat.pow_pos g8),Nat.div_eq_of_lt b3,bg]
theorem Fe(l out:List Nat)(w r n:Nat)(dp:n=32*w+r)(e:dR l)(hw:w<l.length)(bO:val out*2^r+l.getD w 0%2^r=val (l.drop w)):val out=val l/2^n:=by rw[dp,←E9,←Nat.div_div_eq_div_mul,x0 l w e (by omega),←bO,ez,Nat.mul_add_div (Nat.two_pow_pos _),Nat.div_eq_of_lt (Nat.mod_lt _ (Nat.two_pow_pos _)),Nat.add_zero]
theorem Cy(l:List Nat)(n:Nat)(e:dR l)(h:l.length≤n/32):val l/2^n=0:=by
 apply Nat.div_eq_of_lt;have au:=hY l e;have az:B^l.length≤B^(n/32):=oo h;have b3:(2:Nat)^n=B^(n/32)*2^(n%32):=by rw[E9,Nat.div_add_mod]
 have dJ:B^(n/32)*1≤B^(n/32)*2^(n%32):=Nat.mul_le_mul_left _ (Nat.two_pow_pos _);omega
end Go.hK
end
section
namespace Go.gw
open Go.Ab Go.hK
variable(G:Nat→af)(X:Nat→List af→ag→ah)
theorem O2{s:ag}{k:bf}(c q:Nat)(a3:c<4294967296)(gh:q<4294967296):(aU aK G X).ai s k (an .or (.int .u64 (c:Int)) (.int .u64 ((q*4294967296:Nat):Int)))=k (.int .u64 ((c+4294967296*q:Nat):Int)) s:=by
 have e:an .or (.int .u64 (c:Int)) (.int .u64 ((q*4294967296:Nat):Int))=some (.int .u64 (IntKind.wrap .u64 ((BitVec.ofInt 64 (c:Int) ||| BitVec.ofInt 64 ((q*4294967296:Nat):Int)).toNat:Int))):=by simp -implicitDefEqProofs only[an,gm,↓reduceIte];rfl
 rw[e,Dq _ _ (by omega) (by omega),cK,iO];congr 2
 have:c ||| q*4294967296=c+4294967296*q:=by have h:=Nat.two_pow_add_eq_or_of_lt (i:=32) (b:=c) (by omega) q;rw[Nat.or_comm,ez];rw[show(4294967296:Nat)=2^32 from rfl,←h,Nat.add_comm]
 rw[this];omega
theorem Ff(eu:IntKind)(a b:Int):∃c,∀(s:ag) (k:bf),(aU aK G X).ai s k (an .and (.int eu a) (.int eu b))=k (.int eu c) s:=by refine⟨eu.wrap (BitVec.ofInt eu.bits a &&& BitVec.ofInt eu.bits b).toNat,fun s k=>?_⟩;rw[show an .and (.int eu a) (.int eu b)=some (.int eu (eu.wrap (BitVec.ofInt eu.bits a &&& BitVec.ofInt eu.bits b).toNat)) from by simp [an,gm]];rfl
theorem Cz(s:ag)(A:af)(l:List Nat)(n:Nat)(lost:Bool)(F:l1 s A l)(r:dR l)(dp:n<4294967296)(gZ:l.length<4294967296)(a6:n/32<l.length)(j N:Nat)(pZ:N=l.length-n/32):∀m i out S,i+m=N→Child s S→gU S j out→out.length=N→dR out→
  val (out.take i)*2^(n%32)+l.getD (n/32) 0%2^(n%32)=val ((l.drop (n/32)).take i)+B^i*(l.getD (n/32+i) 0%2^(n%32))→
  ∃v q,pg (aU aK G X) A (.int .i64 (n:Int)) (.int .i64 ((n/32:Nat):Int)) (.bool lost) (.cZ (.l j) 0 N N 1) (.int .i64 (N:Int)) (.int .i64 (i:Int)) S=.ok (.ea [v,.bool lost]) s∧jB v q∧dR q∧fb q∧val q=val l/2^n:=by
 intro m
 induction m with
 |zero=>
  intro i out S bX e df bK H bO;have h:¬((i:Int)<(N:Int)):=by omega
  rw[tm];simp -implicitDefEqProofs only[↓cJ,↓cK,↓bY,↓bl,↓aB,↓aF,↓ax,↓aG,↓aM,↓aN,↓ay,↓aH,↓aE,↓aV,↓aZ,↓ba,↓ds,↓aA,↓bu,↓b4,↓c4,↓cc,↓cd,↓b5,↓cf,↓cg,↓ch,↓ci,↓cj,↓ck,↓bw,↓bx,↓bz,↓c5,↓c6,↓c7,↓c8,↓c9,↓da,↓db,↓dc,↓dd,↓cl,↓cm,↓cn,↓bE,↓cA,↓bm,↓c1,↓ca,↓cF,↓cU,↓de,↓a0,↓aO,↓a1,↓aS,↓aD,↓a2,↓cP,↓bV,↓b6,↓co,↓cp,↓cq,↓cr,↓ct,↓cv,↓cw,↓cx,↓dD,↓dE,↓di,↓dO,↓cD,↓cE,↓cO,↓dn,bL,dK,b1,decide_eq_false_iff_not,ite_not,↓reduceIte,a7,aI,bc,bA,bg,bP,cy,Nat.reduceAdd,bD,↓bb,Nat.reduceLeDiff,aC,cV,cX,dG,dy,bW,eq_false h,B5,iz];obtain⟨v,f1,f2⟩:=wj G X e df N bK.symm (by omega) (.bool lost) rfl;refine⟨v,gb out,f2,f1,ls H,jl out,?_⟩;rw[kj];have oG:l.getD (n/32+i) 0=0:=by simp -implicitDefEqProofs only[List.getD];rw[List.getElem?_eq_none (by omega)];rfl
  rw[oG,Nat.zero_mod,Nat.mul_zero,Nat.add_zero,iP (by omega),iP (by simp;omega)] at bO;exact Fe l out (n/32) (n%32) n (Nat.div_add_mod n 32).symm r a6 bO
 |succ m L=>
  intro i out S bX e df bK H bO;have h:(i:Int)<(N:Int):=by omega
  have aT:n%32<32:=Nat.mod_lt _ (by omega);have K:=Cx l out (n/32) i (n%32) aT r H (by omega) (by omega) bO;have a8:=r.getD (n/32+i);have eT:=r.getD (n/32+i+1);have M:B=4294967296:=rfl;rw[M] at a8 eT;have xt:=fun(k:bf)=>(F.oH e.oH).get (T:=aK) (G:=G) (X:=X) .i64 (n/32+i) (by omega) k
  have O:=fun(S:ag) (k:bf)=>hX (T:=aK) (G:=G) (X:=X) (s:=S) (k:=k) (l.getD (n/32+i) 0) a8
  have U:=fun(S:ag) (k:bf)=>hX (T:=aK) (G:=G) (X:=X) (s:=S) (k:=k) (l.getD (n/32+i+1) 0) eT
  have pE:=fun(S:ag) (k:bf)=>sA (T:=aK) (G:=G) (X:=X) (s:=S) (k:=k) n
  have V:=fun(S:ag) (k:bf)=>F.len (T:=aK) (G:=G) (X:=X) k S
  have u:=fun(S:ag) (k:bf)=>iy (T:=aK) (G:=G) (X:=X) (s:=S) (k:=k) i (n/32) (by omega)
  have I:=fun S k=>nn G X S k (i+n/32) (by omega)
  have Y:=fun S k=>nn G X S k i (by omega)
  have Z:i+n/32=n/32+i:=Nat.add_comm _ _;simp -implicitDefEqProofs only[Z] at u I;have aa:=fun y (k:bf)=>df.gT (T:=aK) (G:=G) (X:=X) i N N y (by omega) (by omega) k
  have s1:=fun t (S:ag) (k:bf)=>yR (T:=aK) (G:=G) (X:=X) (s:=S) (k:=k) .i64 t (n%32) (by omega)
  have this:=L (i+1) _ _ (by omega) (e.put _ _) (df.put (out.set i ((l.getD (n/32+i) 0+B*l.getD (n/32+i+1) 0)/2^(n%32)%B))) (by simp [bK]) K.1 K.2;refine Exists.imp (fun v az=>Exists.imp (fun q b3=>⟨?_,b3.2⟩) az) this;have J:rO (aU aK G X) A (.int .i64 (n:Int)) (.int .i64 ((n/32:Nat):Int)) (.bool lost) (.cZ (.l j) 0 N N 1) (.int .i64 (i:Int)) (.int .u64 ((l.getD (n/32+i) 0+4294967296*l.getD (n/32+i+1) 0:Nat):Int)) (.int .i64 (N:Int)) (.int .i64 (i:Int)) S=.ok (.ea [v,.bool lost]) s:=by rw[B3,pE,s1,dn];simp -implicitDefEqProofs only[aI];rw[aa,B2,Y];exact b3.1
  rw[tm];simp -implicitDefEqProofs only[↓cJ,↓cK,↓bY,↓bl,↓aB,↓aF,↓ax,↓aG,↓aM,↓aN,↓ay,↓aH,↓aE,↓aV,↓aZ,↓ba,↓ds,↓aA,↓bu,↓b4,↓c4,↓cc,↓cd,↓b5,↓cf,↓cg,↓ch,↓ci,↓cj,↓ck,↓bw,↓bx,↓bz,↓c5,↓c6,↓c7,↓c8,↓c9,↓da,↓db,↓dc,↓dd,↓cl,↓cm,↓cn,↓bE,↓cA,↓bm,↓c1,↓ca,↓cF,↓cU,↓de,↓a0,↓aO,↓a1,↓aS,↓aD,↓a2,↓cP,↓bV,↓b6,↓co,↓cp,↓cq,↓cr,↓ct,↓cv,↓cw,↓cx,↓dD,↓dE,↓di,↓dO,↓cD,↓cE,↓cO,↓dn,bL,dK,b1,decide_eq_false_iff_not,ite_not,↓reduceIte,a7,aI,bc,bA,bg,bP,cy,Nat.reduceAdd,bD,↓bb,Nat.reduceLeDiff,aC,cV,cX,dG,dy,bW,eq_true h];rw[B4,u,xt,O,u,I,V,bm,bl];by_cases ab:n/32+i+1<l.length
  ·have ac:=fun(k:bf)=>(F.oH e.oH).get (T:=aK) (G:=G) (X:=X) .i64 (n/32+i+1) ab k
   have gz:=fun(S:ag) (k:bf)=>O2 G X (s:=S) (k:=k) (l.getD (n/32+i) 0) (l.getD (n/32+i+1) 0) a8 eT
   have es:l.getD (n/32+i+1) 0*4294967296%18446744073709551616=l.getD (n/32+i+1) 0*4294967296:=hz (by omega);rw[if_pos (by simp -implicitDefEqProofs only[b1];omega),u,I,ac,U,cD,es,gz];exact J
  ·rw[if_neg (by simp -implicitDefEqProofs only[b1];omega)];have oG:l.getD (n/32+i+1) 0=0:=by simp -implicitDefEqProofs only[List.getD];rw[List.getElem?_eq_none (by omega)];rfl
   rw[oG,Nat.mul_zero,Nat.add_zero] at J;exact J
theorem O3(s:ag)(e:af)(l:List Nat)(n:Nat)(r:l1 s e l)(A:dR l)(dp:n<4294967296)(gZ:l.length<4294967296):
  ∃v q lost,aL aK G X 140 [e,.int .i64 (n:Int)] s=.ok (.ea [v,.bool lost]) s∧jB v q∧dR q∧fb q∧val q=val l/2^n:=by
 rw[E0,ON];have u:=fun(S:ag) (k:bf)=>r.len (T:=aK) (G:=G) (X:=X) k S
 have B:=fun(S:ag) (k:bf)=>sy (T:=aK) (G:=G) (X:=X) (s:=S) (k:=k) n (by omega)
 by_cases a6:n/32<l.length
 ·have h:¬((l.length:Int)≤((n/32:Nat):Int)):=by omega
  rw[B,u,cF,bl,if_neg (by simpa using h)];have jT:=Child.aj s;have y:=r.cut (n/32) (by omega);have hlen:(l.take (n/32)).length=n/32:=by simp;omega
  have I:=mH G X s.aj (pa e (n/32)) (l.take (n/32)) (y.oH jT.oH) (by rw[hlen];omega);have J:=y.cut (g9 (l.take (n/32)) (l.take (n/32)).length) (jz _ _);have K:=fun(S:ag) (k:bf)=>J.len (T:=aK) (G:=G) (X:=X) k S
  have L:=fun(S:ag) (k:bf)=>m2 (T:=aK) (G:=G) (X:=X) (s:=S) (k:=k) l.length (n/32) (by omega) (by omega)
  have M:=fun(S:ag) (k:bf)=>oc (T:=aK) (G:=G) (X:=X) (s:=S) (k:=k) (U 0) 4 (l.length-n/32) (l.length-n/32) (aC _) (by omega)
  have fin:∀lost,∃v q,(aU aK G X).cI s.aj (fun N s=>(aU aK G X).ai s (fun F s=>(aU aK G X).kz s (fun H s=>(aU aK G X).cI s (fun O s=>pg (aU aK G X) e (.int .i64 (n:Int)) (.int .i64 ((n/32:Nat):Int)) (.bool lost) H O (.int .i64 0) s) false H) [.int .u32 0] 4 F F) (an .sub N (.int .i64 ((n/32:Nat):Int)))) false e=.ok (.ea [v,.bool lost]) s∧jB v q∧dR q∧fb q∧val q=val l/2^n:=fun lost=>by have V:=Cz G X s e l n lost r A dp gZ a6 s.aj.own.length _ rfl (l.length-n/32) 0 _ _ (by omega) (jT.new (.cells (List.replicate (l.length-n/32) (U 0)))) (gU.make _ _) (by simp) (pk _) (by simp [val]);refine Exists.imp (fun v az=>Exists.imp (fun q b3=>⟨?_,b3.2⟩) az) V;rw[u,L];refine(M _ _).trans ?_;rw[aV];exact b3.1
  have xt:=fun(k:bf)=>(r.oH jT.oH).get (T:=aK) (G:=G) (X:=X) .i64 (n/32) a6 k
  have pE:=fun(S:ag) (k:bf)=>sA (T:=aK) (G:=G) (X:=X) (s:=S) (k:=k) n
  have s1:∀(S:ag) (k:bf),(aU aK G X).ai S k (an .shl (.int .u32 1) (.int .i64 ((n%32:Nat):Int)))=k (.int .u32 ((1*2^(n%32)%4294967296:Nat):Int)) S:=fun S k=>Dp .i64 1 (n%32) (by omega)
  obtain⟨c,a3⟩:=Ff G X .u32 ((l.getD (n/32) 0:Nat):Int) (IntKind.wrap .u32 (((1*2^(n%32)%4294967296:Nat):Int)-1));have bG:=fun(k:bf) (S:ag)=>r.slice (T:=aK) (G:=G) (X:=X) (n/32) (by omega) k S
  rw[B6,bG,(y.ap _),a9 I,K,ca];by_cases eZ:(0:Int)<(((l.take (n/32)).take (g9 (l.take (n/32)) (l.take (n/32)).length)).length:Int)
  ·obtain⟨v,q,au,az⟩:=fin true;refine⟨v,q,true,?_,az⟩;simp -implicitDefEqProofs only[↓cJ,↓cK,↓bY,↓bl,↓aB,↓aF,↓ax,↓aG,↓aM,↓aN,↓ay,↓aH,↓aE,↓aV,↓aZ,↓ba,↓ds,↓aA,↓bu,↓b4,↓c4,↓cc,↓cd,↓b5,↓cf,↓cg,↓ch,↓ci,↓cj,↓ck,↓bw,↓bx,↓bz,↓c5,↓c6,↓c7,↓c8,↓c9,↓da,↓db,↓dc,↓dd,↓cl,↓cm,↓cn,↓bE,↓cA,↓bm,↓c1,↓ca,↓cF,↓cU,↓de,↓a0,↓aO,↓a1,↓aS,↓aD,↓a2,↓cP,↓bV,↓b6,↓co,↓cp,↓cq,↓cr,↓ct,↓cv,↓cw,↓cx,↓dD,↓dE,↓di,↓dO,↓cD,↓cE,↓cO,↓dn,bL,dK,b1,decide_eq_false_iff_not,ite_not,↓reduceIte,a7,aI,bc,bA,bg,bP,cy,Nat.reduceAdd,bD,↓bb,Nat.reduceLeDiff,aC,cV,cX,dG,dy,bW,eq_true eZ];simpa only[↓cJ,↓cK,↓bY,↓bl,↓aB,↓aF,↓ax,↓aG,↓aM,↓aN,↓ay,↓aH,↓aE,↓aV,↓aZ,↓ba,↓ds,↓aA,↓bu,↓b4,↓c4,↓cc,↓cd,↓b5,↓cf,↓cg,↓ch,↓ci,↓cj,↓ck,↓bw,↓bx,↓bz,↓c5,↓c6,↓c7,↓c8,↓c9,↓da,↓db,↓dc,↓dd,↓cl,↓cm,↓cn,↓bE,↓cA,↓bm,↓c1,↓ca,↓cF,↓cU,↓de,↓a0,↓aO,↓a1,↓aS,↓aD,↓a2,↓cP,↓bV,↓b6,↓co,↓cp,↓cq,↓cr,↓ct,↓cv,↓cw,↓cx,↓dD,↓dE,↓di,↓dO,↓cD,↓cE,↓cO,↓dn,bL,dK,b1,decide_eq_false_iff_not,ite_not,↓reduceIte,a7,aI,bc,bA,bg,bP,cy,Nat.reduceAdd,bD,↓bb,Nat.reduceLeDiff,aC,cV,cX,dG,dy,bW] using au
  ·obtain⟨v,q,au,az⟩:=fin (decide (¬c=0));refine⟨v,q,decide (¬c=0),?_,az⟩;simp -implicitDefEqProofs only[↓cJ,↓cK,↓bY,↓bl,↓aB,↓aF,↓ax,↓aG,↓aM,↓aN,↓ay,↓aH,↓aE,↓aV,↓aZ,↓ba,↓ds,↓aA,↓bu,↓b4,↓c4,↓cc,↓cd,↓b5,↓cf,↓cg,↓ch,↓ci,↓cj,↓ck,↓bw,↓bx,↓bz,↓c5,↓c6,↓c7,↓c8,↓c9,↓da,↓db,↓dc,↓dd,↓cl,↓cm,↓cn,↓bE,↓cA,↓bm,↓c1,↓ca,↓cF,↓cU,↓de,↓a0,↓aO,↓a1,↓aS,↓aD,↓a2,↓cP,↓bV,↓b6,↓co,↓cp,↓cq,↓cr,↓ct,↓cv,↓cw,↓cx,↓dD,↓dE,↓di,↓dO,↓cD,↓cE,↓cO,↓dn,bL,dK,b1,decide_eq_false_iff_not,ite_not,↓reduceIte,a7,aI,bc,bA,bg,bP,cy,Nat.reduceAdd,bD,↓bb,Nat.reduceLeDiff,aC,cV,cX,dG,dy,bW,eq_false eZ,↓xt,↓pE,↓s1,↓fz,↓a3];simpa only[↓cJ,↓cK,↓bY,↓bl,↓aB,↓aF,↓ax,↓aG,↓aM,↓aN,↓ay,↓aH,↓aE,↓aV,↓aZ,↓ba,↓ds,↓aA,↓bu,↓b4,↓c4,↓cc,↓cd,↓b5,↓cf,↓cg,↓ch,↓ci,↓cj,↓ck,↓bw,↓bx,↓bz,↓c5,↓c6,↓c7,↓c8,↓c9,↓da,↓db,↓dc,↓dd,↓cl,↓cm,↓cn,↓bE,↓cA,↓bm,↓c1,↓ca,↓cF,↓cU,↓de,↓a0,↓aO,↓a1,↓aS,↓aD,↓a2,↓cP,↓bV,↓b6,↓co,↓cp,↓cq,↓cr,↓ct,↓cv,↓cw,↓cx,↓dD,↓dE,↓di,↓dO,↓cD,↓cE,↓cO,↓dn,bL,dK,b1,decide_eq_false_iff_not,ite_not,↓reduceIte,a7,aI,bc,bA,bg,bP,cy,Nat.reduceAdd,bD,↓bb,Nat.reduceLeDiff,aC,cV,cX,dG,dy,bW] using au
 ·have h:(l.length:Int)≤((n/32:Nat):Int):=by omega
  refine⟨.bG 1 [] .nil,[],decide ((0:Int)<(l.length:Int)),?_,jB.nil,(fun x (h:x∈[])=>absurd h mi:dR []),(fun h=>absurd rfl h:fb []),?_⟩
  ·rw[B,u,cF,bl,if_pos (by simpa using h),u,ca];exact hE (.aj s) _ _ _ _ rfl rfl
  ·rw[Cy l n A (by omega)];rfl
structure aa0 (q X Y:Nat):Prop where
 lt:q<B
 le:q*Y≤X
 max:∀qc,qc<B→qc*Y≤X→qc≤q
theorem O4(q:Nat)(h:0<q)(az:q<18446744073709551616):ru q 1=q-1:=by unfold ru;omega
theorem CA(s:ag)(J oS:af)(dq vs:List Nat)(j:Nat)(hu:l1 s J dq)(bO:l1 s oS vs)(K:dR dq)(lF:dR vs)(dp:2≤vs.length)(df:j+vs.length<dq.length)(gZ:dq.length<4294967296)
  (ao:B≤2*vs.getD (vs.length-1) 0)(U:dq.getD (j+vs.length) 0≤vs.getD (vs.length-1) 0)(S:ag)(F:Child s S):∀(m q r:Nat),r+m=B→0<m→
  q*vs.getD (vs.length-1) 0+r=dq.getD (j+vs.length) 0*B+dq.getD (j+vs.length-1) 0→
  (∀qc,qc<B→qc*(vs.getD (vs.length-1) 0*B+vs.getD (vs.length-2) 0)≤dq.getD (j+vs.length) 0*B*B+dq.getD (j+vs.length-1) 0*B+dq.getD (j+vs.length-2) 0→qc≤q)→
  ∃u:Nat,rM (aU aK G X) J (.int .i64 (j:Int)) oS (.int .i64 (vs.length:Int)) (.int .u64 (q:Int)) (.int .u64 (r:Int)) S=.ok (.int .u64 (u:Int)) s∧
   aa0 u (dq.getD (j+vs.length) 0*B*B+dq.getD (j+vs.length-1) 0*B+dq.getD (j+vs.length-2) 0) (vs.getD (vs.length-1) 0*B+vs.getD (vs.length-2) 0):=by
 have ap:=kP;have bN:=K.getD (j+vs.length);have aq:=K.getD (j+vs.length-1);have ar:=K.getD (j+vs.length-2);have li:=lF.getD (vs.length-1);have as:=lF.getD (vs.length-2);obtain⟨av,V,Y⟩:=(hu.oH F.oH).ptr (T:=aK) (G:=G) (X:=X) .i64 (j+vs.length-2) (by omega);obtain⟨aw,Z,aa⟩:=(bO.oH F.oH).ptr (T:=aK) (G:=G) (X:=X) .i64 (vs.length-2) (by omega);have mO:=fun(k:bf)=>(bO.oH F.oH).get (T:=aK) (G:=G) (X:=X) .i64 (vs.length-1) (by omega) k
 have i1:=fun(S:ag) (k:bf)=>jV (T:=aK) (G:=G) (X:=X) (s:=S) (k:=k) vs.length (by omega) (by have:=hu.len (T:=aK) (G:=G) (X:=X);omega)
 have i2:=fun(S:ag) (k:bf)=>Ap (T:=aK) (G:=G) (X:=X) (s:=S) (k:=k) vs.length (by omega) (by omega)
 have i3:=fun(S:ag) (k:bf)=>iy (T:=aK) (G:=G) (X:=X) (s:=S) (k:=k) j vs.length (by omega)
 have i4:=fun(S:ag) (k:bf)=>Ap (T:=aK) (G:=G) (X:=X) (s:=S) (k:=k) (j+vs.length) (by omega) (by omega)
 generalize dq.getD (j+vs.length) 0=A at *;generalize dq.getD (j+vs.length-1) 0=I at *;generalize dq.getD (j+vs.length-2) 0=y at *;generalize vs.getD (vs.length-1) 0=v1 at *;generalize vs.getD (vs.length-2) 0=v2 at *;have cu:=fun(S:ag) (k:bf)=>hX (T:=aK) (G:=G) (X:=X) (s:=S) (k:=k) y (by omega)
 have ab:=fun(S:ag) (k:bf)=>hX (T:=aK) (G:=G) (X:=X) (s:=S) (k:=k) v2 (by omega)
 have ac:=fun(S:ag) (k:bf)=>hX (T:=aK) (G:=G) (X:=X) (s:=S) (k:=k) v1 (by omega)
 intro m
 induction m using Nat.strongRecOn with
 |ind m al=>
  intro q r hm lL gh ad;have ax:r<B:=by omega
  have kM:A*B*B+I*B+y=q*v1*B+r*B+y:=by rw[←e9,←e9,gh]
  have ay:q≤B+1:=by
   have au:A*B≤v1*B:=fV _ U;have az:q*v1<(B+2)*v1:=by rw[e9,ez B v1];omega
   have:=Nat.lt_of_mul_lt_mul_right az;omega
  have down:0<q→(∀qc,qc<B→qc*(v1*B+v2)≤A*B*B+I*B+y→qc≤q-1)→∃u:Nat,vy (aU aK G X) J (.int .i64 (j:Int)) oS (.int .i64 (vs.length:Int)) (.int .u64 (q:Int)) (.int .u64 (r:Int)) S=.ok (.int .u64 (u:Int)) s∧aa0 u (A*B*B+I*B+y) (v1*B+v2):=fun eZ ae=>by
   have ah:(q-1)*v1+(r+v1)=A*B+I:=by
    have:(q-1)*v1+v1=q*v1:=by rw[←Nat.succ_mul];congr 1;omega
    omega
   have ai:(r+v1)%18446744073709551616=r+v1:=hz (by omega);have dU:=O4 q eZ (by omega);rw[B0];by_cases am:B≤r+v1
   ·have L:(4294967296:Int)≤((r+v1:Nat):Int):=by omega
    refine⟨q-1,?_,?_,?_,ae⟩
    ·rw[di,dU,i1,mO,ac,dD,ai,cF,bl,if_pos (by simpa using L),tl];exact ir F _ _
    ·
     by_cases H:q≤B
     ·omega
     ·exfalso;have M:q=B+1:=by omega
      rw[M,e9,Nat.one_mul] at gh;have au:A*B≤v1*B:=fV _ U;rw[ez v1 B] at au;omega
    ·rw[kM];have H:q-1≤B:=by omega
     have M:(q-1)*v2≤B*B:=Nat.mul_le_mul H (by omega);have aj:B*B≤(r+v1)*B:=fV _ am;have aA:(q-1)*(v1*B+v2)=(q-1)*v1*B+(q-1)*v2:=by rw[fD,gL]
     have aB:(q-1)*v1*B+(r+v1)*B=q*v1*B+r*B:=by rw[←e9,ah,←gh,e9]
     omega
   ·have L:¬(4294967296:Int)≤((r+v1:Nat):Int):=by omega
    have aC:0<v1:=by omega
    obtain⟨u,au,az⟩:=al (B-(r+v1)) (by omega) (q-1) (r+v1) (by omega) (by omega) ah ae;refine⟨u,?_,az⟩;rw[di,dU,i1,mO,ac,dD,ai,cF,bl,if_neg (by simpa using L)];exact au
  rw[B1];by_cases c:B≤q
  ·have nS:(4294967296:Int)≤(q:Int):=by omega
   obtain⟨u,au,az⟩:=down (by omega) (fun qc h _=>by omega);refine⟨u,?_,az⟩;simp -implicitDefEqProofs only[↓cF,↓bl,↓bY,↓vi,eq_true nS,dG,Bool.true_eq_false,if_false,↓reduceIte,au]
  ·have nS:¬(4294967296:Int)≤(q:Int):=by omega
   have an:q*v2<18446744073709551616:=by
    have:q*v2≤B*B:=Nat.mul_le_mul (by omega) (by omega);have b3:q*v2≤(B-1)*(B-1):=Nat.mul_le_mul (by omega) (by omega);have dJ:(B-1)*(B-1)<18446744073709551616:=by decide
    omega
   have em:q*v2%18446744073709551616=q*v2:=hz an;have es:r*4294967296%18446744073709551616=r*4294967296:=hz (by omega);have gz:=fun(S:ag) (k:bf)=>vl (T:=aK) (G:=G) (X:=X) (s:=S) (k:=k) r y (by omega) (by omega)
   have ak:q*(v1*B+v2)=q*v1*B+q*v2:=by rw[fD,gL]
   have N:=fun(S:ag) (k:bf)=>cD (T:=aK) (G:=G) (X:=X) (s:=S) (k:=k) r
   rw[es] at N;have O:=fun(S:ag) (k:bf)=>dO (T:=aK) (G:=G) (X:=X) (s:=S) (k:=k) q v2
   rw[em] at O;by_cases d:r*4294967296+y<q*v2
   ·have fL:((r*4294967296+y:Nat):Int)<((q*v2:Nat):Int):=by omega
    have eZ:0<q:=by
     rcases Nat.eq_zero_or_pos q with e|e
     ·subst e;omega
     ·exact e
    obtain⟨u,au,az⟩:=down eZ (fun qc h H=>by
     have M:=ad qc h H;rcases Nat.lt_or_ge qc q with aj|aj
     ·omega
     ·have:qc=q:=by omega
      subst this;rw[kM,ak,kP] at H;rw[kP] at *;omega)
    refine⟨u,?_,az⟩;simp -implicitDefEqProofs only[↓cF,↓ca,↓bl,↓bY,↓vi,eq_false nS,dy,↓reduceIte,bW,↓i2,↓Z,↓aa,↓ab,↓O,↓N,↓i3,↓i4,↓V,↓Y,↓cu,↓gz,b1,dG,eq_true fL,au]
   ·have fL:¬((r*4294967296+y:Nat):Int)<((q*v2:Nat):Int):=by omega
    refine⟨q,?_,by omega,?_,ad⟩
    ·simp -implicitDefEqProofs only[↓cF,↓ca,↓bl,↓bY,↓vi,eq_false nS,dy,↓reduceIte,bW,↓i2,↓Z,↓aa,↓ab,↓O,↓N,↓i3,↓i4,↓V,↓Y,↓cu,↓gz,b1,dG,eq_false fL,tl];exact ir F _ _
    ·rw[kM,ak,kP] at *;omega
theorem O5(s:ag)(A oS:af)(dq vs:List Nat)(j:Nat)(hu:l1 s A dq)(bO:l1 s oS vs)(r:dR dq)(lF:dR vs)(dp:2≤vs.length)(df:j+vs.length<dq.length)(gZ:dq.length<4294967296)
  (J:B≤2*vs.getD (vs.length-1) 0)(K:dq.getD (j+vs.length) 0≤vs.getD (vs.length-1) 0):
  ∃F:Nat,aL aK G X 139 [A,.int .i64 (j:Int),oS] s=.ok (.int .u64 (F:Int)) s∧
   aa0 F (dq.getD (j+vs.length) 0*B*B+dq.getD (j+vs.length-1) 0*B+dq.getD (j+vs.length-2) 0) (vs.getD (vs.length-1) 0*B+vs.getD (vs.length-2) 0):=by
 have L:=kP;have u:=Child.aj s;have bN:=r.getD (j+vs.length);have Z:=r.getD (j+vs.length-1);have li:=lF.getD (vs.length-1);have aa:=lF.getD (vs.length-2);have ab:=r.getD (j+vs.length-2);have q:vs.getD (vs.length-1) 0≠0:=by omega
 have H:dq.getD (j+vs.length) 0*B+dq.getD (j+vs.length-1) 0<18446744073709551616:=by rw[L] at *;omega
 have M:=CA G X s A oS dq vs j hu bO r lF dp df gZ J K s.aj u
  (B-(dq.getD (j+vs.length) 0*B+dq.getD (j+vs.length-1) 0)%vs.getD (vs.length-1) 0) ((dq.getD (j+vs.length) 0*B+dq.getD (j+vs.length-1) 0)/vs.getD (vs.length-1) 0) ((dq.getD (j+vs.length) 0*B+dq.getD (j+vs.length-1) 0)%vs.getD (vs.length-1) 0)
  (by have:=Nat.mod_lt (dq.getD (j+vs.length) 0*B+dq.getD (j+vs.length-1) 0) (Nat.pos_of_ne_zero q);omega) (by have:=Nat.mod_lt (dq.getD (j+vs.length) 0*B+dq.getD (j+vs.length-1) 0) (Nat.pos_of_ne_zero q);omega)
  (by rw[ez];exact Nat.div_add_mod _ _) (fun qc ac h=>by
   rw[Nat.le_div_iff_mul_le (Nat.pos_of_ne_zero q)];have au:qc*vs.getD (vs.length-1) 0*B≤qc*(vs.getD (vs.length-1) 0*B+vs.getD (vs.length-2) 0):=by rw[fD,gL];omega
   have az:qc*vs.getD (vs.length-1) 0*B<(dq.getD (j+vs.length) 0*B+dq.getD (j+vs.length-1) 0+1)*B:=by rw[e9,e9,Nat.one_mul];omega
   have:=Nat.lt_of_mul_lt_mul_right az;omega)
 refine Exists.imp (fun F az=>⟨?_,az.2⟩) M;have au:=az.1;have N:=fun(k:bf)=>(hu.oH u.oH).get (T:=aK) (G:=G) (X:=X) .i64 (j+vs.length) (by omega) k
 have O:=fun(k:bf)=>(hu.oH u.oH).get (T:=aK) (G:=G) (X:=X) .i64 (j+vs.length-1) (by omega) k
 have mO:=fun(k:bf)=>(bO.oH u.oH).get (T:=aK) (G:=G) (X:=X) .i64 (vs.length-1) (by omega) k
 have U:=fun(S:ag) (k:bf)=>bO.len (T:=aK) (G:=G) (X:=X) k S
 have i1:=fun(S:ag) (k:bf)=>jV (T:=aK) (G:=G) (X:=X) (s:=S) (k:=k) vs.length (by omega) (by omega)
 have i3:=fun(S:ag) (k:bf)=>iy (T:=aK) (G:=G) (X:=X) (s:=S) (k:=k) j vs.length (by omega)
 have i4:=fun(S:ag) (k:bf)=>jV (T:=aK) (G:=G) (X:=X) (s:=S) (k:=k) (j+vs.length) (by omega) (by omega)
 rw[L] at H au bN Z li;clear J K M az ab aa;generalize dq.getD (j+vs.length) 0=e at *;generalize dq.getD (j+vs.length-1) 0=y at *;generalize vs.getD (vs.length-1) 0=v1 at *;have V:=fun(S:ag) (k:bf)=>hX (T:=aK) (G:=G) (X:=X) (s:=S) (k:=k) e (by omega)
 have Y:=fun(S:ag) (k:bf)=>hX (T:=aK) (G:=G) (X:=X) (s:=S) (k:=k) y (by omega)
 have I:=fun(S:ag) (k:bf)=>hX (T:=aK) (G:=G) (X:=X) (s:=S) (k:=k) v1 (by omega)
 have es:e*4294967296%18446744073709551616=e*4294967296:=by clear au H N O mO U i1 i3 i4 V Y I;omega
 have gz:=fun(S:ag) (k:bf)=>vl (T:=aK) (G:=G) (X:=X) (s:=S) (k:=k) e y (by omega) (by omega)
 have d1:=fun(S:ag) (k:bf)=>FM (T:=aK) (G:=G) (X:=X) (s:=S) (k:=k) (e*4294967296+y) v1 q H
 have d2:=fun(S:ag) (k:bf)=>yP (T:=aK) (G:=G) (X:=X) (s:=S) (k:=k) (e*4294967296+y) v1 q
 rw[EZ,OM,U,i3,N,V,cD,es,i3,i4,O,Y,gz,i1,mO,I,d1,i1,mO,I,d2];exact au
theorem r6(s:ag)(j:Nat)(a b:List Nat):(s.put j a).put j b=s.put j b:=by simp [ag.put]
theorem mI(s:ag)(j:Nat)(a:List Nat):(s.put j a).aa=s.aa:=rfl
theorem zy{s:ag}{np:Nat}{dq:List Nat}(h:gU s np dq)(i N x:Nat)(bX:i<dq.length)(pZ:i<N)(k:bf):(aU aK G X).bT s.aj (fun v S=>(aU aK G X).b8 S k 1 v (U x)) 1 (.cZ (.g s.aa np) 0 N N 1) (.int .i64 (i:Int))=k .dead (s.put np (dq.set i x)).aj:=by
 rw[jh _ _ _ _ _ _ _ pZ,k4];have e:(U x).fh=true:=rfl;have cS:s.aj.aa=s.aa+1:=(Child.aj s).aa;have q:s.aj.get (.g s.aa np)=some (.cells (dq.map U)):=(Child.aj s).oH.2 _ _ _ (aC _) (by simpa [ag.get,gU] using h);simp -implicitDefEqProofs only[fl,e,af.cells,bP,cy,bg,gM,bD,b2];unfold iu;rw[q];simp -implicitDefEqProofs only[Nat.mul_one,bP,cy,bg,show Nat.ble (i+1) (dq.map U).length=true from eQ (by simp;omega),show s.aj.hB (.g s.aa np) [U x]=true from by simp [ag.hB,af.aY,af.bd],List.all_cons,show(U x).eO=true from rfl,List.all_nil,bD,b2];have r:s.ro.length≤s.aa:=by unfold ag.aa;omega
 have u:s.aj.set (.g s.aa np) (.cells ((dq.map U).set i (U x)))=some (s.put np (dq.set i x)).aj:=by simp -implicitDefEqProofs only[ag.set,cS];rw[if_neg (by omega),if_pos ⟨by omega,r⟩];simp [ag.aj,ag.put,List.map_set]
 show(match s.aj.set (.g s.aa np) (.cells ((dq.map U).set i (U x))) with |some s=>k .dead s|none=>.fail)=_;rw[u]
section
variable(s:ag)(np j N q:Nat)(gI vs:List Nat)(oS:af)(eZ:gU s np gI)(pZ:gI.length=N)(bO:jB oS vs)(lF:dR vs)(df:j+vs.length<N)(gZ:N<4294967296)
include eZ pZ bO lF df gZ
theorem ue(dq:List Nat)(bK:dq.length=N)(i:Nat)(bX:i<N)(k:bf):(aU aK G X).bT (s.put np dq).aj (fun v S=>(aU aK G X).ar S k none v) 1 (.cZ (.g s.aa np) 0 N N 1) (.int .i64 (i:Int))=k (U (dq.getD i 0)) (s.put np dq).aj:=by have au:=(eZ.put dq).rd N N (by omega) (aC _);rw[iP (by omega)] at au;exact(au.oH (Child.aj _).oH).get .i64 i (by omega) k
theorem CB(U:Nat)(e:List Nat)(ak:dR e)(gh:0<q)(al:q<B)(M:U%val vs<val vs)(am:e5 e j (vs.length+1)+val vs=B^(vs.length+1)+U%val vs):∀(m i:Nat) (dq:List Nat) (carry:Nat),i+m=vs.length→dq.length=N→dR dq→e.length=N→carry≤1→(∀k,(k<j∨j+i≤k)→dq.getD k 0=e.getD k 0)→e5 dq j i+carry*B^i=e5 e j i+e5 vs 0 i→
  ∃r,rL (aU aK G X) (.cZ (.g s.aa np) 0 N N 1) (.int .i64 (j:Int)) oS (.int .u64 (q:Int)) (.int .u64 (carry:Int)) (.int .i64 (vs.length:Int)) (.int .i64 (i:Int)) (s.put np dq).aj=.ok (.int .u32 ((q-1:Nat):Int)) (s.put np r)∧r.length=N∧dR r∧(∀k,(k<j∨j+vs.length<k)→r.getD k 0=e.getD k 0)∧e5 r j (vs.length+1)=U%val vs:=by
 have H:=kP;have O:=fun(S:ag) (k:bf)=>(bO.rd s).len (T:=aK) (G:=G) (X:=X) k S
 intro m
 induction m with
 |zero=>
  intro i dq carry bX bK u K a3 y hw;have V:i=vs.length:=by omega
  subst V;have h:¬((vs.length:Int)<(vs.length:Int)):=by omega
  have Y:dq.getD (j+vs.length) 0=e.getD (j+vs.length) 0:=y _ (.inr (aC _));have F:=fun(S:ag) (k:bf)=>iy (T:=aK) (G:=G) (X:=X) (s:=S) (k:=k) j vs.length (by omega)
  have I:=fun(k:bf)=>ue G X s np j N gI vs oS eZ pZ bO lF df gZ dq bK (j+vs.length) (by omega) k
  have gT:=fun x (k:bf)=>zy G X (eZ.put dq) (j+vs.length) N x (by omega) (by omega) k
  simp -implicitDefEqProofs only[mI,r6] at gT;have dU:=O4 q gh (by omega);have J:(q-1)%4294967296=q-1:=hz (by omega);have Z:carry%4294967296=carry:=hz (by omega);rw[←r5,f5 e j vs.length (by omega)] at *;have key:=JS vs.length (e5 dq j vs.length) (dq.getD (j+vs.length) 0+carry) (U%val vs) (by rw[fD,Y,ez _ carry];omega) (r4 dq j vs.length u) (Nat.lt_trans M (by have:=hY vs lF;exact this))
  refine⟨dq.set (j+vs.length) ((dq.getD (j+vs.length) 0+carry)%4294967296),?_,by simpa using bK,u.set _ _ (Nat.mod_lt _ (by decide)),fun k dl=>?_,?_⟩
  ·rw[tj,bm,bl,if_neg (by simp),BX,O,F,I,dn,Z,IX];simp -implicitDefEqProofs only[aI];rw[gT,di,dU,dn,J,aS]
  ·exact(hK.getD_set_ne (by omega)).trans (y k (by omega))
  ·have ab:=f5 (dq.set (j+vs.length) ((dq.getD (j+vs.length) 0+carry)%4294967296)) j vs.length (by simp;omega);have ac:(dq.set (j+vs.length) ((dq.getD (j+vs.length) 0+carry)%4294967296)).getD (j+vs.length) 0=(dq.getD (j+vs.length) 0+carry)%4294967296:=hK.fP (by omega);rw[ab,ac,r2 _ _ _ _ _ (aC _),key.1,key.2,←H,Nat.mod_self,Nat.mul_zero,Nat.add_zero]
 |succ m ad=>
  intro i dq carry bX bK u K a3 y hw;have h:(i:Int)<(vs.length:Int):=by omega
  have A:=Fc dq e vs j i carry (by omega) (by omega) lF u a3 (y _ (.inr (aC _))) (by omega) hw;simp -implicitDefEqProofs only[] at A;have bN:=u.getD (j+i);have L:=lF.getD i;rw[H] at bN L A;have F:=fun(S:ag) (k:bf)=>iy (T:=aK) (G:=G) (X:=X) (s:=S) (k:=k) j i (by omega)
  have ae:=fun S k=>nn G X S k i (by omega)
  have I:=fun(k:bf)=>ue G X s np j N gI vs oS eZ pZ bO lF df gZ dq bK (j+i) (by omega) k
  have af:=fun(k:bf)=>(bO.rd (s.put np dq).aj).get (T:=aK) (G:=G) (X:=X) .i64 i (by omega) k
  have ah:=fun(S:ag) (k:bf)=>hX (T:=aK) (G:=G) (X:=X) (s:=S) (k:=k) (dq.getD (j+i) 0) bN
  have ai:=fun(S:ag) (k:bf)=>hX (T:=aK) (G:=G) (X:=X) (s:=S) (k:=k) (vs.getD i 0) L
  have gT:=fun x (k:bf)=>zy G X (eZ.put dq) (j+i) N x (by omega) (by omega) k
  simp -implicitDefEqProofs only[mI,r6] at gT;have dU:(dq.getD (j+i) 0+vs.getD i 0)%18446744073709551616=dq.getD (j+i) 0+vs.getD i 0:=hz (by omega);have J:(dq.getD (j+i) 0+vs.getD i 0+carry)%18446744073709551616=dq.getD (j+i) 0+vs.getD i 0+carry:=hz (by omega)
  have:=ad (i+1) (dq.set (j+i) ((dq.getD (j+i) 0+vs.getD i 0+carry)%4294967296)) ((dq.getD (j+i) 0+vs.getD i 0+carry)/4294967296) (by omega) (by simpa using bK) A.2.2.1 K A.2.1 (fun k dl=>(hK.getD_set_ne (by omega)).trans (y k (by omega))) (by rw[H];exact A.2.2.2);refine Exists.imp (fun r az=>⟨?_,az.2⟩) this;rw[tj,bm,bl,if_pos (by simpa using h),BW,F,I,ah,af,ai,dD,dU,dD,J,F,dn];simp -implicitDefEqProofs only[aI];rw[gT,cE,BV,ae];exact az.1
theorem CC(aG:0<vs.length)(AC:dR gI)(ab:q<B)(ac:0<val vs)(aH:e5 gI j (vs.length+1)/val vs≤q)(aJ:q≤e5 gI j (vs.length+1)/val vs+1):∀(m i:Nat) (dq:List Nat) (carry e:Nat),i+m=vs.length→dq.length=N→dR dq→carry<B→e≤1→(∀k,(k<j∨j+i≤k)→dq.getD k 0=gI.getD k 0)→e5 dq j i+q*e5 vs 0 i=e5 gI j i+(carry+e)*B^i→
  ∃r,pf (aU aK G X) (.cZ (.g s.aa np) 0 N N 1) (.int .i64 (j:Int)) oS (.int .u64 (q:Int)) (.int .u64 (carry:Int)) (.int .u64 (e:Int)) (.int .i64 (vs.length:Int)) (.int .i64 (i:Int)) (s.put np dq).aj=.ok (.int .u32 ((e5 gI j (vs.length+1)/val vs:Nat):Int)) (s.put np r)∧r.length=N∧dR r∧(∀k,(k<j∨j+vs.length<k)→r.getD k 0=gI.getD k 0)∧e5 r j (vs.length+1)=e5 gI j (vs.length+1)%val vs:=by
 have H:=kP;have O:=fun(S:ag) (k:bf)=>(bO.rd s).len (T:=aK) (G:=G) (X:=X) k S
 intro m
 induction m with
 |zero=>
  intro i dq carry e bX bK I a3 ad J hw;have ai:i=vs.length:=by omega
  subst ai;have h:¬((vs.length:Int)<(vs.length:Int)):=by omega
  have ak:dq.getD (j+vs.length) 0=gI.getD (j+vs.length) 0:=J _ (.inr (aC _));have bN:=I.getD (j+vs.length);rw[H] at bN a3;have K:=fun(S:ag) (k:bf)=>iy (T:=aK) (G:=G) (X:=X) (s:=S) (k:=k) j vs.length (by omega)
  have U:=fun(k:bf)=>ue G X s np j N gI vs oS eZ pZ bO lF df gZ dq bK (j+vs.length) (by omega) k
  have V:=fun(S:ag) (k:bf)=>hX (T:=aK) (G:=G) (X:=X) (s:=S) (k:=k) (dq.getD (j+vs.length) 0) bN
  have gT:=fun x (k:bf)=>zy G X (eZ.put dq) (j+vs.length) N x (by omega) (by omega) k
  simp -implicitDefEqProofs only[mI,r6] at gT;have cS:=xY (dq.getD (j+vs.length) 0) carry e bN a3 (by omega) (by omega);have Y:ru (ru (dq.getD (j+vs.length) 0) carry) e=k8 (k8 (dq.getD (j+vs.length) 0) carry) e:=rfl;rw[←r5] at hw;have al:=f5 gI j vs.length (by omega);have gs:∀x,e5 (dq.set (j+vs.length) x) j (vs.length+1)=e5 dq j vs.length+B^vs.length*x:=fun x=>by have an:=f5 (dq.set (j+vs.length) x) j vs.length (by simp;omega);have ao:(dq.set (j+vs.length) x).getD (j+vs.length) 0=x:=hK.fP (by omega);rw[an,ao,r2 _ _ _ _ _ (aC _)]
  have M:dR (dq.set (j+vs.length) (k8 (k8 (dq.getD (j+vs.length) 0) carry) e%4294967296)):=I.set _ _ (by rw[H];exact Nat.mod_lt _ (by decide));have ae:∀x k,(k<j∨j+vs.length<k)→(dq.set (j+vs.length) x).getD k 0=gI.getD k 0:=fun x k dl=>(hK.getD_set_ne (by omega)).trans (J k (by omega))
  have pre:pf (aU aK G X) (.cZ (.g s.aa np) 0 N N 1) (.int .i64 (j:Int)) oS (.int .u64 (q:Int)) (.int .u64 (carry:Int)) (.int .u64 (e:Int)) (.int .i64 (vs.length:Int)) (.int .i64 (vs.length:Int)) (s.put np dq).aj
    = (aU aK G X).aR (.bool (decide (((k8 (k8 (dq.getD (j+vs.length) 0) carry) e/9223372036854775808:Nat):Int)=0))) ((aU aK G X).b9 (s.put np (dq.set (j+vs.length) (k8 (k8 (dq.getD (j+vs.length) 0) carry) e%4294967296))).aj (fun ap s=>(aU aK G X).a5 false [some ap] s) .u32 (.int .u64 (q:Int)))
     (vw (aU aK G X) (.cZ (.g s.aa np) 0 N N 1) (.int .i64 (j:Int)) oS (.int .u64 (q:Int)) (s.put np (dq.set (j+vs.length) (k8 (k8 (dq.getD (j+vs.length) 0) carry) e%4294967296))).aj):=by
   rw[tk,bm,bl,if_neg (by simp),BZ,O,K,U,V,dE,dE,Y,O,K,dn];simp -implicitDefEqProofs only[aI];rw[gT,cO,bE]
  rw[pre,bl];generalize k8 (k8 (dq.getD (j+vs.length) 0) carry) e=t at *;have aL:=cS.2;generalize lU:t/9223372036854775808=A at *;generalize aM:t%4294967296=y at *;have L:e5 dq j vs.length+B^vs.length*y+q*val vs=e5 gI j (vs.length+1)+A*B^(vs.length+1):=by
   rw[al,←ak];have k1:B^vs.length*(y+carry+e)=B^vs.length*(dq.getD (j+vs.length) 0+B*A):=by rw[H,cS.1]
   have dU:B^vs.length*(y+carry+e)=B^vs.length*y+(carry+e)*B^vs.length:=by rw[Nat.add_assoc,fD,ez _ (carry+e)]
   have aq:B^vs.length*(dq.getD (j+vs.length) 0+B*A)=B^vs.length*dq.getD (j+vs.length) 0+A*B^(vs.length+1):=by rw[fD,Nat.pow_succ,←gL,ez _ A]
   rw[dU,aq] at k1;omega
  rw[←gs] at L;have aN:=Nat.div_add_mod (e5 gI j (vs.length+1)) (val vs);have ar:=Nat.mod_lt (e5 gI j (vs.length+1)) ac;have aO:=r4 (dq.set (j+vs.length) y) j (vs.length+1) M;by_cases Z:A=0
  ·have as:q*val vs≤e5 gI j (vs.length+1):=by rw[Z] at L;omega
   have F:q=e5 gI j (vs.length+1)/val vs:=by have:=(Nat.le_div_iff_mul_le ac).2 as;omega
   have au:q%4294967296=q:=hz (by omega);refine⟨dq.set (j+vs.length) y,?_,by simpa using bK,M,ae y,?_⟩
   ·rw[if_pos (by rw[Z];decide),dn,au,aS,←F]
   ·rw[Z,F,ez] at L;omega
  ·have af:A=1:=by omega
   rw[af,Nat.one_mul] at L;have F:q=e5 gI j (vs.length+1)/val vs+1:=by
    have:¬q≤e5 gI j (vs.length+1)/val vs:=fun hle=>by
     have aP:q*val vs≤e5 gI j (vs.length+1):=by have:=fV (val vs) hle;rw[ez (e5 gI j (vs.length+1)/val vs)] at this;omega
     omega
    omega
   have av:=CB G X s np j N q gI vs oS eZ pZ bO lF df gZ (e5 gI j (vs.length+1)) (dq.set (j+vs.length) y) M (by rw[F];exact Nat.succ_pos _) ab ar (by rw[F,e9,Nat.one_mul,ez (e5 gI j (vs.length+1)/val vs)] at L;omega) vs.length 0 (dq.set (j+vs.length) y) 0 (by omega) (by simpa using bK) M (by simpa using bK) (by omega) (fun k _=>rfl) (by simp [xZ])
   obtain⟨r,ho,gF,aw,ni,im⟩:=av;refine⟨r,?_,gF,aw,fun k dl=>(ni k dl).trans (ae y k dl),im⟩;rw[if_neg (by rw[af];decide),BY,O];have ax:q-1=e5 gI j (vs.length+1)/val vs:=by rw[F];rfl
   rw[ax] at ho;exact ho
 |succ m ay=>
  intro i dq carry e bX bK I a3 ad J hw;have h:(i:Int)<(vs.length:Int):=by omega
  have u:=Fb dq gI vs j i q carry e ab (by omega) (by omega) lF I a3 ad (J _ (.inr (aC _))) (by omega) hw;simp -implicitDefEqProofs only[] at u;have bN:=I.getD (j+i);have ah:=lF.getD i;have K:=fun(S:ag) (k:bf)=>iy (T:=aK) (G:=G) (X:=X) (s:=S) (k:=k) j i (by omega)
  have aA:=fun S k=>nn G X S k i (by omega)
  have U:=fun(k:bf)=>ue G X s np j N gI vs oS eZ pZ bO lF df gZ dq bK (j+i) (by omega) k
  have aB:=fun(k:bf)=>(bO.rd (s.put np dq).aj).get (T:=aK) (G:=G) (X:=X) .i64 i (by omega) k
  rw[H] at bN ah;have V:=fun(S:ag) (k:bf)=>hX (T:=aK) (G:=G) (X:=X) (s:=S) (k:=k) (dq.getD (j+i) 0) bN
  have aD:=fun(S:ag) (k:bf)=>hX (T:=aK) (G:=G) (X:=X) (s:=S) (k:=k) (vs.getD i 0) ah
  have gT:=fun x (k:bf)=>zy G X (eZ.put dq) (j+i) N x (by omega) (by omega) k
  simp -implicitDefEqProofs only[mI,r6] at gT;have aE:q*vs.getD i 0%18446744073709551616=q*vs.getD i 0:=hz (by have:=u.1;omega);have aF:(q*vs.getD i 0+carry)%18446744073709551616=q*vs.getD i 0+carry:=hz u.1;have am:=fun(S:ag) (k:bf)=>IY (T:=aK) (G:=G) (X:=X) (s:=S) (k:=k) (q*vs.getD i 0+carry) u.1
  have Y:∀a b c,ru (ru a b) c=k8 (k8 a b) c:=fun _ _ _=>rfl
  have:=ay (i+1) _ _ _ (by omega) (by simpa using bK) u.2.2.2.2.1 u.2.1 u.2.2.1 (fun k dl=>(hK.getD_set_ne (by omega)).trans (J k (by omega))) u.2.2.2.2.2;refine Exists.imp (fun r az=>⟨?_,az.2⟩) this;have b3:=az.1;rw[H] at b3;rw[tk,bm,bl,if_pos (by simpa using h),BU,aB,aD,dO,aE,dD,aF,cE,K,U,V,am,dE,dE,Y,K,dn];simp -implicitDefEqProofs only[aI];rw[gT,cO,BT,aA];exact b3
end
end Go.gw
end
section
namespace Go.hK
theorem getD_eq{a b:List Nat}(bK:a.length=b.length)(k:Nat)(h:a.getD k 0=b.getD k 0):a[k]? =b[k]?:=by
 by_cases dl:k<a.length
 ·have e:k<b.length:=by omega
  simp only[List.getD,eP dl,eP e,Option.getD_some] at h;rw[eP dl,eP e,h]
 ·rw[List.getElem?_eq_none (by omega),List.getElem?_eq_none (by omega)]
theorem CD{a b:List Nat}(bK:a.length=b.length)(j:Nat)(h:∀k,k<j→a.getD k 0=b.getD k 0):a.take j=b.take j:=by
 apply List.ext_getElem?;intro k;rw[List.getElem?_take,List.getElem?_take];split
 ·exact getD_eq bK k (h k (by assumption))
 ·rfl
theorem CE{a b:List Nat}(bK:a.length=b.length)(j:Nat)(h:∀k,j≤k→a.getD k 0=b.getD k 0):a.drop j=b.drop j:=by apply List.ext_getElem?;intro k;rw[List.getElem?_drop,List.getElem?_drop];exact getD_eq bK _ (h _ (by omega))
theorem r7{dq vs:List Nat}{j:Nat}(df:j+vs.length<dq.length)(lF:dR vs)(q:val (dq.drop (j+1))<val vs):
  val (dq.drop (j+vs.length+1))=0∧e5 dq (j+1) vs.length<val vs∧e5 dq j (vs.length+1)=dq.getD j 0+B*e5 dq (j+1) vs.length:=by
 have au:=r3 dq (j+1) vs.length (by omega);have az:=hY vs lF;have eZ:val (dq.drop (j+1+vs.length))=0:=by
  rcases Nat.eq_zero_or_pos (val (dq.drop (j+1+vs.length))) with h|h
  ·exact h
  ·have:B^vs.length*1≤B^vs.length*val (dq.drop (j+1+vs.length)):=Nat.mul_le_mul_left _ h;omega
 have e:j+vs.length+1=j+1+vs.length:=by omega
 refine⟨by rw[e];exact eZ,by omega,?_⟩;have b3:=r3 dq j (vs.length+1) (by omega);have dJ:=mg dq j (by omega);rw[show j+(vs.length+1)=j+1+vs.length by omega,eZ] at b3;rw[eZ,Nat.mul_zero,Nat.add_zero] at au;rw[Nat.mul_zero,Nat.add_zero,dJ,au] at b3;exact b3.symm
theorem VG{dq vs:List Nat}{j:Nat}(df:j+vs.length<dq.length)(lF:dR vs)(dp:0<vs.length)(q:val (dq.drop (j+1))<val vs):dq.getD (j+vs.length) 0≤vs.getD (vs.length-1) 0:=by
 obtain⟨_,az,_⟩:=r7 df lF q;have b3:=f5 dq (j+1) (vs.length-1) (by omega);have dJ:=f5 vs 0 (vs.length-1) (by omega);have y:=r4 vs 0 (vs.length-1) lF;have e:vs.length-1+1=vs.length:=by omega
 rw[e] at b3 dJ;rw[←r5] at dJ;rw[show j+1+(vs.length-1)=j+vs.length by omega] at b3;rw[bg] at dJ;by_cases h:dq.getD (j+vs.length) 0≤vs.getD (vs.length-1) 0
 ·exact h
 ·have r:vs.getD (vs.length-1) 0+1≤dq.getD (j+vs.length) 0:=by omega
  have u:=Nat.mul_le_mul_left (B^(vs.length-1)) r;rw[fD,Nat.mul_one] at u;omega
theorem O6{dq vs:List Nat}{j q:Nat}(df:j+vs.length<dq.length)(e:dR dq)(lF:dR vs)(dp:2≤vs.length)(h:B≤2*vs.getD (vs.length-1) 0)(r:val (dq.drop (j+1))<val vs)(gh:q<B)
  (au:q*(vs.getD (vs.length-1) 0*B+vs.getD (vs.length-2) 0)≤dq.getD (j+vs.length) 0*B*B+dq.getD (j+vs.length-1) 0*B+dq.getD (j+vs.length-2) 0)
  (az:∀qc,qc<B→qc*(vs.getD (vs.length-1) 0*B+vs.getD (vs.length-2) 0)≤dq.getD (j+vs.length) 0*B*B+dq.getD (j+vs.length-1) 0*B+dq.getD (j+vs.length-2) 0→qc≤q):
  e5 dq j (vs.length+1)/val vs≤q∧q≤e5 dq j (vs.length+1)/val vs+1:=by
 obtain⟨m,hm⟩:∃m,vs.length=m+2:=⟨vs.length-2,by omega⟩;obtain⟨_,t2,t3⟩:=r7 df lF r;refine Cv (e5 dq j (vs.length+1)) (val vs) q m (e5 dq j m) (e5 vs 0 m) _ _ _ _ _ ?_ ?_ (r4 _ _ _ e) (r4 _ _ _ lF) h gh au az ?_
 ·rw[hm,f5 dq j (m+2) (by omega),f5 dq j (m+1) (by omega),f5 dq j m (by omega),show B^(m+2)=B^m*B*B by rw[Nat.pow_succ,Nat.pow_succ],show B^(m+1)=B^m*B from Nat.pow_succ ..,show j+(m+2)-1=j+(m+1) by omega,show j+(m+2)-2=j+m by omega];generalize dq.getD (j+(m+2)) 0=a;generalize dq.getD (j+(m+1)) 0=b;generalize dq.getD (j+m) 0=c;generalize B^m=P;rw[e9,e9];have dU:P*B*B*a=a*B*B*P:=by ac_rfl
  have u:P*B*b=b*B*P:=by ac_rfl
  have y:P*c=c*P:=ez _ _;omega
 ·have:=r5 vs;rw[hm] at this ⊢;rw[this,f5 vs 0 (m+1) (by omega),f5 vs 0 m (by omega),Nat.pow_succ,bg,bg,show m+2-1=m+1 by omega,show m+2-2=m by omega,e9];generalize vs.getD (m+1) 0=b;generalize vs.getD m 0=c;generalize B^m=P;have u:P*B*b=b*B*P:=by ac_rfl
  have y:P*c=c*P:=ez _ _;omega
 ·rw[t3];have b3:=e.getD j;have dJ:=Nat.mul_le_mul_left B t2;rw[Nat.succ_eq_add_one,fD,Nat.mul_one] at dJ;omega
theorem Fg(T P C D W q V r:Nat)(hm:V*q+r=W):T+P*r+P*((q+C*D)*V)=T+P*W+P*C*(D*V):=by subst hm;rw[e9,fD,fD,ez q V,gL P C,gL C D];omega
theorem VH{dq vs:List Nat}{j:Nat}(df:j+vs.length<dq.length)(e:dR dq)(lF:dR vs)(h:val (dq.drop (j+1))<val vs):e5 dq j (vs.length+1)/val vs<B:=by
 obtain⟨t1,t2,t3⟩:=r7 df lF h;have q:0<val vs:=by omega
 rw[Nat.div_lt_iff_lt_mul q,t3];have b3:=e.getD j;have dJ:=Nat.mul_le_mul_left B t2;rw[Nat.succ_eq_add_one,fD,Nat.mul_one] at dJ;omega
theorem JT{dq e os vs:List Nat}{U0 j:Nat}(bK:e.length=dq.length)(df:j+vs.length<dq.length)(u:dR dq)(lF:dR vs)(h:j<os.length)
  (hinv:val dq+B^(j+1)*(val (os.drop (j+1))*val vs)=U0)(q:val (dq.drop (j+1))<val vs)
  (r:∀k,(k<j∨j+vs.length<k)→e.getD k 0=dq.getD k 0)(hw:e5 e j (vs.length+1)=e5 dq j (vs.length+1)%val vs):
  e5 dq j (vs.length+1)/val vs<B∧val e+B^j*(val ((os.set j (e5 dq j (vs.length+1)/val vs)).drop j)*val vs)=U0∧val (e.drop j)<val vs:=by
 obtain⟨t1,t2,t3⟩:=r7 df lF q;have y:0<val vs:=by omega
 have gh:=VH df u lF q;have A:e.drop (j+vs.length+1)=dq.drop (j+vs.length+1):=CE bK _ (fun k dl=>r k (by omega));have F:e.take j=dq.take j:=CD bK _ (fun k dl=>r k (by omega));have d1:=r3 dq j (vs.length+1) (by omega);have d2:=r3 e j (vs.length+1) (by omega);rw[show j+(vs.length+1)=j+vs.length+1 by omega] at d1 d2;rw[A,t1,hw] at d2;rw[t1] at d1;have s1:=k7 dq j (by omega);have s2:=k7 e j (by omega);rw[F] at s2;have hm:=Nat.div_add_mod (e5 dq j (vs.length+1)) (val vs);have gz:=mg (os.set j (e5 dq j (vs.length+1)/val vs)) j (by simpa using h);rw[fP h,r0 (i:=j+1) (j:=j) (by omega)] at gz;generalize e5 dq j (vs.length+1)=W at *;refine⟨gh,?_,by rw[d2,Nat.mul_zero,Nat.add_zero];exact Nat.mod_lt W y⟩;rw[Nat.mul_zero,Nat.add_zero] at d1 d2;rw[gz,←hinv,s2,s1,d1,d2,Nat.pow_succ];exact Fg _ _ _ _ _ _ _ _ hm
theorem JU{b vs:List Nat}{c:Nat}(y:dR b)(O:fb b)(A:b≠[])(lF:dR vs)(F:fb vs)(bO:val vs=val b*2^c)(au:2147483648≤b.getD (b.length-1) 0*2^c)(az:b.getD (b.length-1) 0*2^c<4294967296):
  vs.length=b.length∧B≤2*vs.getD (vs.length-1) 0:=by
 have bK:0<b.length:=List.length_pos_iff.2 A;have H:=Nat.two_pow_pos c;have e:=val_succ b (b.length-1) (by omega);rw[show b.length-1+1=b.length by omega,List.take_length] at e;have I:=hY (b.take (b.length-1)) (y.take _);rw[show(b.take (b.length-1)).length=b.length-1 by simp] at I;have J:B=4294967296:=rfl;have U:2^c≤2147483648*2:=by
  by_cases h:b.getD (b.length-1) 0=0
  ·rw[h] at au;omega
  ·have:=fV (2^c) (show 1≤b.getD (b.length-1) 0 by omega);omega
 have K:val vs<B^b.length:=by
  rw[bO,e,show B^b.length=B^(b.length-1)*B by rw[←Nat.pow_succ];congr 1;omega];have L:(b.getD (b.length-1) 0+1)*2^c≤B:=by
   have V:c≤32:=by
    by_cases a3:c≤32
    ·exact a3
    ·have:2^33≤2^c:=Nat.pow_le_pow_right (by omega) (by omega);omega
   have q:B=2^(32-c)*2^c:=by rw[←Nat.pow_add,tu];congr 1;omega
   have:b.getD (b.length-1) 0<2^(32-c):=by rw[←J,q] at az;exact Nat.lt_of_mul_lt_mul_right az
   rw[q];exact fV _ this
  have M:(val (b.take (b.length-1))+B^(b.length-1)*b.getD (b.length-1) 0)*2^c<B^(b.length-1)*((b.getD (b.length-1) 0+1)*2^c):=by rw[←gL];apply Nat.mul_lt_mul_of_pos_right _ H;rw[fD,Nat.mul_one];omega
  exact f8 M (Nat.mul_le_mul_left _ L)
 have N:B^(b.length-1)*2147483648≤val vs:=by
  rw[bO,e,e9,gL]
  have:=Nat.mul_le_mul_left (B^(b.length-1)) au;omega
 have Y:=Nat.pow_pos (n:=b.length-1) g8;have fe:vs≠[]:=fun h=>by subst h;simp [val] at N;omega
 have Z:vs.length≤b.length:=qv F K;have aa:b.length≤vs.length:=by
  have ab:=hY vs lF;by_cases h:b.length≤vs.length
  ·exact h
  ·have:B^vs.length≤B^(b.length-1):=oo (by omega);omega
 have hlen:vs.length=b.length:=by omega
 refine⟨hlen,?_⟩;have r:=val_succ vs (vs.length-1) (by omega);rw[show vs.length-1+1=vs.length by omega,List.take_length] at r;have u:=hY (vs.take (vs.length-1)) (lF.take _);rw[show(vs.take (vs.length-1)).length=vs.length-1 by simp] at u;rw[hlen] at r u ⊢;by_cases h:B≤2*vs.getD (b.length-1) 0
 ·exact h
 ·have b3:vs.getD (b.length-1) 0+1≤2147483648:=by omega
  have dJ:=Nat.mul_le_mul_left (B^(b.length-1)) b3;rw[fD,Nat.mul_one] at dJ;omega
theorem JV{a b dq:List Nat}{c V:Nat}(h:dR a)(q:fb b)(e:b≠[])(r:dR dq)(hle:b.length≤a.length)(bK:dq.length=a.length+1)(hu:val dq=val a*2^c)(u:V=val b*2^c):val (dq.drop (a.length-b.length+1))<V:=by have y:0<b.length:=List.length_pos_iff.2 e;rw[←x0 dq _ r (by omega),Nat.div_lt_iff_lt_mul (Nat.pow_pos g8),hu,u];have au:=hY a h;have az:=pC b q e;have b3:=fV (B^(a.length-b.length+1)) az;rw[←Nat.pow_add,show b.length-1+(a.length-b.length+1)=a.length by omega] at b3;rw[gL,ez (2^c),←gL];exact Nat.mul_lt_mul_of_pos_right (f8 au b3) (Nat.two_pow_pos c)
end Go.hK
end
section
namespace Go.gw
open Go.Ab Go.hK
variable(G:Nat→af)(X:Nat→List af→ag→ah)
theorem O7(s:ag)(np j N q:Nat)(gI vs:List Nat)(oS:af)(eZ:gU s np gI)(pZ:gI.length=N)(bO:jB oS vs)(lF:dR vs)(df:j+vs.length<N)(gZ:N<4294967296)(h:0<vs.length)(AC:dR gI)(r:q<B)(u:0<val vs)(y:e5 gI j (vs.length+1)/val vs≤q)(A:q≤e5 gI j (vs.length+1)/val vs+1):
  ∃e,aL aK G X 138 [.cZ (.g s.aa np) 0 N N 1,.int .i64 (j:Int),oS,.int .u64 (q:Int)] s=.ok (.int .u32 ((e5 gI j (vs.length+1)/val vs:Nat):Int)) (s.put np e)∧e.length=N∧dR e∧(∀k,(k<j∨j+vs.length<k)→e.getD k 0=gI.getD k 0)∧e5 e j (vs.length+1)=e5 gI j (vs.length+1)%val vs:=by
 rw[EY,OL,(bO.rd s).len]
 have:=CC G X s np j N q gI vs oS eZ pZ bO lF df gZ h AC r u y A vs.length 0 gI 0 0 (by omega) pZ AC g8 (by omega) (fun _ _=>rfl) (by simp [xZ]);rw[I0 eZ] at this;exact this
theorem CF(s:ag)(c U0 N M np e:Nat)(oS:af)(vs:List Nat)(bO:jB oS vs)(lF:dR vs)(dp:2≤vs.length)(L:B≤2*vs.getD (vs.length-1) 0)(av:N=M-1+vs.length+1)(aw:0<M)(gZ:N<4294967296)(fe:np≠e)(a3:c<4294967296):
  ∀(m k:Nat) (dq os:List Nat) (S:ag),k+m=M→Child s S→gU S np dq→gU S e os→dq.length=N→os.length=M→dR dq→dR os→val dq+B^m*(val (os.drop m)*val vs)=U0→val (dq.drop m)<val vs→
  ∃v w q r,rQ (aU aK G X) (.int .i64 (c:Int)) oS (.cZ (.l np) 0 N N 1) (.cZ (.l e) 0 M M 1) (.int .i64 (M:Int)) (.int .i64 (k:Int)) S=.ok (.ea [v,w]) s∧jB v q∧dR q∧fb q∧jB w r∧dR r∧fb r∧val q=U0/val vs∧val r=U0%val vs/2^c:=by
 intro m
 induction m with
 |zero=>
  intro k dq os S dl I hu F lu gn y J hinv u;have h:¬((k:Int)<(M:Int)):=by omega
  have A:=hu.rd N N (by omega) (aC _);rw[iP (by omega)] at A;have ab:=mH G X S _ dq A (by omega);have O:=A.cut (g9 dq dq.length) (jz _ _);obtain⟨w,r,lost,ac,U,ad,ae,PJ⟩:=O3 G X S _ (dq.take (g9 dq dq.length)) c O (y.take _) a3 (by have:=jz dq dq.length;simp;omega);obtain⟨v,ah,b3⟩:∃v,jB v (gb os)∧(aU aK G X).bt S (fun v s=>(aU aK G X).a5 false [some v,some w] s) 135 [.cZ (.g S.aa e) 0 M M 1]=.ok (.ea [v,w]) s:=by
   have aT:=F.rd M M (by omega) (aC _);rw[iP (by omega)] at aT;rw[a9 (mH G X S _ os aT (by omega))];have hle:=jz os os.length;obtain⟨v,au,az⟩:=m3 (S:=S) (j:=e) (off:=0) (cap:=M) (gb os) (n:=g9 os os.length) (ik os).symm F (by rw[bL,ik];simp [gb,List.map_take]) (by rw[ik];simpa using hle)
   exact⟨v,az,hE I _ _ _ _ au (U.freeze S)⟩
  rw[Nat.pow_zero,Nat.one_mul,bL] at hinv;rw[bL] at u;have K:0<val vs:=by omega
  have ai:val (dq.take (g9 dq dq.length))=val dq:=kj dq;refine⟨v,w,gb os,r,?_,ah,ls J,jl os,U,ad,ae,?_,?_⟩
  ·rw[tn,bm,bl,if_neg (by simpa using h),Cb,iz,a9 ab,O.ap,aI,a9 ac,gv 0 _ w rfl,gv 1 _ _ rfl,iz];exact b3
  ·rw[kj,←hinv,Nat.add_mul_div_right _ _ K,Nat.div_eq_of_lt u,bg]
  ·rw[PJ,ai,←hinv,Nat.add_mul_mod_self_right,hz u]
 |succ m aj=>
  intro k dq os S dl I hu F lu gn y J hinv u;have h:(k:Int)<(M:Int):=by omega
  have df:m+vs.length<dq.length:=by omega
  have A:=hu.rd N N (by omega) (aC _);rw[iP (by omega)] at A;obtain⟨ak,al,he⟩:=O5 G X S _ oS dq vs m A (bO.rd S) y lF dp df (by omega) L (VG df lF (by omega) u);have V:=O6 df y lF dp L u he.lt he.le he.max;have K:0<val vs:=by omega
  obtain⟨H,am,an,ao,aq,hw⟩:=O7 G X S np m N ak dq vs oS hu lu bO lF (by omega) gZ (by omega) y he.lt K V.1 V.2;obtain⟨d1,d2,d3⟩:=JT (U0:=U0) (j:=m) (os:=os) (by omega) df y lF (by omega) hinv u aq hw;have Y:gU (S.put np H) e os:=F.FN fe _;have gT:=fun x (k:bf)=>Y.gT (T:=aK) (G:=G) (X:=X) m M M x (by omega) (by omega) k
  have ar:=fun(S:ag) (k:bf)=>jV (T:=aK) (G:=G) (X:=X) (s:=S) (k:=k) M (by omega) (by omega)
  have Z:=fun(S:ag) (lN:bf)=>m2 (T:=aK) (G:=G) (X:=X) (s:=S) (k:=lN) (M-1) k (by omega) (by omega)
  have as:=fun(S:ag) (lN:bf)=>ji (T:=aK) (G:=G) (X:=X) (s:=S) (k:=lN) k (by omega)
  rw[show M-1-k=m by omega] at Z
  have:=aj (k+1) H _ _ (by omega) ((I.put np H).put e _) ((hu.put H).FN (Ne.symm fe) _) (Y.put (os.set m (e5 dq m (vs.length+1)/val vs))) an (by simpa using gn) ao (J.set _ _ d1) d2 d3;refine Exists.imp (fun v au=>Exists.imp (fun w az=>Exists.imp (fun q b3=>Exists.imp (fun r dJ=>⟨?_,dJ.2⟩) b3) az) au) this;rw[tn,bm,bl,if_pos (by simpa using h),Ca,aV,ar,Z,iz,aI,bO.ap,a9 al];simp -implicitDefEqProofs only[aI,iz,bO.ap];rw[yO am (mI _ _ _)];simp -implicitDefEqProofs only[aI];rw[gT,B9,as];exact dJ.1
theorem O8(s:ag)(H M:af)(a b:List Nat)(u:jB H a)(A:jB M b)(F:dR a)(J:dR b)(ac:fb a)(I:fb b)(K:b≠[])(gZ:a.length<2147483648)(a2:b.length<2147483648):
  ∃v w q r,aL aK G X 114 [H,M] s=.ok (.ea [v,w]) s∧jB v q∧dR q∧fb q∧jB w r∧dR r∧fb r∧val q=val a/val b∧val r=val a%val b:=by
 have ad:=Child.aj s;have a3:0<b.length:=List.length_pos_iff.2 K;have am:=OX G X s.aj H M a b (u.rd _) (A.rd _) F J ac I (by omega) (by omega);have ae:=fun(S:ag) (k:bf)=>(u.rd S).len (T:=aK) (G:=G) (X:=X) k S
 have Y:=fun(S:ag) (k:bf)=>(A.rd S).len (T:=aK) (G:=G) (X:=X) k S
 rw[E3,OQ,u.ap,A.ap,a9 am];by_cases L:val a<val b
 ·refine⟨.bG 1 [] .nil,H,[],a,?_,jB.nil,(fun x (h:x∈[])=>absurd h mi:dR []),(fun h=>absurd rfl h:fb []),u,F,ac,?_,?_⟩
  ·have:pn (val a) (val b)<0:=by simp [pn,L]
   rw[bm,bl,if_pos (by simpa using this)];exact hE ad _ _ _ _ rfl (u.freeze _)
  ·rw[Nat.div_eq_of_lt L];rfl
  ·rw[hz L]
 have hle:val b≤val a:=Nat.not_lt.1 L;have hlen:b.length≤a.length:=by
  by_cases h:b.length≤a.length
  ·exact h
  ·have:=nM F I (Nat.not_le.1 h);omega
 have an:¬pn (val a) (val b)<0:=by simp -implicitDefEqProofs only[pn,if_neg L];split<;> decide
 rw[bm,bl,if_neg (by simpa using an),Cd,Y,bE,bl];by_cases au:b.length=1
 ·rw[if_pos (by simp [au])];have Z:=fun(k:bf)=>(A.rd s.aj).get (T:=aK) (G:=G) (X:=X) .i64 0 (by omega) k
  have aa:val b=b.getD 0 0:=by
   match b,au with
   |[x],_=>simp [val]
  have cS:b.getD 0 0≠0:=by rw[←aa];intro e;exact K ((tt I).1 e)
  have ah:=J.getD 0;obtain⟨v,q,aq,N,ar,as,av⟩:=O0 G X s.aj H a (b.getD 0 0) (u.rd _) F cS ah (by omega);have ao:=jB.fc [val a%b.getD 0 0];have aw:=mH G X s.aj _ _ (ao.rd s.aj) (by simp);have ax:val a%b.getD 0 0<B:=Nat.lt_trans (Nat.mod_lt _ (by omega)) ah;have or:dR [val a%b.getD 0 0]:=fun x a8=>by rw[List.mem_singleton.1 a8];exact ax
  refine⟨v,_,q,gb [val a%b.getD 0 0],?_,N,ar,as,ao.cut _,ls or,jl _,by rw[av,aa],by rw[kj,aa];simp [val]⟩;refine(Z _).trans ?_;rw[u.ap,aI,a9 aq,gv 0 _ v rfl,gv 1 _ _ rfl];have fc:=fun(k:bf)=>tc (T:=aK) (G:=G) (X:=X) (s:=s.aj) (k:=k) [val a%b.getD 0 0]
  refine(fc _).trans ?_;rw[ao.ap,a9 aw];exact hE ad _ _ _ _ (N.freeze _) ((ao.cut _).freeze _)
 ·rw[if_neg (by simp;omega),Cc];have Z:=fun(k:bf)=>(A.rd s.aj).get (T:=aK) (G:=G) (X:=X) .i64 (b.length-1) (by omega) k
  have ay:=fun(S:ag) (k:bf)=>jV (T:=aK) (G:=G) (X:=X) (s:=S) (k:=k) b.length (by omega) (by omega)
  have a4:=kP;have bN:=J.getD (b.length-1);have hr:=I K;obtain⟨c,az,a5,aA,aB⟩:=OZ G X s.aj (b.getD (b.length-1) 0) (by omega) hr;obtain⟨oS,vs,aD,N,lF,aE,O⟩:=Cu G X s.aj M b c (A.rd _) J (by omega) (by omega);obtain⟨a6,fR⟩:=JU J I K lF aE O aA aB;have aF:=fun S k=>nn G X S k a.length (by omega)
  have aG:=fun(S:ag) (k:bf)=>m2 (T:=aK) (G:=G) (X:=X) (s:=S) (k:=k) a.length b.length hlen (by omega)
  have aH:=fun S k=>nn G X S k (a.length-b.length) (by omega)
  have aJ:=fun(S:ag) (k:bf)=>oc (T:=aK) (G:=G) (X:=X) (s:=S) (k:=k) (U 0) 4 (a.length+1) (a.length+1) (aC _) (by omega)
  have aM:=fun(S:ag) (k:bf)=>oc (T:=aK) (G:=G) (X:=X) (s:=S) (k:=k) (U 0) 4 (a.length-b.length+1) (a.length-b.length+1) (aC _) (by omega)
  let y:=s.aj.new (.cells (List.replicate (a.length+1) (U 0)))
  have A1:gU y s.aj.own.length (List.replicate (a.length+1) 0):=gU.make _ _;obtain⟨a7,ab,aN,sl,aO,aP,el⟩:=Cu G X y H a c (u.rd _) F (by omega) (by omega);have aQ:ab.length≤a.length+1:=by
   apply qv aP;rw[el,Nat.pow_succ];have aR:=hY a F;have aS:2^c≤B:=by have:2^c≤2^32:=Nat.pow_le_pow_right (by omega) (by omega);rw[tu];exact this
   exact f8 (Nat.mul_lt_mul_of_pos_right aR (Nat.two_pow_pos c)) (Nat.mul_le_mul_left _ aS)
  let dq:=ab++(List.replicate (a.length+1) 0).drop ab.length
  have ai:dq.length=a.length+1:=by simp [dq];omega
  have ak:val dq=val a*2^c:=by simp -implicitDefEqProofs only[dq,m6,List.drop_replicate,Co,Nat.mul_zero,Nat.add_zero,el]
  have al:dR dq:=fun x a8=>by
   rcases List.mem_append.1 a8 with h|h
   ·exact aO x h
   ·exact pk _ x (List.mem_of_mem_drop h)
  have aT:=fun(k:bf)=>A1.copy (T:=aK) (G:=G) (X:=X) (n:=a.length+1) (sl.rd y) (by simpa using aQ) (by simp) k
  have A2:gU (y.put s.aj.own.length dq) s.aj.own.length dq:=A1.put dq
  let V:=(y.put s.aj.own.length dq).new (.cells (List.replicate (a.length-b.length+1) (U 0)))
  have A3:gU V s.aj.own.length dq:=A2.new _;have A4:gU V (y.put s.aj.own.length dq).own.length (List.replicate (a.length-b.length+1) 0):=gU.make _ _;have aU:Child s V:=(((Child.aj s).new _).put _ _).new _;have fe:s.aj.own.length≠(y.put s.aj.own.length dq).own.length:=by have:=A2.lt;omega
  have aW:=CF G X s c (val a*2^c) (a.length+1) (a.length-b.length+1) s.aj.own.length (y.put s.aj.own.length dq).own.length oS vs N lF (by omega) fR (by omega) (by omega) (by omega) fe (by omega) (a.length-b.length+1) 0 dq _ V (by omega) aU A3 A4 ai (by simp) al (pk _)
   (by rw[ak,lz (by simp)];simp [val]) (JV F I K al hlen ai ak O)
  obtain⟨v,w,q,r,ho,gF,aX,ni,im,aY,aZ,a0,a1⟩:=aW;refine⟨v,w,q,r,?_,gF,aX,ni,im,aY,aZ,?_,?_⟩
  ·rw[Y,ay];refine(Z _).trans ?_;rw[aI,a9 az,A.ap,aI,a9 aD,ae,aF];refine(aJ _ _).trans ?_;rw[u.ap];refine(a9 aN).trans ?_;refine(aT _).trans ?_;rw[ae,Y,aG,aH];refine(aM _ _).trans ?_;rw[aV];exact ho
  ·rw[a0,O,Nat.mul_div_mul_right _ _ (Nat.two_pow_pos c)]
  ·rw[a1,O,Nat.mul_mod_mul_right,Nat.mul_div_cancel _ (Nat.two_pow_pos c)]
def iB(neg:Bool)(l:List Nat):Bool:=if l.length=0 then !neg else decide (l.length≤128)&&decide (l.getD (l.length-1) 0≠0)
abbrev lv(neg:Bool)(v:af):af:=.agg [.bool neg,v]
theorem uf(s:ag)(neg:Bool)(v:af)(l:List Nat)(h:jB v l)(r:l.length<9223372036854775807):aL aK G X 87 [lv neg v] s=.ok (.bool (iB neg l)) s:=by
 have u:=Child.aj s;have e:=fun(S:ag) (k:bf)=>(h.rd S).len (T:=aK) (G:=G) (X:=X) k S
 rw[Jh,U6];by_cases eZ:l.length=0
 ·have oG:(l.length:Int)=0:=by omega
  simp -implicitDefEqProofs only[↓cJ,↓cK,↓bY,↓bl,↓aB,↓aF,↓ax,↓aG,↓aM,↓aN,↓ay,↓aH,↓aE,↓aV,↓aZ,↓ba,↓ds,↓aA,↓bu,↓b4,↓c4,↓cc,↓cd,↓b5,↓cf,↓cg,↓ch,↓ci,↓cj,↓ck,↓bw,↓bx,↓bz,↓c5,↓c6,↓c7,↓c8,↓c9,↓da,↓db,↓dc,↓dd,↓cl,↓cm,↓cn,↓bE,↓cA,↓bm,↓c1,↓ca,↓cF,↓cU,↓de,↓a0,↓aO,↓a1,↓aS,↓aD,↓a2,↓cP,↓bV,↓b6,↓co,↓cp,↓cq,↓cr,↓ct,↓cv,↓cw,↓cx,↓dD,↓dE,↓di,↓dO,↓cD,↓cE,↓cO,↓dn,bL,dK,b1,decide_eq_false_iff_not,ite_not,↓reduceIte,a7,aI,bc,bA,bg,bP,cy,Nat.reduceAdd,bD,↓bb,Nat.reduceLeDiff,aC,cV,cX,dG,dy,bW,↓e,eq_true oG,iB,if_pos eZ]
 ·have oG:¬(l.length:Int)=0:=by omega
  by_cases au:l.length≤128
  ·have dU:(l.length:Int)≤128:=by omega
   have g:=fun(k:bf)=>(h.rd s.aj).get (T:=aK) (G:=G) (X:=X) .i64 (l.length-1) (by omega) k
   have q:=fun(S:ag) (k:bf)=>jV (T:=aK) (G:=G) (X:=X) (s:=S) (k:=k) l.length (by omega) (by omega)
   simp -implicitDefEqProofs only[↓cJ,↓cK,↓bY,↓bl,↓aB,↓aF,↓ax,↓aG,↓aM,↓aN,↓ay,↓aH,↓aE,↓aV,↓aZ,↓ba,↓ds,↓aA,↓bu,↓b4,↓c4,↓cc,↓cd,↓b5,↓cf,↓cg,↓ch,↓ci,↓cj,↓ck,↓bw,↓bx,↓bz,↓c5,↓c6,↓c7,↓c8,↓c9,↓da,↓db,↓dc,↓dd,↓cl,↓cm,↓cn,↓bE,↓cA,↓bm,↓c1,↓ca,↓cF,↓cU,↓de,↓a0,↓aO,↓a1,↓aS,↓aD,↓a2,↓cP,↓bV,↓b6,↓co,↓cp,↓cq,↓cr,↓ct,↓cv,↓cw,↓cx,↓dD,↓dE,↓di,↓dO,↓cD,↓cE,↓cO,↓dn,bL,dK,b1,decide_eq_false_iff_not,ite_not,↓reduceIte,a7,aI,bc,bA,bg,bP,cy,Nat.reduceAdd,bD,↓bb,Nat.reduceLeDiff,aC,cV,cX,dG,dy,bW,↓e,eq_false oG,vN,eq_true dU,↓q,↓g,iB,if_neg eZ,dY au,eM];congr 3;simp -implicitDefEqProofs only[ne_eq,eq_iff_iff];omega
  ·have dU:¬(l.length:Int)≤128:=by omega
   simp -implicitDefEqProofs only[↓cJ,↓cK,↓bY,↓bl,↓aB,↓aF,↓ax,↓aG,↓aM,↓aN,↓ay,↓aH,↓aE,↓aV,↓aZ,↓ba,↓ds,↓aA,↓bu,↓b4,↓c4,↓cc,↓cd,↓b5,↓cf,↓cg,↓ch,↓ci,↓cj,↓ck,↓bw,↓bx,↓bz,↓c5,↓c6,↓c7,↓c8,↓c9,↓da,↓db,↓dc,↓dd,↓cl,↓cm,↓cn,↓bE,↓cA,↓bm,↓c1,↓ca,↓cF,↓cU,↓de,↓a0,↓aO,↓a1,↓aS,↓aD,↓a2,↓cP,↓bV,↓b6,↓co,↓cp,↓cq,↓cr,↓ct,↓cv,↓cw,↓cx,↓dD,↓dE,↓di,↓dO,↓cD,↓cE,↓cO,↓dn,bL,dK,b1,decide_eq_false_iff_not,ite_not,↓reduceIte,a7,aI,bc,bA,bg,bP,cy,Nat.reduceAdd,bD,↓bb,Nat.reduceLeDiff,aC,cV,cX,dG,dy,bW,↓e,eq_false oG,vN,eq_false dU,iB,if_neg eZ,cL au,fU]
theorem O9(s:ag)(jA u:Bool)(v1 v2:af)(h q:List Nat)(au:jB v1 h)(az:jB v2 q)(wU:h.length<9223372036854775807)(y:q.length<9223372036854775807):aL aK G X 113 [lv jA v1,lv u v2] s=.ok (.bool (iB jA h&&iB u q)) s:=by
 rw[E2,OP];have r:=uf G X s.aj jA v1 h au wU;have A:=uf G X s.aj u v2 q az y;cases e:iB jA h with
 |false=>rw[e] at r;simp -implicitDefEqProofs only[↓cJ,↓cK,↓bY,↓bl,↓aB,↓aF,↓ax,↓aG,↓aM,↓aN,↓ay,↓aH,↓aE,↓aV,↓aZ,↓ba,↓ds,↓aA,↓bu,↓b4,↓c4,↓cc,↓cd,↓b5,↓cf,↓cg,↓ch,↓ci,↓cj,↓ck,↓bw,↓bx,↓bz,↓c5,↓c6,↓c7,↓c8,↓c9,↓da,↓db,↓dc,↓dd,↓cl,↓cm,↓cn,↓bE,↓cA,↓bm,↓c1,↓ca,↓cF,↓cU,↓de,↓a0,↓aO,↓a1,↓aS,↓aD,↓a2,↓cP,↓bV,↓b6,↓co,↓cp,↓cq,↓cr,↓ct,↓cv,↓cw,↓cx,↓dD,↓dE,↓di,↓dO,↓cD,↓cE,↓cO,↓dn,bL,dK,b1,decide_eq_false_iff_not,ite_not,↓reduceIte,a7,aI,bc,bA,bg,bP,cy,Nat.reduceAdd,bD,↓bb,Nat.reduceLeDiff,aC,cV,cX,dG,dy,bW,↓(a9 r),fU]
 |true=>rw[e] at r;simp -implicitDefEqProofs only[↓cJ,↓cK,↓bY,↓bl,↓aB,↓aF,↓ax,↓aG,↓aM,↓aN,↓ay,↓aH,↓aE,↓aV,↓aZ,↓ba,↓ds,↓aA,↓bu,↓b4,↓c4,↓cc,↓cd,↓b5,↓cf,↓cg,↓ch,↓ci,↓cj,↓ck,↓bw,↓bx,↓bz,↓c5,↓c6,↓c7,↓c8,↓c9,↓da,↓db,↓dc,↓dd,↓cl,↓cm,↓cn,↓bE,↓cA,↓bm,↓c1,↓ca,↓cF,↓cU,↓de,↓a0,↓aO,↓a1,↓aS,↓aD,↓a2,↓cP,↓bV,↓b6,↓co,↓cp,↓cq,↓cr,↓ct,↓cv,↓cw,↓cx,↓dD,↓dE,↓di,↓dO,↓cD,↓cE,↓cO,↓dn,bL,dK,b1,decide_eq_false_iff_not,ite_not,↓reduceIte,a7,aI,bc,bA,bg,bP,cy,Nat.reduceAdd,bD,↓bb,Nat.reduceLeDiff,aC,cV,cX,dG,dy,bW,↓(a9 r),↓(a9 A),eM,if_true]
theorem CG(s:ag)(neg:Bool)(v:af)(l:List Nat)(h:jB v l)(V:dR l)(y:l.length<4294967296)(bK:(gb l).length≤128):
  ∃w,aL aK G X 115 [.bool neg,v] s=.ok (.ea [lv (neg&&decide (gb l≠[])) w,.int .i64 0]) s∧jB w (gb l):=by
 have B:=Child.aj s;have F:=fun(S:ag)=>mH G X S v l (h.rd _) (by omega)
 have a3:jB (pa v (g9 l l.length)) (gb l):=h.cut _;generalize Y:pa v (g9 l l.length)=Z at *;generalize hm:gb l=m at *;have u:=fun(S:ag) (k:bf)=>(a3.rd S).len (T:=aK) (G:=G) (X:=X) k S
 have H:¬(128:Int)<(m.length:Int):=by omega
 let e:=s.aj.new (.cells [.bool false,.bG 1 [] .nil])
 let q:=e.new (.cells (List.replicate m.length (U 0)))
 have A1:gU q e.own.length (List.replicate m.length 0):=gU.make _ _;have mk:=fun(k:bf)=>oc (T:=aK) (G:=G) (X:=X) (s:=e) (k:=k) (U 0) 4 m.length m.length (aC _) (by omega)
 have A:=fun(k:bf)=>A1.copy (T:=aK) (G:=G) (X:=X) (n:=m.length) (a3.rd q) (by simp) (by simp) k
 have oG:m++(List.replicate m.length 0).drop m.length=m:=by rw[List.drop_replicate,Nat.sub_self];simp
 rw[oG] at A;have A2:gU (q.put e.own.length m) e.own.length m:=A1.put m;have jT:Child s (q.put e.own.length m):=((B.new _).new _).put _ _;have I:(q.put e.own.length m).own[0]? =some (.cells [.bool false,.bG 1 [] .nil]):=rfl;have fin:∀b:Bool,∃w,(aU aK G X).f4 [.bool false,.bG 1 [] .nil] [(0,1,.bool b),(1,1,.cZ (.l e.own.length) 0 m.length m.length 1)] (q.put e.own.length m) (fun J s=>(aU aK G X).b8 s (fun ab s=>(aU aK G X).a5 false [ky s (.ref (.l 0) 0) (some 2),some (.int .i64 0)] s) 2 (.ref (.l 0) 0) (af.ap s.aa J))=.ok (.ea [lv b w,.int .i64 0]) s∧jB w m:=fun b=>by
  have K:=fun(k:bf)=>pA (T:=aK) (G:=G) (X:=X) (S:=q.put e.own.length m) (k:=k) (n:=2) (vs:=[.bool b,.cZ (.g (q.put e.own.length m).aa e.own.length) 0 m.length m.length 1]) I rfl rfl rfl
  let r:ag:={q.put e.own.length m with own:=(q.put e.own.length m).own.set 0 (.cells [.bool b,.cZ (.g (q.put e.own.length m).aa e.own.length) 0 m.length m.length 1])}
  have A3:gU r e.own.length m:=by have:r.own[1]? =(q.put e.own.length m).own[1]?:=ns (by decide);exact this.trans A2
  have L:Child s r:=⟨jT.up,jT.ro⟩;obtain⟨w,au,az⟩:=m3 (S:=r) (j:=e.own.length) (off:=0) (cap:=m.length) (n:=m.length) m rfl A3 (by rw[bL];exact iP (by simp)) (by simp);refine⟨w,?_,az⟩;have y:∀k:bf,(aU aK G X).f4 [.bool false,.bG 1 [] .nil] [(0,1,.bool b),(1,1,.cZ (.l e.own.length) 0 m.length m.length 1)] (q.put e.own.length m) k=k (.agg [.bool b,.cZ (.g (q.put e.own.length m).aa e.own.length) 0 m.length m.length 1]) (q.put e.own.length m):=fun k=>rfl
  rw[y,a7];refine(K _).trans ?_;have M:ky r (.ref (.l 0) 0) (some 2)=some (.agg [.bool b,.cZ (.g (q.put e.own.length m).aa e.own.length) 0 m.length m.length 1]):=qs (j:=0) (by rfl) rfl;show(aU aK G X).a5 false [ky r (.ref (.l 0) 0) (some 2),some (.int .i64 0)] r=_;rw[M];refine hE L _ _ _ _ ?_ rfl;show(fs (ef r) [_,_]).map af.agg=_;simp -implicitDefEqProofs only[fs];rw[show ef r (.bool b)=some (.bool b) from rfl,show ef r (.cZ (.g (q.put e.own.length m).aa e.own.length) 0 m.length m.length 1)=some w from au];rfl
 have N:decide ((0:Int)<(m.length:Int))=decide (m≠[]):=by
  congr 1;cases m with
  |nil=>simp
  |cons x m=>simp
 obtain⟨w,hw,O⟩:=fin (neg&&decide (m≠[]));refine⟨w,?_,O⟩;rw[E4,OR,cJ,h.ap,a9 (F _),u,ca,bl,if_neg (by simpa using H),Ce,u];refine(mk _).trans ?_;refine(A _).trans ?_;rw[b5,b4];cases neg with
 |false=>exact hw
 |true=>
  rw[if_pos rfl]
  dsimp only
  rw[u,ca,N];rw[eM] at hw;rw[eM];exact hw
theorem CH(s:ag)(v:af)(l:List Nat)(h:jB v l)(q:dR l)(bK:l.length≤2):aL aK G X 116 [v] s=.ok (.int .u64 (val l:Int)) s:=by
 have F:=Child.aj s;have r:=fun(S:ag) (k:bf)=>(h.rd S).len (T:=aK) (G:=G) (X:=X) k S
 have step:∀(i x:Nat),i<l.length→x=val (l.take i)→nK (aU aK G X) v (.int .u64 (x:Int)) (.int .i64 (l.length:Int)) (.int .i64 (i:Int)) s.aj=nK (aU aK G X) v (.int .u64 ((val (l.take (i+1)):Nat):Int)) (.int .i64 (l.length:Int)) (.int .i64 ((i+1:Nat):Int)) s.aj:=fun i x bX a8=>by
  have au:(i:Int)<(l.length:Int):=by omega
  have g:=fun(k:bf)=>(h.rd s.aj).get (T:=aK) (G:=G) (X:=X) .i64 i bX k
  have cS:=q.getD i;rw[kP] at cS;have u:=fun(S:ag) (k:bf)=>hX (T:=aK) (G:=G) (X:=X) (s:=S) (k:=k) (l.getD i 0) cS
  have As:∀(S:ag) (k:bf),(aU aK G X).ai S k (an .mul (.int .i64 32) (.int .i64 (i:Int)))=k (.int .i64 ((32*i:Nat):Int)) S:=fun S k=>by rw[fO,eD _ (by omega) (by omega)];congr 2
  have s1:=fun(S:ag) (k:bf)=>yQ (T:=aK) (G:=G) (X:=X) (s:=S) (k:=k) .i64 (l.getD i 0) (32*i) (by omega)
  have A:=fun(S:ag) (lN:bf)=>ji (T:=aK) (G:=G) (X:=X) (s:=S) (k:=lN) i (by omega)
  have B:=hY (l.take i) (q.take i);have hle:(l.take i).length=i:=by simp;omega
  rw[hle,tu,←Nat.pow_mul] at B;have vs:=val_succ l i bX;have gz:∀(S:ag) (k:bf),(aU aK G X).ai S k (an .or (.int .u64 (x:Int)) (.int .u64 ((l.getD i 0*2^(32*i)%18446744073709551616:Nat):Int)))=k (.int .u64 ((val (l.take (i+1)):Nat):Int)) S:=fun S k=>by
   have H:l.getD i 0*2^(32*i)<18446744073709551616-2^(32*i)+1:=by
    have:i=0∨i=1:=by omega
    rcases this with rfl |rfl
    ·show l.getD 0 0*1<18446744073709551616-1+1;omega
    ·show l.getD 1 0*4294967296<18446744073709551616-4294967296+1;omega
   have fC:2^(32*i)≤4294967296:=by
    have:i=0∨i=1:=by omega
    rcases this with rfl |rfl <;> simp
   rw[hz (by omega)];have e:an .or (.int .u64 (x:Int)) (.int .u64 ((l.getD i 0*2^(32*i):Nat):Int))=some (.int .u64 (IntKind.wrap .u64 ((BitVec.ofInt 64 (x:Int) ||| BitVec.ofInt 64 ((l.getD i 0*2^(32*i):Nat):Int)).toNat:Int))):=by simp -implicitDefEqProofs only[an,gm,↓reduceIte];rfl
   rw[e,Dq _ _ (by omega) (by omega),cK,iO];congr 2
   have:x ||| l.getD i 0*2^(32*i)=x+l.getD i 0*2^(32*i):=by rw[Nat.or_comm,ez,←Nat.two_pow_add_eq_or_of_lt (by omega),Nat.add_comm]
   rw[this,vs,a8,tu,←Nat.pow_mul,ez (2^(32*i))];omega
  rw[to,bm,bl,if_pos (by simpa using au),Cg,g,u,As,s1,gz,Cf,A]
 have last:nK (aU aK G X) v (.int .u64 (val l:Int)) (.int .i64 (l.length:Int)) (.int .i64 (l.length:Int)) s.aj=.ok (.int .u64 (val l:Int)) s:=by rw[to,bm,bl,if_neg (by simp),Ch,aS]
 rw[E5,OS,r]
 match l,bK with
 |[],_=>exact last
 |[x],_=>exact(step 0 0 (by simp) rfl).trans last
 |[x,y],_=>exact((step 0 0 (by simp) rfl).trans (step 1 _ (by simp) rfl)).trans last
theorem fQ{s:ag}{k:bf}(op:bf→ah):(aU aK G X).ae (.bool true) true op s k=op k:=rfl
theorem ha{s:ag}{k:bf}(op:bf→ah):(aU aK G X).ae (.bool false) true op s k=k (.ea []) s:=rfl
theorem dM{s:ag}{k:bf}(op:bf→ah):(aU aK G X).ae (.bool false) false op s k=op k:=rfl
theorem gQ{s:ag}{k:bf}(op:bf→ah):(aU aK G X).ae (.bool true) false op s k=k (.ea []) s:=rfl
theorem fv{s:ag}{k:bf}(a b:af):(aU aK G X).bs s k (.bool true) a b=k a s:=rfl
theorem eJ{s:ag}{k:bf}(a b:af):(aU aK G X).bs s k (.bool false) a b=k b s:=rfl
theorem eo(a b:ah):(aU aK G X).aR (.bool true) a b=a:=rfl
theorem ev(a b:ah):(aU aK G X).aR (.bool false) a b=b:=rfl
theorem CI{s S:ag}(e:Child s S){j:Nat}{cs:List af}(h:S.own[j]? =some (.cells cs))(a3:cs.length=2)(b:Bool){w:af}{m:List Nat}(hw:jB w m)(n:Int):
  (aU aK G X).b8 S (fun q s=>(aU aK G X).a5 false [ky s (.ref (.l j) 0) (some 2),some (.int .i64 n)] s) 2 (.ref (.l j) 0) (.agg [.bool b,w])=.ok (.ea [lv b w,.int .i64 n]) s:=by
 rw[pA (n:=2) h rfl a3 (by simp -implicitDefEqProofs only[List.all_cons,hw.eO,List.all_nil];rfl)];have df:=(ey.1 h).1;rw[qs (n:=2) (cs:=[.bool b,w]) (by simp [df]) rfl];have jT:Child s {S with own:=S.own.set j (.cells [.bool b,w])}:=⟨e.up,e.ro⟩;refine hE jT (.agg [.bool b,w]) (.int .i64 n) (.agg [.bool b,w]) (.int .i64 n) ?_ rfl;show(fs (ef _) [_,_]).map af.agg=_;simp -implicitDefEqProofs only[fs];rw[hw.ef,show ef _ (.bool b)=some (.bool b) from rfl];rfl
theorem Fh(s S:ag)(u:Child s S)(y:S.own[0]? =some (.cells [.bool false,.bG 1 [] .nil])):∀(b m n:Nat),m<b→n<18446744073709551616→m<18446744073709551616→
  ∃w r,tT (aU aK G X) (.ref (.l 0) 0) (.int .u64 (n:Int)) (.int .u64 (m:Int)) S=.ok (.ea [lv false w,.int .i64 0]) s∧jB w r∧dR r∧fb r∧val r=Nat.gcd n m:=by
 intro b
 induction b with
 |zero=>intro m n h;omega
 |succ b A=>
  intro m n K dp hm;rw[DX,ca];by_cases eZ:m=0
  ·subst eZ;have B:=fun(S:ag) (k:bf)=>dn (T:=aK) (G:=G) (X:=X) (s:=S) (k:=k) .u64 n
   have F:=fun(S:ag) (k:bf)=>dn (T:=aK) (G:=G) (X:=X) (s:=S) (k:=k) .u64 (n/4294967296)
   have fc:=fun(k:bf)=>tc (T:=aK) (G:=G) (X:=X) (s:=S) (k:=k) [n%4294967296,n/4294967296%4294967296]
   have ao:=jB.fc [n%4294967296,n/4294967296%4294967296];have e:dR [n%4294967296,n/4294967296%4294967296]:=fun x a8=>by rw[kP];simp at a8;omega
   have bO:val [n%4294967296,n/4294967296%4294967296]=n:=by simp -implicitDefEqProofs only[val,kP];omega
   have bK:(gb [n%4294967296,n/4294967296%4294967296]).length≤128:=by
    rw[ik]
    have:=jz [n%4294967296,n/4294967296%4294967296] 2;exact Nat.le_trans this (by decide)
   obtain⟨w,H,q⟩:=CG G X S false _ _ ao e (by simp) bK;refine⟨w,_,?_,q,ls e,jl _,by rw[kj,bO,Nat.gcd_zero_right]⟩;rw[show decide ((0:Int)<((0:Nat):Int))=false from rfl,ev,DW,B,cE,F];refine(fc _).trans ?_;rw[ao.ap,bc,a9 H,gv 0 _ _ rfl,gv 1 _ _ rfl,a7];exact CI G X u y rfl _ q 0
  ·have au:(0:Int)<(m:Int):=by omega
   obtain⟨w,r,az,b3,dJ,I,J⟩:=A (n%m) m (by have:=Nat.mod_lt n (Nat.pos_of_ne_zero eZ);omega) hm (by have:=Nat.mod_lt n (Nat.pos_of_ne_zero eZ);omega);refine⟨w,r,?_,b3,dJ,I,by rw[J,Nat.gcd_comm,←Nat.gcd_rec,Nat.gcd_comm]⟩;rw[dY au,eo,DV,yP _ _ eZ];exact az
theorem Fi(s S:ag)(Y:Child s S)(Z:S.own[0]? =some (.cells [.bool false,.bG 1 [] .nil])):∀(b:Nat) (u A:af) (x y:List Nat),val y<b→jB u x→jB A y→dR x→dR y→fb x→fb y→x.length≤128→y.length≤128→
  ∃w r,tU (aU aK G X) (.ref (.l 0) 0) u A S=.ok (.ea [lv false w,.int .i64 0]) s∧jB w r∧dR r∧fb r∧val r=Nat.gcd (val x) (val y):=by
 intro b
 induction b with
 |zero=>intro u A x y h;omega
 |succ b aj=>
  intro u A x y ax H I F K N O ak aa;have L:=fun(S:ag) (k:bf)=>(H.rd S).len (T:=aK) (G:=G) (X:=X) k S
  have J:=fun(S:ag) (k:bf)=>(I.rd S).len (T:=aK) (G:=G) (X:=X) k S
  have ab:(y=[]∨(x.length≤2∧y.length≤2))→∃w r,zb (aU aK G X) (.ref (.l 0) 0) u A S=.ok (.ea [lv false w,.int .i64 0]) s∧jB w r∧dR r∧fb r∧val r=Nat.gcd (val x) (val y):=fun ac=>by
   by_cases az:x.length≤2
   ·have ad:y.length≤2:=by
     rcases ac with h|h
     ·subst h;simp
     ·exact h.2
    have small:∀l:List Nat,dR l→l.length≤2→val l<18446744073709551616:=fun l al bK=>by
     have b3:=hY l al;have dJ:B^l.length≤B^2:=oo bK;have ay:B^2=18446744073709551616:=by decide
     omega
    obtain⟨w,r,ho,gF⟩:=Fh G X s S Y Z (val y+1) (val y) (val x) (by omega) (small x F az) (small y K ad);refine⟨w,r,?_,gF⟩;have e:¬(2:Int)<(x.length:Int):=by omega
    rw[vO,L,ca,cL e,ev,DY,H.ap,a9 (CH G X S u x H F az),I.ap,a9 (CH G X S A y I K ad)];exact ho
   ·have eT:y=[]:=by
     rcases ac with h|h
     ·exact h
     ·exact absurd h.1 az
    subst eT;have e:(2:Int)<(x.length:Int):=by omega
    have ae:gb x=x:=by have au:=kj x;exact val_inj (ls F) F (wh (ls F) F (jl x) N au) au
    obtain⟨w,am,U⟩:=CG G X S false u x H F (by omega) (by rw[ae];exact ak);rw[ae] at U;refine⟨w,x,?_,U,F,N,by simp [val]⟩;rw[vO,L,ca,dY e,eo,H.ap,bc,a9 am,gv 0 _ _ rfl,gv 1 _ _ rfl,a7];exact CI G X Y Z rfl _ U 0
  by_cases eT:y=[]
  ·obtain⟨w,r,ho,gF⟩:=ab (.inl eT);refine⟨w,r,?_,gF⟩;have e:¬(0:Int)<(y.length:Int):=by subst eT;simp
   rw[om,J,ca,cL e];simp -implicitDefEqProofs only[ha,eJ,ev];exact ho
  ·have e:(0:Int)<(y.length:Int):=by have:=List.length_pos_iff.2 eT;omega
   have an:val y≠0:=fun h=>eT ((tt O).1 h)
   have ah:∃w r,za (aU aK G X) (.ref (.l 0) 0) u A S=.ok (.ea [lv false w,.int .i64 0]) s∧jB w r∧dR r∧fb r∧val r=Nat.gcd (val x) (val y):=by
    obtain⟨v,w,q,r,aq,aA,aB,aC,ao,or,ai,eq,ar⟩:=O8 G X S u A x y H I F K N O eT (by omega) (by omega);have aD:=Nat.mod_lt (val x) (Nat.pos_of_ne_zero an);have as:r.length≤128:=by have b3:=hY y K;have dJ:B^y.length≤B^128:=oo aa;exact qv ai (by omega)
    obtain⟨av,qO,ho,gF,aw,ni,im⟩:=aj A w y r (by omega) I ao K or O ai aa as;refine⟨av,qO,?_,gF,aw,ni,by rw[im,ar,Nat.gcd_comm,←Nat.gcd_rec,Nat.gcd_comm]⟩;rw[DU,H.ap,I.ap,a9 aq,gv 0 _ v rfl,gv 1 _ w rfl];exact ho
   by_cases az:2<x.length
   ·obtain⟨w,r,ho,gF⟩:=ah;refine⟨w,r,?_,gF⟩;have M:(2:Int)<(x.length:Int):=by omega
    rw[om,J,ca,dY e];simp -implicitDefEqProofs only[fQ,gQ,fv,eo,↓L,↓ca,dY M];exact ho
   ·have M:¬(2:Int)<(x.length:Int):=by omega
    by_cases b3:2<y.length
    ·obtain⟨w,r,ho,gF⟩:=ah;refine⟨w,r,?_,gF⟩;have V:(2:Int)<(y.length:Int):=by omega
     rw[om,J,ca,dY e];simp -implicitDefEqProofs only[fQ,gQ,dM,fv,eJ,eo,↓L,↓J,↓ca,cL M,dY V];exact ho
    ·obtain⟨w,r,ho,gF⟩:=ab (.inr ⟨by omega,by omega⟩);refine⟨w,r,?_,gF⟩;have V:¬(2:Int)<(y.length:Int):=by omega
     rw[om,J,ca,dY e];simp -implicitDefEqProofs only[fQ,gQ,dM,fv,eJ,ev,↓L,↓J,↓ca,cL M,cL V];exact ho
theorem nq{n:Bool}{l:List Nat}(h:iB n l=true):fb l∧l.length≤128:=by
 unfold iB at h;split at h
 ·rename_i eZ;exact⟨fun fe=>absurd (kQ eZ) fe,by omega⟩
 ·simp -implicitDefEqProofs only[bn,b1] at h;exact⟨fun _=>h.2,h.1⟩
theorem VI(s:ag)(jA e:Bool)(v1 v2:af)(x y:List Nat)(h:jB v1 x)(q:jB v2 y)(A:dR x)(B:dR y)(a8:iB jA x=true)(eT:iB e y=true):
  ∃w r,aL aK G X 90 [lv jA v1,lv e v2] s=.ok (.ea [lv false w,.int .i64 0]) s∧jB w r∧dR r∧fb r∧val r=Nat.gcd (val x) (val y):=by
 obtain⟨F,H⟩:=nq a8;obtain⟨I,J⟩:=nq eT;have K:Child s (s.aj.new (.cells [.bool false,.bG 1 [] .nil])):=(Child.aj s).new _;obtain⟨w,r,au,az⟩:=Fi G X s _ K (by rfl) (val y+1) v1 v2 x y (by omega) h q A B F I H J;refine⟨w,r,?_,az⟩;have u:=O9 G X (s.aj.new (.cells [.bool false,.bG 1 [] .nil])) jA e v1 v2 x y h q (by omega) (by omega);rw[a8,eT,bD] at u;rw[Ji,U7];simp -implicitDefEqProofs only[↓cJ,↓cK,↓bY,↓bl,↓aB,↓aF,↓ax,↓aG,↓aM,↓aN,↓ay,↓aH,↓aE,↓aV,↓aZ,↓ba,↓ds,↓aA,↓bu,↓b4,↓c4,↓cc,↓cd,↓b5,↓cf,↓cg,↓ch,↓ci,↓cj,↓ck,↓bw,↓bx,↓bz,↓c5,↓c6,↓c7,↓c8,↓c9,↓da,↓db,↓dc,↓dd,↓cl,↓cm,↓cn,↓bE,↓cA,↓bm,↓c1,↓ca,↓cF,↓cU,↓de,↓a0,↓aO,↓a1,↓aS,↓aD,↓a2,↓cP,↓bV,↓b6,↓co,↓cp,↓cq,↓cr,↓ct,↓cv,↓cw,↓cx,↓dD,↓dE,↓di,↓dO,↓cD,↓cE,↓cO,↓dn,bL,dK,b1,decide_eq_false_iff_not,ite_not,↓reduceIte,a7,aI,bc,bA,bg,bP,cy,Nat.reduceAdd,bD,↓bb,Nat.reduceLeDiff,aC,cV,cX,dG,dy,bW,↓(a9 u),gK,DZ];exact au
def sD(n:Bool)(l:List Nat):Bool:= !n&&decide (l=[1])
theorem JW{l:List Nat}(h:l.length=1):l=[1]↔l.getD 0 0=1:=by
 match l,h with
 |[x],_=>simp [List.getD]
theorem Iq(s:ag)(n:Bool)(v:af)(l:List Nat)(h:jB v l):aL aK G X 89 [lv n v] s=.ok (.bool (sD n l)) s:=by
 have q:=fun(S:ag) (k:bf)=>(h.rd S).len (T:=aK) (G:=G) (X:=X) k S
 rw[Jl,Va];cases n with
 |true=>simp -implicitDefEqProofs only[↓cJ,↓cK,↓bY,↓bl,↓aB,↓aF,↓ax,↓aG,↓aM,↓aN,↓ay,↓aH,↓aE,↓aV,↓aZ,↓ba,↓ds,↓aA,↓bu,↓b4,↓c4,↓cc,↓cd,↓b5,↓cf,↓cg,↓ch,↓ci,↓cj,↓ck,↓bw,↓bx,↓bz,↓c5,↓c6,↓c7,↓c8,↓c9,↓da,↓db,↓dc,↓dd,↓cl,↓cm,↓cn,↓bE,↓cA,↓bm,↓c1,↓ca,↓cF,↓cU,↓de,↓a0,↓aO,↓a1,↓aS,↓aD,↓a2,↓cP,↓bV,↓b6,↓co,↓cp,↓cq,↓cr,↓ct,↓cv,↓cw,↓cx,↓dD,↓dE,↓di,↓dO,↓cD,↓cE,↓cO,↓dn,bL,dK,b1,decide_eq_false_iff_not,ite_not,↓reduceIte,a7,aI,bc,bA,bg,bP,cy,Nat.reduceAdd,bD,↓bb,Nat.reduceLeDiff,aC,cV,cX,dG,dy,bW,gK,sD,fU]
 |false=>
  by_cases au:l.length=1
  ·have e:(l.length:Int)=1:=by omega
   have g:=fun(k:bf)=>(h.rd s.aj).get (T:=aK) (G:=G) (X:=X) .i64 0 (by omega) k
   have g':∀k:bf,(aU aK G X).bT s.aj (fun v S=>(aU aK G X).ar S k none v) 1 v (.int .i64 0)=k (U (l.getD 0 0)) s.aj:=g;simp -implicitDefEqProofs only[↓cJ,↓cK,↓bY,↓bl,↓aB,↓aF,↓ax,↓aG,↓aM,↓aN,↓ay,↓aH,↓aE,↓aV,↓aZ,↓ba,↓ds,↓aA,↓bu,↓b4,↓c4,↓cc,↓cd,↓b5,↓cf,↓cg,↓ch,↓ci,↓cj,↓ck,↓bw,↓bx,↓bz,↓c5,↓c6,↓c7,↓c8,↓c9,↓da,↓db,↓dc,↓dd,↓cl,↓cm,↓cn,↓bE,↓cA,↓bm,↓c1,↓ca,↓cF,↓cU,↓de,↓a0,↓aO,↓a1,↓aS,↓aD,↓a2,↓cP,↓bV,↓b6,↓co,↓cp,↓cq,↓cr,↓ct,↓cv,↓cw,↓cx,↓dD,↓dE,↓di,↓dO,↓cD,↓cE,↓cO,↓dn,bL,dK,b1,decide_eq_false_iff_not,ite_not,↓reduceIte,a7,aI,bc,bA,bg,bP,cy,Nat.reduceAdd,bD,↓bb,Nat.reduceLeDiff,aC,cV,cX,dG,dy,bW,hh,sD,eM,↓q,eq_true e,↓g'];congr 3;rw[eq_iff_iff,JW au];omega
  ·have e:¬(l.length:Int)=1:=by omega
   have:¬l=[1]:=fun e=>au (by rw[e];rfl)
   simp -implicitDefEqProofs only[↓cJ,↓cK,↓bY,↓bl,↓aB,↓aF,↓ax,↓aG,↓aM,↓aN,↓ay,↓aH,↓aE,↓aV,↓aZ,↓ba,↓ds,↓aA,↓bu,↓b4,↓c4,↓cc,↓cd,↓b5,↓cf,↓cg,↓ch,↓ci,↓cj,↓ck,↓bw,↓bx,↓bz,↓c5,↓c6,↓c7,↓c8,↓c9,↓da,↓db,↓dc,↓dd,↓cl,↓cm,↓cn,↓bE,↓cA,↓bm,↓c1,↓ca,↓cF,↓cU,↓de,↓a0,↓aO,↓a1,↓aS,↓aD,↓a2,↓cP,↓bV,↓b6,↓co,↓cp,↓cq,↓cr,↓ct,↓cv,↓cw,↓cx,↓dD,↓dE,↓di,↓dO,↓cD,↓cE,↓cO,↓dn,bL,dK,b1,decide_eq_false_iff_not,ite_not,↓reduceIte,a7,aI,bc,bA,bg,bP,cy,Nat.reduceAdd,bD,↓bb,Nat.reduceLeDiff,aC,cV,cX,dG,dy,bW,hh,sD,eM,↓q,eq_false e,eq_false this]
theorem VJ(s:ag)(n:Bool)(v:af)(l:List Nat)(h:jB v l):aL aK G X 88 [lv n v] s=.ok (.bool (decide (l=[]))) s:=by
 have e:=fun(S:ag) (k:bf)=>(h.rd S).len (T:=aK) (G:=G) (X:=X) k S
 rw[Jk,U9];simp -implicitDefEqProofs only[↓cJ,↓cK,↓bY,↓bl,↓aB,↓aF,↓ax,↓aG,↓aM,↓aN,↓ay,↓aH,↓aE,↓aV,↓aZ,↓ba,↓ds,↓aA,↓bu,↓b4,↓c4,↓cc,↓cd,↓b5,↓cf,↓cg,↓ch,↓ci,↓cj,↓ck,↓bw,↓bx,↓bz,↓c5,↓c6,↓c7,↓c8,↓c9,↓da,↓db,↓dc,↓dd,↓cl,↓cm,↓cn,↓bE,↓cA,↓bm,↓c1,↓ca,↓cF,↓cU,↓de,↓a0,↓aO,↓a1,↓aS,↓aD,↓a2,↓cP,↓bV,↓b6,↓co,↓cp,↓cq,↓cr,↓ct,↓cv,↓cw,↓cx,↓dD,↓dE,↓di,↓dO,↓cD,↓cE,↓cO,↓dn,bL,dK,b1,decide_eq_false_iff_not,ite_not,↓reduceIte,a7,aI,bc,bA,bg,bP,cy,Nat.reduceAdd,bD,↓bb,Nat.reduceLeDiff,aC,cV,cX,dG,dy,bW,↓e];congr 3;rw[eq_iff_iff];cases l<;> simp <;> omega
def m7(jA e:Bool)(x y:List Nat):Bool:=iB jA x&&iB e y&& !e&&decide (y≠[])&&decide (Nat.gcd (val x) (val y)=1)
theorem CJ{l:List Nat}(e:dR l)(q:fb l):l=[1]↔val l=1:=by
 constructor
 ·intro h;subst h;simp [val]
 ·intro h;have gz:dR [1]:=fun x a8=>by rw[List.mem_singleton.1 a8,kP];omega
  have r:fb [1]:=fun _=>by simp
  have v1:val [1]=1:=by simp [val]
  exact val_inj e gz (wh e gz q r (by rw[h,v1])) (by rw[h,v1])
theorem VK(s:ag)(jA h:Bool)(v1 v2:af)(x y:List Nat)(B:jB v1 x)(A:jB v2 y)(J:dR x)(F:dR y)(K:x.length<9223372036854775807)(L:y.length<9223372036854775807):
  aL aK G X 71 [.agg [.bool jA,v1,.bool h,v2]] s=.ok (.bool (m7 jA h x y)) s:=by
 have q:=uf G X s.aj jA v1 x B K;have u:=uf G X s.aj h v2 y A L;have H:=VJ G X s.aj h v2 y A;have M:=Iq G X s.aj h v2 y A;rw[Jj,U8];cases dU:iB jA x with
 |false=>rw[dU] at q;simp -implicitDefEqProofs only[↓cJ,↓cK,↓bY,↓bl,↓aB,↓aF,↓ax,↓aG,↓aM,↓aN,↓ay,↓aH,↓aE,↓aV,↓aZ,↓ba,↓ds,↓aA,↓bu,↓b4,↓c4,↓cc,↓cd,↓b5,↓cf,↓cg,↓ch,↓ci,↓cj,↓ck,↓bw,↓bx,↓bz,↓c5,↓c6,↓c7,↓c8,↓c9,↓da,↓db,↓dc,↓dd,↓cl,↓cm,↓cn,↓bE,↓cA,↓bm,↓c1,↓ca,↓cF,↓cU,↓de,↓a0,↓aO,↓a1,↓aS,↓aD,↓a2,↓cP,↓bV,↓b6,↓co,↓cp,↓cq,↓cr,↓ct,↓cv,↓cw,↓cx,↓dD,↓dE,↓di,↓dO,↓cD,↓cE,↓cO,↓dn,bL,dK,b1,decide_eq_false_iff_not,ite_not,↓reduceIte,a7,aI,bc,bA,bg,bP,cy,Nat.reduceAdd,bD,↓bb,Nat.reduceLeDiff,aC,cV,cX,dG,dy,bW,↓(a9 q),hh,m7,dU,fU]
 |true=>
  rw[dU] at q;cases e:iB h y with
  |false=>rw[e] at u;simp -implicitDefEqProofs only[↓cJ,↓cK,↓bY,↓bl,↓aB,↓aF,↓ax,↓aG,↓aM,↓aN,↓ay,↓aH,↓aE,↓aV,↓aZ,↓ba,↓ds,↓aA,↓bu,↓b4,↓c4,↓cc,↓cd,↓b5,↓cf,↓cg,↓ch,↓ci,↓cj,↓ck,↓bw,↓bx,↓bz,↓c5,↓c6,↓c7,↓c8,↓c9,↓da,↓db,↓dc,↓dd,↓cl,↓cm,↓cn,↓bE,↓cA,↓bm,↓c1,↓ca,↓cF,↓cU,↓de,↓a0,↓aO,↓a1,↓aS,↓aD,↓a2,↓cP,↓bV,↓b6,↓co,↓cp,↓cq,↓cr,↓ct,↓cv,↓cw,↓cx,↓dD,↓dE,↓di,↓dO,↓cD,↓cE,↓cO,↓dn,bL,dK,b1,decide_eq_false_iff_not,ite_not,↓reduceIte,a7,aI,bc,bA,bg,bP,cy,Nat.reduceAdd,bD,↓bb,Nat.reduceLeDiff,aC,cV,cX,dG,dy,bW,↓(a9 q),↓(a9 u),gK,hh,m7,dU,e,fU,Bool.and_false]
  |true=>
   rw[e] at u;cases h with
   |true=>simp -implicitDefEqProofs only[↓cJ,↓cK,↓bY,↓bl,↓aB,↓aF,↓ax,↓aG,↓aM,↓aN,↓ay,↓aH,↓aE,↓aV,↓aZ,↓ba,↓ds,↓aA,↓bu,↓b4,↓c4,↓cc,↓cd,↓b5,↓cf,↓cg,↓ch,↓ci,↓cj,↓ck,↓bw,↓bx,↓bz,↓c5,↓c6,↓c7,↓c8,↓c9,↓da,↓db,↓dc,↓dd,↓cl,↓cm,↓cn,↓bE,↓cA,↓bm,↓c1,↓ca,↓cF,↓cU,↓de,↓a0,↓aO,↓a1,↓aS,↓aD,↓a2,↓cP,↓bV,↓b6,↓co,↓cp,↓cq,↓cr,↓ct,↓cv,↓cw,↓cx,↓dD,↓dE,↓di,↓dO,↓cD,↓cE,↓cO,↓dn,bL,dK,b1,decide_eq_false_iff_not,ite_not,↓reduceIte,a7,aI,bc,bA,bg,bP,cy,Nat.reduceAdd,bD,↓bb,Nat.reduceLeDiff,aC,cV,cX,dG,dy,bW,↓(a9 q),↓(a9 u),gK,m7,dU,e,fU,Bool.and_false]
   |false=>
    by_cases eT:y=[]
    ·simp -implicitDefEqProofs only[↓cJ,↓cK,↓bY,↓bl,↓aB,↓aF,↓ax,↓aG,↓aM,↓aN,↓ay,↓aH,↓aE,↓aV,↓aZ,↓ba,↓ds,↓aA,↓bu,↓b4,↓c4,↓cc,↓cd,↓b5,↓cf,↓cg,↓ch,↓ci,↓cj,↓ck,↓bw,↓bx,↓bz,↓c5,↓c6,↓c7,↓c8,↓c9,↓da,↓db,↓dc,↓dd,↓cl,↓cm,↓cn,↓bE,↓cA,↓bm,↓c1,↓ca,↓cF,↓cU,↓de,↓a0,↓aO,↓a1,↓aS,↓aD,↓a2,↓cP,↓bV,↓b6,↓co,↓cp,↓cq,↓cr,↓ct,↓cv,↓cw,↓cx,↓dD,↓dE,↓di,↓dO,↓cD,↓cE,↓cO,↓dn,bL,dK,b1,decide_eq_false_iff_not,ite_not,↓reduceIte,a7,aI,bc,bA,bg,bP,cy,Nat.reduceAdd,bD,↓bb,Nat.reduceLeDiff,aC,cV,cX,dG,dy,bW,↓(a9 q),↓(a9 u),↓(a9 H),gK,m7,dU,e,eT,fU,Bool.and_false,ne_eq,not_true_eq_false]
    ·obtain⟨N,aa⟩:=nq e;simp -implicitDefEqProofs only[↓cJ,↓cK,↓bY,↓bl,↓aB,↓aF,↓ax,↓aG,↓aM,↓aN,↓ay,↓aH,↓aE,↓aV,↓aZ,↓ba,↓ds,↓aA,↓bu,↓b4,↓c4,↓cc,↓cd,↓b5,↓cf,↓cg,↓ch,↓ci,↓cj,↓ck,↓bw,↓bx,↓bz,↓c5,↓c6,↓c7,↓c8,↓c9,↓da,↓db,↓dc,↓dd,↓cl,↓cm,↓cn,↓bE,↓cA,↓bm,↓c1,↓ca,↓cF,↓cU,↓de,↓a0,↓aO,↓a1,↓aS,↓aD,↓a2,↓cP,↓bV,↓b6,↓co,↓cp,↓cq,↓cr,↓ct,↓cv,↓cw,↓cx,↓dD,↓dE,↓di,↓dO,↓cD,↓cE,↓cO,↓dn,bL,dK,b1,decide_eq_false_iff_not,ite_not,↓reduceIte,a7,aI,bc,bA,bg,bP,cy,Nat.reduceAdd,bD,↓bb,Nat.reduceLeDiff,aC,cV,cX,dG,dy,bW,↓(a9 q),↓(a9 u),↓(a9 H),↓(a9 M),gK,m7,dU,e,eq_false eT,hh,eM,ne_eq,not_false_eq_true,D1];by_cases au:y=[1]
     ·have:Nat.gcd (val x) (val y)=1:=by rw[(CJ F N).1 au,Nat.gcd_one_right]
      simp -implicitDefEqProofs only[sD,hh,eM,dY au,eq_true this,↓cJ,↓cK,↓bY,↓bl,↓aB,↓aF,↓ax,↓aG,↓aM,↓aN,↓ay,↓aH,↓aE,↓aV,↓aZ,↓ba,↓ds,↓aA,↓bu,↓b4,↓c4,↓cc,↓cd,↓b5,↓cf,↓cg,↓ch,↓ci,↓cj,↓ck,↓bw,↓bx,↓bz,↓c5,↓c6,↓c7,↓c8,↓c9,↓da,↓db,↓dc,↓dd,↓cl,↓cm,↓cn,↓bE,↓cA,↓bm,↓c1,↓ca,↓cF,↓cU,↓de,↓a0,↓aO,↓a1,↓aS,↓aD,↓a2,↓cP,↓bV,↓b6,↓co,↓cp,↓cq,↓cr,↓ct,↓cv,↓cw,↓cx,↓dD,↓dE,↓di,↓dO,↓cD,↓cE,↓cO,↓dn,bL,dK,b1,decide_eq_false_iff_not,ite_not,↓reduceIte,a7,aI,bc,bA,bg,bP,cy,Nat.reduceAdd,bD,↓bb,Nat.reduceLeDiff,aC,cV,cX,dG,dy,bW,if_true]
     ·obtain⟨w,r,O,I,or,U,V⟩:=VI G X s.aj jA false v1 v2 x y B A J F dU e;have Y:=fun S:ag=>Iq G X S false w r I
      have Z:=fun(k:bf)=>cP (T:=aK) (G:=G) (X:=X) (s:=s.aj) (k:=k) 2 [.bool false,w] [.bool false,.bG 1 [] .nil] rfl rfl (by simp -implicitDefEqProofs only[List.all_cons,I.eO,List.all_nil];rfl)
      simp -implicitDefEqProofs only[sD,hh,eM,cL au,bW,if_false,D0,↓cJ,↓cK,↓bY,↓bl,↓aB,↓aF,↓ax,↓aG,↓aM,↓aN,↓ay,↓aH,↓aE,↓aV,↓aZ,↓ba,↓ds,↓aA,↓bu,↓b4,↓c4,↓cc,↓cd,↓b5,↓cf,↓cg,↓ch,↓ci,↓cj,↓ck,↓bw,↓bx,↓bz,↓c5,↓c6,↓c7,↓c8,↓c9,↓da,↓db,↓dc,↓dd,↓cl,↓cm,↓cn,↓bE,↓cA,↓bm,↓c1,↓ca,↓cF,↓cU,↓de,↓a0,↓aO,↓a1,↓aS,↓aD,↓a2,↓cP,↓bV,↓b6,↓co,↓cp,↓cq,↓cr,↓ct,↓cv,↓cw,↓cx,↓dD,↓dE,↓di,↓dO,↓cD,↓cE,↓cO,↓dn,bL,dK,b1,decide_eq_false_iff_not,ite_not,↓reduceIte,a7,aI,bc,bA,bg,bP,cy,Nat.reduceAdd,bD,↓bb,Nat.reduceLeDiff,aC,cV,cX,dG,dy,bW,↓(a9 O),↓k5,↓k6,↓Z,↓(a9 (Y _))];rw[ix ((Child.aj s).new _)];congr 3;rw[eq_iff_iff,CJ or U,V]
end Go.gw
end
section
namespace Go.hK
theorem getD_none(l:List Nat)(i:Nat)(h:l.length≤i):l.getD i 0=0:=by simp only[List.getD];rw[List.getElem?_eq_none h];rfl
end Go.hK
end
section
namespace Go.gw
open Go.Ab Go.hK
variable(G:Nat→af)(X:Nat→List af→ag→ah)
abbrev I(n:Int):af:=.int .i64 n
structure fI where
 neg:Bool
 hg:List Nat
 g:fi
def fI.v(n:fI):af:=.bG 1 (n.hg.map U) n.g
structure j9 (n:fI):Prop where
 g:∀a,n.g≠.dB a
 ok:dR n.hg
 len:n.hg.length<9223372036854775807
theorem j9.i7{n:fI}(h:j9 n):jB n.v n.hg:=⟨n.g,rfl,h.g⟩
structure aX where
 name:List Nat
 op:Int
 args:List Int
 xt:fi
 hr:fI
 bN:fI
 lJ:fI
 li:fI
 lx:Int
abbrev iV(l:List Int)(g:fi):af:=.bG 1 (l.map I) g
def aX.cs(x:aX):List af:=[.str x.name,I x.op,iV x.args x.xt,.bool x.hr.neg,x.hr.v,.bool x.bN.neg,x.bN.v,.bool x.lJ.neg,x.lJ.v,.bool x.li.neg,x.li.v,I x.lx]
def aX.enc(x:aX):af:=.agg x.cs
structure pJ (x:aX):Prop where
 xt:∀a,x.xt≠.dB a
 Pw:x.args.length<9223372036854775807
 hr:j9 x.hr
 bN:j9 x.bN
 lJ:j9 x.lJ
 li:j9 x.li
theorem ka{g:fi}(h:∀a,g≠.dB a)(sz:Nat)(es:List af):af.bd (.bG sz es g)=true:=by cases g<;> first|rfl |exact absurd rfl (h _)
theorem po{g:fi}(h:∀a,g≠.dB a)(d:Nat):g.ap d=g:=by cases g<;> first|rfl |exact absurd rfl (h _)
theorem nN{g:fi}(h:∀a,g≠.dB a)(S:ag)(sz:Nat)(es:List af):Ab.freeze S (.bG sz es g)=some (.bG sz es g):=by show Ab.ef S _=_;cases g<;> first|rfl |exact absurd rfl (h _)
theorem pJ.bd{x:aX}(h:pJ x):x.enc.bd=true:=by simp -implicitDefEqProofs only[aX.enc,aX.cs,af.bd,af.aY,fI.v,ka h.xt,ka h.hr.g,ka h.bN.g,ka h.lJ.g,ka h.li.g,bD]
theorem aX.cells(x:aX):x.cs.all af.eO=true:=rfl
def gA(op:Int):List Int:=
 if op=2 then[0] else if op=3 then[1,1] else if op=4 then[2,2] else if op=5 then[1,1] else if op=6∨op=7 then[1,1,1] else if op=8 then[2,3] else if op=9 then[3,3]
 else if op=10∨op=11 then[1,2] else if op=12 then[1,1] else if op=13 then[1,2] else if op=14 then[1,1,1] else if op=15 then[1,3] else if op=16 then[3] else[]
def hs(op:Int):Int:=
 if op=1∨op=2∨op=4∨op=8∨op=9∨op=12∨op=13∨op=16 then 1 else if op=3∨op=10∨op=11∨op=14∨op=15 then 2 else if op=5∨op=6∨op=7 then 3 else 0
def hL(op:Int):Bool:=decide (op=8∨op=9∨op=14∨op=15)
def r8(op:Int):fi:=if 2≤op∧op≤16 then .exact else .nil
abbrev oE(op:Int):af:=.ea [iV (gA op) (r8 op),I (hs op),.bool (hL op)]
theorem Pa{S:ag}{k:bf}(l:List Int):(aU aK G X).be S k 1 (l.map I)=k (iV l .exact) S:=by
 refine iM 1 _ ?_ ?_
 ·induction l with
  |nil=>rfl
  |cons x l e=>simp -implicitDefEqProofs only[fK,af.aY,e,Bool.and_true];rfl
 ·induction l with
  |nil=>rfl
  |cons x l e=>simp -implicitDefEqProofs only[fK,List.all_cons,e,Bool.and_true];rfl
theorem Wx{s S:ag}(e:Child s S)(v:af)(n:Int)(b:Bool)(bO:Ab.freeze S v=some v):(aU aK G X).a5 false [some v,some (.int .i64 n),some (.bool b)] S=.ok (.ea [v,.int .i64 n,.bool b]) s:=by obtain⟨au,az⟩:=e;show rq false [some v,some (.int .i64 n),some (.bool b)] S=_;unfold rq;simp -implicitDefEqProofs only[fs,f6,ew,cond_false,bO,show Ab.freeze S (.int .i64 n)=some (.int .i64 n) from rfl,show Ab.freeze S (.bool b)=some (.bool b) from rfl,sJ,au,az]
theorem wl(op:Int):op=1∨op=2∨op=3∨op=4∨op=5∨op=6∨op=7∨op=8∨op=9∨op=10∨op=11∨op=12∨op=13∨op=14∨op=15∨op=16∨(op≠1∧op≠2∧op≠3∧op≠4∧op≠5∧op≠6∧op≠7∧op≠8∧op≠9∧op≠10∧op≠11∧op≠12∧op≠13∧op≠14∧op≠15∧op≠16):=by omega
theorem zz(op:Int)(s:ag):aL aK G X 21 [I op] s=.ok (oE op) s:=by
 rw[Jt,Vi];rcases wl op with h|h|h|h|h|h|h|h|h|h|h|h|h|h|h|h|h
 all_goals try (subst h;kernel_rfl)
 obtain⟨au,az,b3,dJ,q,r,u,y,A,B,F,H,J,K,L,M⟩:=h;simp -implicitDefEqProofs only[bE,ev,cL au,cL az,cL b3,cL dJ,cL q,cL r,cL u,cL y,cL A,cL B,cL F,cL H,cL J,cL K,cL L,cL M,Ej,Ei,Eh];have e:oE op=.ea [iV [] .nil,I 0,.bool false]:=by
  unfold oE;have g:r8 op=.nil:=by unfold r8;rw[if_neg (by omega)]
  rw[g];simp [gA,hs,hL,au,az,b3,dJ,q,r,u,y,A,B,F,H,J,K,L,M]
 rw[e];exact Wx G X (.aj s) _ _ _ rfl
theorem Ir(op:Int)(s:ag):aL aK G X 34 [I op] s=.ok (oE op) s:=by
 rw[Jr,Vg];rcases wl op with h|h|h|h|h|h|h|h|h|h|h|h|h|h|h|h|h
 all_goals try (subst h;kernel_rfl)
 obtain⟨au,az,b3,dJ,q,r,u,y,A,B,F,H,J,K,L,M⟩:=h;simp -implicitDefEqProofs only[bE,ev,cL au,cL az,cL b3,cL dJ,cL q,cL r,cL u,cL y,cL A,cL B,cL F,cL H,cL J,cL K,cL L,cL M,Eg,Ef,Ee];have e:oE op=.ea [iV [] .nil,I 0,.bool false]:=by
  unfold oE;have g:r8 op=.nil:=by unfold r8;rw[if_neg (by omega)]
  rw[g];simp [gA,hs,hL,au,az,b3,dJ,q,r,u,y,A,B,F,H,J,K,L,M]
 rw[e];exact Wx G X (.aj s) _ _ _ rfl
theorem VL(x:aX)(s:ag):aL aK G X 48 [x.enc] s=.ok (I (hs x.op)) s:=by rw[Jq,Vf];simp -implicitDefEqProofs only[aX.enc,aX.cs,↓cJ,↓cK,↓bY,↓bl,↓aB,↓aF,↓ax,↓aG,↓aM,↓aN,↓ay,↓aH,↓aE,↓aV,↓aZ,↓ba,↓ds,↓aA,↓bu,↓b4,↓c4,↓cc,↓cd,↓b5,↓cf,↓cg,↓ch,↓ci,↓cj,↓ck,↓bw,↓bx,↓bz,↓c5,↓c6,↓c7,↓c8,↓c9,↓da,↓db,↓dc,↓dd,↓cl,↓cm,↓cn,↓fp,↓fz,↓fO,↓bE,↓cA,↓bm,↓c1,↓ca,↓cF,↓cU,↓de,↓a0,↓aO,↓a1,↓aS,↓aD,↓a2,↓cP,↓bV,↓b6,↓co,↓cp,↓cq,↓cr,↓ct,↓cv,↓cw,↓cx,bL,dK,List.cons_append,List.nil_append,b1,decide_eq_false_iff_not,ite_not,↓reduceIte,a7,aI,bc,bA,eW,ed,ee,bg,bP,cy,Nat.reduceAdd,List.all_cons,List.all_nil,dx,dh,dz,dT,bD,↓bb,Nat.reduceLeDiff,aC,cV,cX,↓(a9 (zz G X x.op _)),k5,k6,vn]
theorem Is(x:aX)(s:ag):aL aK G X 43 [x.enc] s=.ok (.bool (hL x.op)) s:=by rw[Jo,Vd];simp -implicitDefEqProofs only[aX.enc,aX.cs,↓cJ,↓cK,↓bY,↓bl,↓aB,↓aF,↓ax,↓aG,↓aM,↓aN,↓ay,↓aH,↓aE,↓aV,↓aZ,↓ba,↓ds,↓aA,↓bu,↓b4,↓c4,↓cc,↓cd,↓b5,↓cf,↓cg,↓ch,↓ci,↓cj,↓ck,↓bw,↓bx,↓bz,↓c5,↓c6,↓c7,↓c8,↓c9,↓da,↓db,↓dc,↓dd,↓cl,↓cm,↓cn,↓fp,↓fz,↓fO,↓bE,↓cA,↓bm,↓c1,↓ca,↓cF,↓cU,↓de,↓a0,↓aO,↓a1,↓aS,↓aD,↓a2,↓cP,↓bV,↓b6,↓co,↓cp,↓cq,↓cr,↓ct,↓cv,↓cw,↓cx,bL,dK,List.cons_append,List.nil_append,b1,decide_eq_false_iff_not,ite_not,↓reduceIte,a7,aI,bc,bA,eW,ed,ee,bg,bP,cy,Nat.reduceAdd,List.all_cons,List.all_nil,dx,dh,dz,dT,bD,↓bb,Nat.reduceLeDiff,aC,cV,cX,↓(a9 (zz G X x.op _)),k5,k6,vn]
def acc(want is:Int):Bool:=decide (is=want)||(decide (want=0)&&(decide (is=2)||decide (is=3)))
theorem VM(want is:Int)(s:ag):aL aK G X 50 [I want,I is] s=.ok (.bool (acc want is)) s:=by
 rw[Js,Vh,bE];unfold acc;by_cases au:is=want
 ·simp -implicitDefEqProofs only[dY au,gQ,fv,aD,Bool.true_or,bU]
 ·simp -implicitDefEqProofs only[cL au,dM,eJ,Bool.false_or,bE];by_cases az:want=0
  ·simp -implicitDefEqProofs only[dY az,fQ,bE,eM];by_cases b3:is=2
   ·simp -implicitDefEqProofs only[dY b3,gQ,fQ,fv,aD,Bool.true_or]
   ·simp -implicitDefEqProofs only[cL b3,dM,fQ,eJ,fv,aD,Bool.false_or,bE]
  ·simp -implicitDefEqProofs only[cL az,ha,dM,eJ,aD,fU,bU]
def l5(jA e:fI):Bool:= !jA.neg&& !e.neg&&decide (jA.hg=[])&&decide (e.hg=[])
abbrev m8(jA e:fI):af:=.agg [.bool jA.neg,jA.v,.bool e.neg,e.v]
theorem acu(l:List Nat):decide (((l.map U).length:Int)=0)=decide (l=[]):=by congr 1;rw[eq_iff_iff];cases l<;> simp <;> omega
theorem It(jA e:fI)(s:ag):aL aK G X 72 [m8 jA e] s=.ok (.bool (l5 jA e)) s:=by
 rw[Ju,Vj];unfold l5;cases au:jA.neg with
 |true=>simp -implicitDefEqProofs only[fI.v,au,↓cJ,↓cK,↓bY,↓bl,↓aB,↓aF,↓ax,↓aG,↓aM,↓aN,↓ay,↓aH,↓aE,↓aV,↓aZ,↓ba,↓ds,↓aA,↓bu,↓b4,↓c4,↓cc,↓cd,↓b5,↓cf,↓cg,↓ch,↓ci,↓cj,↓ck,↓bw,↓bx,↓bz,↓c5,↓c6,↓c7,↓c8,↓c9,↓da,↓db,↓dc,↓dd,↓cl,↓cm,↓cn,↓bE,↓cA,↓bm,↓c1,↓ca,↓cF,↓cU,↓de,↓a0,↓aO,↓a1,↓aS,↓aD,↓a2,↓cP,↓bV,↓b6,↓co,↓cp,↓cq,↓cr,↓ct,↓cv,↓cw,↓cx,↓dD,↓dE,↓di,↓dO,↓cD,↓cE,↓cO,↓dn,bL,dK,b1,decide_eq_false_iff_not,ite_not,↓reduceIte,a7,aI,bc,bA,bg,bP,cy,Nat.reduceAdd,bD,↓bb,Nat.reduceLeDiff,aC,cV,cX,dG,dy,bW,gK,fU,bU,ha,eJ]
 |false=>
  cases az:e.neg with
  |true=>simp -implicitDefEqProofs only[fI.v,au,az,↓cJ,↓cK,↓bY,↓bl,↓aB,↓aF,↓ax,↓aG,↓aM,↓aN,↓ay,↓aH,↓aE,↓aV,↓aZ,↓ba,↓ds,↓aA,↓bu,↓b4,↓c4,↓cc,↓cd,↓b5,↓cf,↓cg,↓ch,↓ci,↓cj,↓ck,↓bw,↓bx,↓bz,↓c5,↓c6,↓c7,↓c8,↓c9,↓da,↓db,↓dc,↓dd,↓cl,↓cm,↓cn,↓bE,↓cA,↓bm,↓c1,↓ca,↓cF,↓cU,↓de,↓a0,↓aO,↓a1,↓aS,↓aD,↓a2,↓cP,↓bV,↓b6,↓co,↓cp,↓cq,↓cr,↓ct,↓cv,↓cw,↓cx,↓dD,↓dE,↓di,↓dO,↓cD,↓cE,↓cO,↓dn,bL,dK,b1,decide_eq_false_iff_not,ite_not,↓reduceIte,a7,aI,bc,bA,bg,bP,cy,Nat.reduceAdd,bD,↓bb,Nat.reduceLeDiff,aC,cV,cX,dG,dy,bW,gK,hh,fU,Bool.and_false,bU,ha,fQ,eJ,fv]
  |false=>
   by_cases b3:jA.hg=[]
   ·simp -implicitDefEqProofs only[fI.v,au,az,↓cJ,↓cK,↓bY,↓bl,↓aB,↓aF,↓ax,↓aG,↓aM,↓aN,↓ay,↓aH,↓aE,↓aV,↓aZ,↓ba,↓ds,↓aA,↓bu,↓b4,↓c4,↓cc,↓cd,↓b5,↓cf,↓cg,↓ch,↓ci,↓cj,↓ck,↓bw,↓bx,↓bz,↓c5,↓c6,↓c7,↓c8,↓c9,↓da,↓db,↓dc,↓dd,↓cl,↓cm,↓cn,↓bE,↓cA,↓bm,↓c1,↓ca,↓cF,↓cU,↓de,↓a0,↓aO,↓a1,↓aS,↓aD,↓a2,↓cP,↓bV,↓b6,↓co,↓cp,↓cq,↓cr,↓ct,↓cv,↓cw,↓cx,↓dD,↓dE,↓di,↓dO,↓cD,↓cE,↓cO,↓dn,bL,dK,b1,decide_eq_false_iff_not,ite_not,↓reduceIte,a7,aI,bc,bA,bg,bP,cy,Nat.reduceAdd,bD,↓bb,Nat.reduceLeDiff,aC,cV,cX,dG,dy,bW,hh,eM,acu,eq_true b3,if_true]
   ·have h:¬((jA.hg.map U).length:Int)=0:=by
     rw[eG];have:=List.length_pos_iff.2 b3;omega
    simp -implicitDefEqProofs only[fI.v,au,az,↓cJ,↓cK,↓bY,↓bl,↓aB,↓aF,↓ax,↓aG,↓aM,↓aN,↓ay,↓aH,↓aE,↓aV,↓aZ,↓ba,↓ds,↓aA,↓bu,↓b4,↓c4,↓cc,↓cd,↓b5,↓cf,↓cg,↓ch,↓ci,↓cj,↓ck,↓bw,↓bx,↓bz,↓c5,↓c6,↓c7,↓c8,↓c9,↓da,↓db,↓dc,↓dd,↓cl,↓cm,↓cn,↓bE,↓cA,↓bm,↓c1,↓ca,↓cF,↓cU,↓de,↓a0,↓aO,↓a1,↓aS,↓aD,↓a2,↓cP,↓bV,↓b6,↓co,↓cp,↓cq,↓cr,↓ct,↓cv,↓cw,↓cx,↓dD,↓dE,↓di,↓dO,↓cD,↓cE,↓cO,↓dn,bL,dK,b1,decide_eq_false_iff_not,ite_not,↓reduceIte,a7,aI,bc,bA,bg,bP,cy,Nat.reduceAdd,bD,↓bb,Nat.reduceLeDiff,aC,cV,cX,dG,dy,bW,hh,eM,eq_false h,eq_false b3,fU]
theorem Iu{s:ag}{k:bf}(a b:List Nat):(aU aK G X).ai s k (an .eql (.str a) (.str b))=k (.bool (decide (a=b))) s:=by show k (.bool (a==b)) s=_;congr 2;exact(by rw[Bool.eq_iff_iff];simp)
theorem VN{S:ag}{k:bf}{d j o:Nat}{cs:List af}{c:af}(h:S.get (.g d j)=some (.cells cs))(a3:cs[o]? =some c):(aU aK G X).ar S k none (.ref (.g d j) o)=k c S:=by
 rw[hD];simp -implicitDefEqProofs only[d8,h,eV]
 have:cs.drop o=c::cs.drop (o+1):=by have e:=(ey.1 a3);rw[iW e.1,e.2]
 rw[this];rfl
theorem VO(o x:aX)(s:ag)(d j:Nat)(cS:d≤s.aa)(h:s.get (.g d j)=some (.cells x.cs)):aL aK G X 74 [o.enc,.ref (.g d j) 0] s=.ok (.bool (decide (o.name=x.name))) s:=by
 have az:s.aj.get (.g d j)=some (.cells x.cs):=(Child.aj s).oH.2 d j _ cS h;have l:=fun(k:bf)=>VN G X (k:=k) (o:=0+0) az (c:=.str x.name) rfl
 rw[Jw,Vl];simp -implicitDefEqProofs only[aX.enc];rw[aB];simp -implicitDefEqProofs only[aX.cs] at *;rw[ds,bL,ba,aA,l,Iu,aD]
def pq(Iv:List Nat):List aX→Nat→Int
 |[],_=> -1
 |o::r,i=>if o.name=Iv then(i:Int) else pq Iv r (i+1)
theorem p5(Iv:List Nat):∀(l:List aX) (i:Nat),decide (0≤pq Iv l i)=l.any fun o=>decide (o.name=Iv)
 |[],i=>rfl
 |o::r,i=>by
  rw[List.any_cons];by_cases h:o.name=Iv
  ·have e:pq Iv (o::r) i=(i:Int):=if_pos h;simp [e,h]
  ·have e:pq Iv (o::r) i=pq Iv r (i+1):=if_neg h;have q:=p5 Iv r (i+1);simp [e,h] at q ⊢;exact q
abbrev b7(l:List aX)(g:fi):af:=.bG 12 (l.map aX.enc) g
theorem zA(x:aX):x.cs.take 12=x.cs:=rfl
theorem VP(l:List aX)(g:fi)(x:aX)(s:ag)(d j:Nat)(cS:d≤s.aa)(h:s.get (.g d j)=some (.cells x.cs))(bK:l.length<9223372036854775807):aL aK G X 62 [b7 l g,.fn 74 [.ref (.g d j) 0]] s=.ok (I (pq x.name l 0)) s:=by
 have loop:∀n i:Nat,i+n=l.length→tY (aU aK G X) (b7 l g) (.fn 74 [.ref (.g d j) 0]) (.int .i64 (l.length:Int)) (.int .i64 (i:Int)) s.aj=.ok (I (pq x.name (l.drop i) i)) s:=by
  intro n
  induction n with
  |zero=>
   intro i bX;have e:¬(i:Int)<(l.length:Int):=by omega
   rw[vU,bm,cL e,ev,Em,aS,lz (by omega)];rfl
  |succ n r=>
   intro i bX;have e:(i:Int)<(l.length:Int):=by omega
   have q:i<l.length:=by omega
   have u:(l.map aX.enc)[i]? =some l[i].enc:=by simp [q]
   have c:=VO G X l[i] x s.aj d j (by have:=(Child.aj s).aa;omega) ((Child.aj s).oH.2 d j _ cS h);have y:=fun S k=>nn G X S k i (by omega)
   rw[vU,bm,dY e,eo,El,jF _ _ _ _ _ _ u];simp -implicitDefEqProofs only[aX.enc,af.cells];rw[bb _ _ (aC 12),zA,a7,bu];simp -implicitDefEqProofs only[aX.enc] at c;simp -implicitDefEqProofs only[List.cons_append,List.nil_append];rw[a9 c,iW q,pq];by_cases dp:l[i].name=x.name
   ·rw[dY dp,eo,aS,if_pos dp]
   ·rw[cL dp,ev,Ek,y,if_neg dp];exact r (i+1) (by omega)
 rw[Jy,Vn,aE,eG];exact loop l.length 0 (by omega)
theorem VQ(l:List aX)(g:fi)(cC:∀a,g≠.dB a)(x:aX)(s:ag)(d j:Nat)(cS:d≤s.aa)(h:s.get (.g d j)=some (.cells x.cs))(bK:l.length<9223372036854775807):aL aK G X 73 [b7 l g,.fn 74 [.ref (.g d j) 0]] s=.ok (.bool (l.any fun o=>decide (o.name=x.name))) s:=by
 have c:=VP G X l g x s.aj d j (by have:=(Child.aj s).aa;omega) ((Child.aj s).oH.2 d j _ cS h) bK;rw[Jv,Vk];have e:af.ap s.aj.aa (b7 l g)=b7 l g:=by simp -implicitDefEqProofs only[af.ap,po cC]
 rw[e,eW,a9 c,cF,p5,aD]
def zB(pre:List aX)(w a:Int):Bool:=decide (0≤a∧a<(pre.length:Int))&&acc w (match pre[a.toNat]? with |some o=>hs o.op|none=>0)
def kE(pre:List aX):List Int→List Int→Bool
 |w::ws,a::as=>zB pre w a&&kE pre ws as
 |_,_=>true
def tw(op lx:Int):Bool:=if hL op=true then decide (lx=1∨lx=2) else decide (lx=0)
def iU(jA e:fI):Bool:=m7 jA.neg e.neg jA.hg e.hg
def tx(x:aX):Bool:=
 if x.op=1 then iU x.hr x.bN&&iU x.lJ x.li else if x.op=2 then iU x.hr x.bN&&l5 x.lJ x.li else l5 x.hr x.bN&&l5 x.lJ x.li
def oq(pre:List aX)(x:aX):Bool:=pre.any fun o=>decide (o.name=x.name)
def wf(pre:List aX)(x:aX):Bool:=
 decide (hs x.op≠0)&&decide ((gA x.op).length=x.args.length)&&decide (x.name≠[])&&(kE pre (gA x.op) x.args&&(tw x.op x.lx&&(tx x&& !oq pre x)))
section
variable(x:aX)(s:ag)(k:bf)
theorem acv:(aU aK G X).ar (s.new (.cells x.cs)) k none (.ref (.l s.own.length) 0)=k (.str x.name) (s.new (.cells x.cs)):=b6 _ _
theorem aa1(o:Nat)(c:af)(h:x.cs[o]? =some c):(aU aK G X).ar (s.new (.cells x.cs)) k none (.ref (.l s.own.length) o)=k c (s.new (.cells x.cs)):=iN (by simp [ag.new]) h
theorem x1:(aU aK G X).ar (s.new (.cells x.cs)) k none (.ref (.l s.own.length) 1)=k (I x.op) (s.new (.cells x.cs)):=aa1 G X x s k 1 _ rfl
theorem Wy:(aU aK G X).ar (s.new (.cells x.cs)) k none (.ref (.l s.own.length) 2)=k (iV x.args x.xt) (s.new (.cells x.cs)):=aa1 G X x s k 2 _ rfl
theorem sE:(aU aK G X).ar (s.new (.cells x.cs)) k none (.ref (.l s.own.length) 11)=k (I x.lx) (s.new (.cells x.cs)):=aa1 G X x s k 11 _ rfl
theorem Wz(o:Nat)(h:o+4≤12):(aU aK G X).ar (s.new (.cells x.cs)) k (some 4) (.ref (.l s.own.length) o)=k (.agg ((x.cs.drop o).take 4)) (s.new (.cells x.cs)):=by rw[hD];simp -implicitDefEqProofs only[d8,g7,eV];rw[show Nat.ble 4 (x.cs.drop o).length=true from eQ (by simp;show 4≤12-o;omega)];rfl
theorem Pb:(aU aK G X).ar (s.new (.cells x.cs)) k (some 4) (.ref (.l s.own.length) 3)=k (m8 x.hr x.bN) (s.new (.cells x.cs)):=Wz G X x s k 3 (by omega)
theorem Pc:(aU aK G X).ar (s.new (.cells x.cs)) k (some 4) (.ref (.l s.own.length) 7)=k (m8 x.lJ x.li) (s.new (.cells x.cs)):=Wz G X x s k 7 (by omega)
end
theorem CK{jA e:fI}(au:j9 jA)(az:j9 e)(s:ag):aL aK G X 71 [m8 jA e] s=.ok (.bool (iU jA e)) s:=VK G X s jA.neg e.neg jA.v e.v jA.hg e.hg au.i7 az.i7 au.ok az.ok au.len az.len
theorem Iw(l:List aX){g:fi}(cC:∀a,g≠.dB a)(n:Nat)(dp:n≤l.length)(S:ag)(k:bf):(aU aK G X).lr 12 (b7 l g) none (some (.int .i64 (n:Int))) none S k=k (b7 (l.take n) (o9 g l.length n)) S:=by show m1 12 (.bG 12 (l.map aX.enc) g) none (some (.int .i64 (n:Int))) none S k=_;unfold m1;simp -implicitDefEqProofs only[pH,g6,gM,Nat.zero_le,eQ (Nat.zero_le n),show Nat.ble n (l.map aX.enc).length=true from eQ (by simpa using dp),show pu g 0 n (l.map aX.enc)=true from by cases g<;> first|rfl |exact absurd rfl (cC _),bD,b2,bL,Nat.sub_zero,List.map_take,b7];cases g<;> first|rfl |exact absurd rfl (cC _)|simp [o9]
theorem jm(l:List aX){g:fi}(cC:∀a,g≠.dB a)(d:Nat):af.ap d (b7 l g)=b7 l g:=by simp -implicitDefEqProofs only[af.ap,po cC]
theorem zC(d i o:Nat):af.ap d (.ref (.l i) o)=.ref (.g d i) o:=rfl
theorem Fj(s:ag)(o:du):(s.new o).get (.g (s.new o).aa s.own.length)=some o:=by simp [ag.get,ag.new]
theorem qw{s:ag}{k:bf}(b:Bool):(aU aK G X).ai s k (kl .not (.bool b))=k (.bool (!b)) s:=cU b
section
variable(pre:List aX)(x:aX)(g:fi)(cC:∀a,g≠.dB a)(s:ag)(fC:pre.length<9223372036854775806)(a8:pJ x)
include cC fC
theorem Fk:ze (aU aK G X) (b7 (pre++[x]) g) (.int .i64 (pre.length:Int)) (.ref (.l s.aj.own.length) 0) (s.aj.new (.cells x.cs))=.ok (.bool (!oq pre x)) s:=by
 have bG:=fun(S:ag) (k:bf)=>Iw G X (pre++[x]) cC pre.length (by simp) S k
 rw[List.take_left' rfl] at bG;have e:=vm cC (pre++[x]).length pre.length;have c:=VQ G X pre _ e x (s.aj.new (.cells x.cs)) _ _ (aC _) (Fj s.aj (.cells x.cs)) (by omega);rw[D8,bG,cJ,zC,jm _ e,eW];rw[a9 c,cU,ix ((Child.aj s).new _)];rfl
include a8
theorem Fl:zf (aU aK G X) (b7 (pre++[x]) g) (.int .i64 (pre.length:Int)) (.ref (.l s.aj.own.length) 0) (s.aj.new (.cells x.cs))=.ok (.bool (tx x&& !oq pre x)) s:=by
 have e:=Fk G X pre x g cC s fC;have h:=CK G X a8.hr a8.bN (s.aj.new (.cells x.cs));have u:=CK G X a8.lJ a8.li (s.aj.new (.cells x.cs));have dU:=It G X x.hr x.bN (s.aj.new (.cells x.cs));have q:=It G X x.lJ x.li (s.aj.new (.cells x.cs));have fin:=fun b=>ix (T:=aK) (G:=G) (X:=X) ((Child.aj s).new (.cells x.cs)) b
 rw[D9,aA,bg,x1,bE];unfold tx;by_cases au:x.op=1
 ·simp -implicitDefEqProofs only[dY au,gQ,fv,aA,bg,↓x1,↓bE,fQ,↓Pb,a7,↓(a9 h),qw,if_pos au,bU];cases bO:iU x.hr x.bN with
  |false=>simp -implicitDefEqProofs only[hh,gQ,fv,dM,ha,fQ,eJ,eo,fin,fU,bU]
  |true=>
   simp -implicitDefEqProofs only[gK,dM,ha,eJ,fQ,bU,↓Pc,a7,↓(a9 u),qw];cases r:iU x.lJ x.li with
   |false=>simp -implicitDefEqProofs only[hh,gK,gQ,fv,dM,ha,fQ,eJ,eo,fin,fU,eM,bU]
   |true=>simp -implicitDefEqProofs only[gK,dM,ha,eJ,fv,fQ,bU,qw,ev,e,eM]
 ·by_cases az:x.op=2
  ·simp -implicitDefEqProofs only[cL au,dM,eJ,aA,bg,↓x1,↓bE,dY az,fQ,↓Pb,a7,↓(a9 h),qw,if_neg au,if_pos az,bU];cases bO:iU x.hr x.bN with
   |false=>simp -implicitDefEqProofs only[hh,gQ,fv,dM,ha,fQ,eJ,eo,fin,fU,bU]
   |true=>
    simp -implicitDefEqProofs only[gK,hh,dM,ha,eJ,fv,fQ,bU,↓Pc,a7,↓(a9 q),qw];cases r:l5 x.lJ x.li with
    |false=>simp -implicitDefEqProofs only[hh,gK,gQ,fv,dM,ha,fQ,eJ,eo,fin,fU,eM,bU]
    |true=>simp -implicitDefEqProofs only[gK,dM,ha,eJ,fv,fQ,bU,qw,ev,e,eM]
  ·simp -implicitDefEqProofs only[cL au,dM,eJ,aA,bg,↓x1,↓bE,cL az,ha,fQ,↓Pb,a7,↓(a9 dU),qw,if_neg au,if_neg az,bU,hh];cases bO:l5 x.hr x.bN with
   |false=>simp -implicitDefEqProofs only[hh,gQ,fv,dM,ha,fQ,eJ,eo,fin,fU,bU]
   |true=>
    simp -implicitDefEqProofs only[gK,hh,dM,ha,eJ,fv,fQ,bU,↓Pc,a7,↓(a9 q),qw];cases r:l5 x.lJ x.li with
    |false=>simp -implicitDefEqProofs only[hh,gK,gQ,fv,dM,ha,fQ,eJ,eo,fin,fU,eM,bU]
    |true=>simp -implicitDefEqProofs only[gK,dM,ha,eJ,fv,fQ,bU,qw,ev,e,eM]
theorem Fm:zg (aU aK G X) (b7 (pre++[x]) g) (.int .i64 (pre.length:Int)) (.ref (.l s.aj.own.length) 0) (.bool (hL x.op)) (s.aj.new (.cells x.cs))=.ok (.bool (tw x.op x.lx&&(tx x&& !oq pre x))) s:=by
 have h:=Fl G X pre x g cC s fC a8;have fin:=fun b=>ix (T:=aK) (G:=G) (X:=X) ((Child.aj s).new (.cells x.cs)) b
 have e:∀(a b:Bool) (k:bf) (S:ag),(aU aK G X).ai S k ((lB .bool (.bool a) (.bool b)).map fun b=>.bool (bif true then !b else b))=k (.bool (!(a==b))) S:=fun a b k S=>rfl
 rw[Ea,aA,bg,sE,bE];unfold tw;cases q:hL x.op with
 |true=>
  by_cases au:x.lx=1
  ·simp -implicitDefEqProofs only[dY au,gQ,fv,e,show(!(true==true))=false from rfl,dM,gK,ha,eJ,ev,h,if_true,eq_true (Or.inl au:x.lx=1∨x.lx=2),dG,eM,bU,qw]
  ·by_cases az:x.lx=2
   ·simp -implicitDefEqProofs only[cL au,dM,eJ,aA,bg,↓sE,↓bE,dY az,e,show(!(true==true))=false from rfl,gK,ha,ev,h,if_true,eq_true (Or.inr az:x.lx=1∨x.lx=2),dG,eM,bU,qw]
   ·have b3:¬(x.lx=1∨x.lx=2):=by omega
    simp -implicitDefEqProofs only[cL au,dM,eJ,aA,bg,↓sE,↓bE,cL az,e,show(!(true==false))=true from rfl,gQ,fv,eo,fin,if_true,eq_false b3,dy,fU,bU,qw]
 |false=>
  by_cases eZ:x.lx=0
  ·have au:¬x.lx=1:=by omega
   have az:¬x.lx=2:=by omega
   simp -implicitDefEqProofs only[cL au,dM,eJ,aA,bg,↓sE,↓bE,cL az,e,show(!(false==false))=false from rfl,hh,fQ,cA,cL (not_not_intro eZ),eJ,fv,ev,h,bW,if_false,dY eZ,eM,qw]
  ·by_cases au:x.lx=1
   ·simp -implicitDefEqProofs only[dY au,gQ,fv,e,show(!(false==true))=true from rfl,eo,fin,bW,if_false,cL eZ,fU,bU]
   ·by_cases az:x.lx=2
    ·simp -implicitDefEqProofs only[cL au,dM,eJ,aA,bg,↓sE,↓bE,dY az,e,show(!(false==true))=true from rfl,gQ,fv,eo,fin,bW,if_false,cL eZ,fU,bU]
    ·simp -implicitDefEqProofs only[cL au,dM,eJ,aA,bg,↓sE,↓bE,cL az,e,show(!(false==false))=false from rfl,hh,fQ,cA,eq_true eZ,not_false_eq_true,dG,fv,eo,fin,bW,if_false,cL eZ,fU,qw]
theorem Fo(ws:List Int)(q:fi)(Z:ws.length=x.args.length):∀n i:Nat,i+n=x.args.length→(∀o,o∈pre→pJ o)→
  tW (aU aK G X) (b7 (pre++[x]) g) (.int .i64 (pre.length:Int)) (.ref (.l s.aj.own.length) 0) (iV ws q) (.bool (hL x.op)) (iV x.args x.xt) (.int .i64 (x.args.length:Int)) (.int .i64 (i:Int)) (s.aj.new (.cells x.cs))=.ok (.bool (kE pre (ws.drop i) (x.args.drop i)&&(tw x.op x.lx&&(tx x&& !oq pre x)))) s:=by
 have fin:=fun b=>ix (T:=aK) (G:=G) (X:=X) ((Child.aj s).new (.cells x.cs)) b
 intro n
 induction n with
 |zero=>
  intro i bX r;have e:¬(i:Int)<(x.args.length:Int):=by omega
  rw[vR,bm,cL e,ev,Fm G X pre x g cC s fC a8,lz (by omega),lz (by omega)];simp -implicitDefEqProofs only[kE,eM]
 |succ n B=>
  intro i bX r;have e:(i:Int)<(x.args.length:Int):=by omega
  have u:i<x.args.length:=by omega
  have y:i<ws.length:=by omega
  have aa:=a8.Pw;have F:(x.args.map I)[i]? =some (I x.args[i]):=by simp [u]
  have H:(ws.map I)[i]? =some (I ws[i]):=by simp [y]
  have J:∀k:bf,(aU aK G X).bT (s.aj.new (.cells x.cs)) k 1 (iV x.args x.xt) (.int .i64 (i:Int))=k (.bI [I x.args[i]]) (s.aj.new (.cells x.cs)):=fun k=>jF (T:=aK) (G:=G) (X:=X) (s:=s.aj.new (.cells x.cs)) (k:=k) 1 _ x.xt .i64 i _ F
  have K:∀k:bf,(aU aK G X).bT (s.aj.new (.cells x.cs)) k 1 (iV ws q) (.int .i64 (i:Int))=k (.bI [I ws[i]]) (s.aj.new (.cells x.cs)):=fun k=>jF (T:=aK) (G:=G) (X:=X) (s:=s.aj.new (.cells x.cs)) (k:=k) 1 _ q .i64 i _ H
  have L:=fun S k=>nn G X S k i (by omega)
  rw[vR,bm,dY e,eo,D7,J,ba,bm,iW u,iW y,kE];unfold zB;by_cases au:x.args[i]<0
  ·have az:¬(0≤x.args[i]∧x.args[i]<(pre.length:Int)):=by omega
   simp -implicitDefEqProofs only[dY au,gQ,fv,eo,fin,cL az,fU,bU]
  ·by_cases az:(pre.length:Int)≤x.args[i]
   ·have b3:¬(0≤x.args[i]∧x.args[i]<(pre.length:Int)):=by omega
    simp -implicitDefEqProofs only[cL au,dM,eJ,cF,dY az,gQ,fv,eo,fin,cL b3,fU,bU]
   ·have b3:0≤x.args[i]∧x.args[i]<(pre.length:Int):=by omega
    have h:x.args[i].toNat<pre.length:=by omega
    have M:((pre++[x]).map aX.enc)[x.args[i].toNat]? =some pre[x.args[i].toNat].enc:=by rw[hy,hn h,eP h];rfl
    have N:pre[x.args[i].toNat]? =some pre[x.args[i].toNat]:=eP h;have ip:=fun(k:bf)=>FL (T:=aK) (G:=G) (X:=X) (s:=s.aj.new (.cells x.cs)) (k:=k) 12 _ g .i64 x.args[i] _ b3.1 M
    generalize O:pre[x.args[i].toNat]=o at *;have kf:o∈pre:=O ▸ nT h;have Mh:=VL G X o {own:=[],up:=[],ro:=[]};have U:af.aY [o.enc]=true:=by simp -implicitDefEqProofs only[af.aY,(r o kf).bd,bD]
    have MM:=VM G X ws[i] (hs o.op) (s.aj.new (.cells x.cs));have A:=fun(k:bf)=>bb (T:=aK) (G:=G) (X:=X) (s:=s.aj.new (.cells x.cs)) (k:=k) 12 o.cs (aC 12)
    rw[zA] at A;have V:∀k:bf,(aU aK G X).ar (s.aj.new (.cells x.cs)) k (some 12) (.bI o.enc.cells)=k o.enc (s.aj.new (.cells x.cs)):=A;have Y:∀d,af.ap d o.enc=o.enc:=fun d=>rfl
    simp -implicitDefEqProofs only[cL au,dM,eJ,cF,cL az,K,af.cells,ba];rw[ip,V,Y,mE U Mh rfl,aI,aI,a9 MM,qw];simp -implicitDefEqProofs only[N,dY b3,eM];cases ab:acc ws[i] (hs o.op) with
    |false=>simp -implicitDefEqProofs only[hh,eo,fin,fU]
    |true=>simp -implicitDefEqProofs only[gK,ev,eM,D6,L];exact B (i+1) (by omega) r
theorem VR(u:∀o,o∈pre→pJ o):aL aK G X 42 [b7 (pre++[x]) g] s=.ok (.bool (wf pre x)) s:=by
 have fin:=fun b=>ix (T:=aK) (G:=G) (X:=X) ((Child.aj s).new (.cells x.cs)) b
 have y:((pre++[x]).map aX.enc)[pre.length]? =some x.enc:=by rw[hy,j5 (aC _),Nat.sub_self];rfl
 have ip:=fun S k=>wi G X S k 12 _ g .i64 pre.length _ y
 have q:=fun(S:ag) (k:bf)=>jV (T:=aK) (G:=G) (X:=X) (s:=S) (k:=k) (pre.length+1) (by omega) (by omega)
 simp -implicitDefEqProofs only[Nat.add_sub_cancel] at q;have A:∀(S:ag) (k:bf),(aU aK G X).ar S k (some 12) (.bI x.enc.cells)=k x.enc S:=fun S k=>bb (T:=aK) (G:=G) (X:=X) (s:=S) (k:=k) 12 x.cs (aC 12)
 have B:∀d,af.ap d x.enc=x.enc:=fun d=>rfl
 have gT:=fun(k:bf) (cs:List af) (h:cs.length=12)=>cP (T:=aK) (G:=G) (X:=X) (s:=s.aj) (k:=k) 12 x.cs cs rfl h x.cells
 have xT:=zz G X x.op (s.aj.new (.cells x.cs));have J:=a8.Pw;have F:=fun h=>Fo G X pre x g cC s fC a8 (gA x.op) (r8 x.op) h x.args.length 0 (by omega) u
 have H:((gA x.op).map I).length=(gA x.op).length:=eG ..;have r:(x.args.map I).length=x.args.length:=eG ..;rw[Jn,Vc,aE,eG,fJ,List.length_singleton,q,ip,A,cJ,B];refine(gT _ _ rfl).trans ?_;rw[aA,bg,x1,aI,a9 xT,k5,k6,vn,bE];unfold wf;by_cases eZ:hs x.op=0
 ·simp -implicitDefEqProofs only[dY eZ,gQ,fv,eo,fin,cL (not_not_intro eZ:¬hs x.op≠0),fU,bU]
 ·simp -implicitDefEqProofs only[cL eZ,dM,eJ,aE,aA,bg,↓Wy,cA,H,r,dY (show hs x.op≠0 from eZ),eM];by_cases au:(gA x.op).length=x.args.length
  ·have e:¬¬((gA x.op).length:Int)=(x.args.length:Int):=by omega
   simp -implicitDefEqProofs only[cL e,dM,eJ,aA,bg,↓acv,Iu,dY au,eM];by_cases az:x.name=[]
   ·simp -implicitDefEqProofs only[dY az,eJ,eo,fin,cL (not_not_intro az:¬x.name≠[]),fU]
   ·simp -implicitDefEqProofs only[cL az,eJ,ev,Eb,aA,bg,↓Wy,aE,r,dY (show x.name≠[] from az),eM]
    have:=F au;simp -implicitDefEqProofs only[bL] at this;exact this
  ·have e:¬((gA x.op).length:Int)=(x.args.length:Int):=by omega
   simp -implicitDefEqProofs only[dY e,gQ,fv,eo,fin,cL au,fU,bU]
end
end Go.gw
end
