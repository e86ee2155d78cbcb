/- A part of the proof: no condition. -/
import Derived.Test.YtgdnbfijkagodaaGreatDoorA5
import Derived.Test.YtgdnbfijkagodaaGreatDoorA3
set_option linter.unusedSectionVars false
set_option linter.unusedSimpArgs false
set_option linter.unusedVariables false
section
namespace Go.hO
def B:Nat:=4294967296
theorem kE:B=4294967296:=rfl
theorem g8:0<B:=by decide
def val:List Nat→Nat
 |[]=>0
 |x::xs=>x+B*val xs
def dL(l:List Nat):Prop:=∀x,x∈l→x<B
theorem dL.tail{x:Nat}{l:List Nat}(h:dL (x::l)):dL l:=fun y eQ=>h y (by simp [eQ])
theorem dL.take{l:List Nat}(h:dL l)(n:Nat):dL (l.take n):=fun y eQ=>h y (List.mem_of_mem_take eQ)
theorem dL.drop{l:List Nat}(h:dL l)(n:Nat):dL (l.drop n):=fun y eQ=>h y (List.mem_of_mem_drop eQ)
theorem dL.getD{l:List Nat}(h:dL l)(i:Nat):l.getD i 0<B:=by
 by_cases bY:i<l.length
 ·have:l.getD i 0=l[i]:=by simp [List.getD,bY]
  rw[this];exact h _ (m0 bY)
 ·have:l.getD i 0=0:=by simp [List.getD,Nat.not_lt.1 bY]
  rw[this];exact g8
theorem dL.set{l:List Nat}(h:dL l)(i x:Nat)(a9:x<B):dL (l.set i x):=fun y eQ=>by
 rcases List.mem_or_eq_of_mem_set eQ with ar|ar
 ·exact h y ar
 ·exact ar ▸ a9
theorem pb(n:Nat):dL (List.replicate n 0):=fun y eQ=>by rw[(List.mem_replicate.1 eQ).2];exact g8
theorem mW:∀(a b:List Nat),val (a++b)=val a+B^a.length*val b
 |[],b=>by simp [val]
 |x::a,b=>by simp only[List.cons_append,val,mW a b,bT,Nat.pow_succ,fy];rw[et (B^a.length) B,gH];omega
theorem hP:∀(l:List Nat),dL l→val l<B^l.length
 |[],_=>by simp [val]
 |x::l,h=>by have ar:=hP l h.tail;have av:=h x (by simp);simp only[val,bT,Nat.pow_succ];have bO:B*(val l+1)≤B*B^l.length:=Nat.mul_le_mul_left _ ar;rw[fy,Nat.mul_one] at bO;rw[et (B^l.length)];omega
theorem B8(n:Nat):val (List.replicate n 0)=0:=by
 induction n with
 |zero=>rfl
 |succ n e=>simp [List.replicate_succ,val,e]
theorem val_succ(l:List Nat)(i:Nat)(h:i<l.length):val (l.take (i+1))=val (l.take i)+B^i*l.getD i 0:=by
 rw[List.take_succ_eq_append_getElem h,mW]
 have:(l.take i).length=i:=by simp;omega
 rw[this];simp [val,List.getD,h]
theorem kV(l:List Nat)(i:Nat)(h:i≤l.length):val l=val (l.take i)+B^i*val (l.drop i):=by
 have:=mW (l.take i) (l.drop i);rw[List.take_append_drop] at this;rw[this]
 have:(l.take i).length=i:=by simp;omega
 rw[this]
theorem l4(l:List Nat)(i:Nat)(h:i<l.length):val (l.drop i)=l.getD i 0+B*val (l.drop (i+1)):=by rw[jq h];simp [val,List.getD,h]
theorem lR{l:List Nat}{i j x:Nat}(h:i≤j):(l.set j x).take i=l.take i:=by
 apply List.ext_getElem?;intro n;rw[List.getElem?_take,List.getElem?_take];split
 ·rw[nm (by omega)]
 ·rfl
theorem rU{l:List Nat}{i j x:Nat}(h:j<i):(l.set j x).drop i=l.drop i:=by apply List.ext_getElem?;intro n;rw[List.getElem?_drop,List.getElem?_drop,nm (by omega)]
theorem fJ{l:List Nat}{i x:Nat}(h:i<l.length):(l.set i x).getD i 0=x:=by simp [List.getD,h]
theorem getD_set_ne{l:List Nat}{i j x:Nat}(h:i≠j):(l.set i x).getD j 0=l.getD j 0:=by simp only[List.getD];rw[nm h]
def g9(l:List Nat):Nat→Nat
 |0=>0
 |n+1=>if l.getD n 0=0 then g9 l n else n+1
theorem jn(l:List Nat):∀n,g9 l n≤n
 |0=>aB _
 |n+1=>by
  unfold g9;split
  ·exact Nat.le_succ_of_le (jn l n)
  ·exact aB _
def f3(l:List Nat):List Nat:=l.take (g9 l l.length)
def e6(l:List Nat):Prop:=l≠[]→l.getD (l.length-1) 0≠0
theorem v0(l:List Nat):∀n,n≤l.length→val (l.take (g9 l n))=val (l.take n)
 |0,_=>rfl
 |n+1,h=>by
  unfold g9;split
  ·rename_i eJ;rw[v0 l n (by omega),val_succ l n (by omega),eJ,Nat.mul_zero,Nat.add_zero]
  ·rfl
theorem rV(l:List Nat):∀n,g9 l n≠0→l.getD (g9 l n-1) 0≠0
 |0,h=>absurd rfl h
 |n+1,h=>by
  unfold g9 at h ⊢;split
  ·rename_i eJ;rw[if_pos eJ] at h;exact rV l n h
  ·rename_i eJ;exact eJ
theorem j6(l:List Nat):val (f3 l)=val l:=by unfold f3;rw[v0 l _ (aB _),List.take_length]
theorem h9(l:List Nat):(f3 l).length=g9 l l.length:=by
 unfold f3;rw[List.length_take]
 have:=jn l l.length;omega
theorem jc(l:List Nat):e6 (f3 l):=fun h=>by
 have ar:g9 l l.length≠0:=fun e=>h (by unfold f3;rw[e];rfl)
 have av:=rV l l.length ar;rw[h9];unfold f3;simp only[List.getD] at av ⊢;rw[List.getElem?_take,if_pos (by omega)];exact av
theorem ll{l:List Nat}(h:dL l):dL (f3 l):=h.take _
theorem pu(l:List Nat)(h:e6 l)(e3:l≠[]):B^(l.length-1)≤val l:=by
 have bK:0<l.length:=List.length_pos_iff.2 e3;have ar:=val_succ l (l.length-1) (by omega);rw[show l.length-1+1=l.length by omega,List.take_length] at ar;have av:=h e3;rw[ar]
 have:B^(l.length-1)*1≤B^(l.length-1)*l.getD (l.length-1) 0:=Nat.mul_le_mul_left _ (by omega);omega
theorem tq{l:List Nat}(h:e6 l):val l=0↔l=[]:=by
 constructor
 ·intro eJ;by_cases e3:l=[]
  ·exact e3
  ·have:=pu l h e3
   have:=Nat.pow_pos (n:=l.length-1) g8;omega
 ·intro e;subst e;rfl
theorem od{m n:Nat}(h:m≤n):B^m≤B^n:=Nat.pow_le_pow_right g8 h
theorem nI{a b:List Nat}(r:dL a)(u:e6 b)(h:a.length<b.length):val a<val b:=by have ar:=hP a r;have av:=pu b u (by intro e;subst e;simp at h);have bO:B^a.length≤B^(b.length-1):=od (by omega);omega
theorem v3{a b:List Nat}(e:dL a)(r:dL b)(u:e6 a)(y:e6 b)(h:val a=val b):a.length=b.length:=by
 rcases Nat.lt_trichotomy a.length b.length with ar|ar|ar
 ·have:=nI e y ar;omega
 ·exact ar
 ·have:=nI r u ar;omega
theorem qn{l:List Nat}(a1:e6 l){n:Nat}(h:val l<B^n):l.length≤n:=by
 by_cases e:l=[]
 ·subst e;simp
 ·have ar:=pu l a1 e;by_cases av:l.length≤n
  ·exact av
  ·have bO:B^n≤B^(l.length-1):=od (by omega);omega
theorem val_inj:∀{a b:List Nat},dL a→dL b→a.length=b.length→val a=val b→a=b
 |[],[],_,_,_,_=>rfl
 |[],y::b,_,_,h,_=>by simp at h
 |x::a,[],_,_,h,_=>by simp at h
 |x::a,y::b,e,r,bK,h=>by
  have a9:=e x (by simp);have eQ:=r y (by simp);simp only[val] at h;have ar:x=y:=by
   have dM:(x+B*val a)%B=x:=by rw[Nat.add_mul_mod_self_left,hl a9]
   have u:(y+B*val b)%B=y:=by rw[Nat.add_mul_mod_self_left,hl eQ]
   rw[←dM,←u,h]
  subst ar;have av:B*val a=B*val b:=by omega
  have bO:=Nat.eq_of_mul_eq_mul_left g8 av;rw[val_inj e.tail r.tail (by simpa using bK) bO]
end Go.hO
namespace Go.hO
theorem tr:B=2^32:=rfl
theorem EO(w r:Nat):B^w*2^r=2^(32*w+r):=by rw[tr,←Nat.pow_mul,←Nat.pow_add]
theorem xM(x r:Nat)(aQ:r<32):∃q,x*2^r%B=q*2^r∧q*2^r+2^r≤B:=by
 refine⟨x%2^(32-r),?_,?_⟩
 ·have:B=2^(32-r)*2^r:=by rw[←Nat.pow_add,tr];congr 1;omega
  rw[this,Nat.mul_mod_mul_right]
 ·have:B=2^(32-r)*2^r:=by rw[←Nat.pow_add,tr];congr 1;omega
  have ar:x%2^(32-r)+1≤2^(32-r):=Nat.mod_lt _ (Nat.two_pow_pos _);have av:=fO (2^r) ar;rw[e5,Nat.one_mul] at av;rw[this];exact av
theorem xN(x r:Nat)(a9:x<B)(aQ:r<32):x*2^r/B<2^r∧x*2^r<18446744073709551616:=by
 have ar:x*2^r<B*2^r:=Nat.mul_lt_mul_of_pos_right a9 (Nat.two_pow_pos _);refine⟨by rw[Nat.div_lt_iff_lt_mul g8,et (2^r)];exact ar,?_⟩;have av:B*2^r≤B*2^32:=Nat.mul_le_mul_left _ (Nat.pow_le_pow_right (by omega) (by omega));have bO:B*2^32=18446744073709551616:=by decide
 omega
theorem EP(l out:List Nat)(i w r:Nat)(aQ:r<32)(bY:i<l.length)(bK:l.length+w<out.length)(h:dL out)(u:dL l)(bJ:val (out.take (i+w+1))=val (l.take i)*2^(32*w+r))(a1:out.getD (i+w) 0<2^r)(c:Nat)(Db:c=out.getD (i+w) 0)(y:Nat)(eQ:y=c+l.getD i 0*2^r%B):
  let e:=(out.set (i+w) y).set (i+w+1) (l.getD i 0*2^r/B)
  dL e∧e.length=out.length∧val (e.take (i+1+w+1))=val (l.take (i+1))*2^(32*w+r)∧e.getD (i+1+w) 0<2^r:=by
 have a9:=u.getD i;have A:=xN (l.getD i 0) r a9 aQ;obtain⟨q,K,L⟩:=xM (l.getD i 0) r aQ;have M:2^r≤2^32:=Nat.pow_le_pow_right (by omega) (by omega);have F:y<B:=by omega
 have N:(2:Nat)^32=B:=rfl;have dM:i+1+w=i+w+1:=by omega
 refine⟨(h.set _ _ F).set _ _ (by omega),by simp,?_,?_⟩
 ·have s1:=val_succ ((out.set (i+w) y).set (i+w+1) (l.getD i 0*2^r/B)) (i+w+1) (by simp;omega);have s2:=val_succ (out.set (i+w) y) (i+w) (by simp;omega);have H:=val_succ out (i+w) (by omega);have hb:((out.set (i+w) y).set (i+w+1) (l.getD i 0*2^r/B)).getD (i+w+1) 0=l.getD i 0*2^r/B:=fJ (by simp;omega);have g2:(out.set (i+w) y).getD (i+w) 0=y:=fJ (by omega);rw[dM,s1,hb,lR (aB _),s2,g2,lR (aB _),val_succ l i bY,e5,←bJ,H,←Db];have I:B^i*l.getD i 0*2^(32*w+r)=B^(i+w)*(l.getD i 0*2^r):=by
   rw[←EO,Nat.pow_add,gH,gH,Nat.mul_left_comm (l.getD i 0)]
  have J:B^(i+w)*(l.getD i 0*2^r)=B^(i+w)*(l.getD i 0*2^r%B)+B^(i+w)*(B*(l.getD i 0*2^r/B)):=by rw[←fy,Nat.mod_add_div]
  rw[I,J,eQ,fy,Nat.pow_succ,gH (B^(i+w)) B];omega
 ·have hb:((out.set (i+w) y).set (i+w+1) (l.getD i 0*2^r/B)).getD (i+w+1) 0=l.getD i 0*2^r/B:=fJ (by simp;omega);rw[dM,hb];exact A.1
theorem B9(a out:List Nat)(n d rest:Nat)(cR:d≠0)(dk:n<a.length)(bK:out.length=a.length)(e:dL a)(h:dL out)(aQ:rest<d)(bJ:val (a.drop (n+1))=val (out.drop (n+1))*d+rest):
  (rest*B+a.getD n 0)/d<B∧dL (out.set n ((rest*B+a.getD n 0)/d))∧(rest*B+a.getD n 0)%d<d∧val (a.drop n)=val ((out.set n ((rest*B+a.getD n 0)/d)).drop n)*d+(rest*B+a.getD n 0)%d:=by
 have a9:=e.getD n;have ar:rest*B+a.getD n 0<d*B:=by have:(rest+1)*B≤d*B:=fO _ aQ;rw[e5,Nat.one_mul] at this;omega
 have gr:(rest*B+a.getD n 0)/d<B:=by rw[Nat.div_lt_iff_lt_mul (by omega),et B];exact ar
 refine⟨gr,h.set _ _ gr,Nat.mod_lt _ (by omega),?_⟩;have s1:=l4 (out.set n ((rest*B+a.getD n 0)/d)) n (by simp;omega);have hb:(out.set n ((rest*B+a.getD n 0)/d)).getD n 0=(rest*B+a.getD n 0)/d:=fJ (by omega);rw[l4 a n dk,bJ,s1,hb,rU (by omega),e5];have hm:=Nat.div_add_mod (rest*B+a.getD n 0) d;have dM:B*(val (out.drop (n+1))*d+rest)=B*val (out.drop (n+1))*d+rest*B:=by rw[fy,gH,et B rest]
 rw[dM];have r:(rest*B+a.getD n 0)/d*d=d*((rest*B+a.getD n 0)/d):=et _ _;omega
end Go.hO
end
section
namespace Go.gR
open Go.Ab Go.hO
variable(G:Nat→ae)(X:Nat→List ae→ag→ah)
theorem Ca(S:ag)(k:be)(sz:Nat)(es:List ae)(g:e2)(ek:IntKind)(i:Nat)(e:ae)(h:es[i]? =some e):(a0 aR G X).cL S k sz (.cr sz es g) (.int ek (i:Int))=k (.bP e.cells) S:=mq sz es g ek i e h
theorem nh(S:ag)(k:be)(a:Nat)(h:a+1<9223372036854775808):(a0 aR G X).ai S k (al .add (.int .i64 (a:Int)) (.int .i64 1))=k (.int .i64 ((a+1:Nat):Int)) S:=mr a h
theorem Cb(s:ag)(v:ae)(l:List Nat)(h:lN s v l)(B:l.length<9223372036854775807)(S:ag)(e:Child s S):∀n,n≤l.length→rB (a0 aR G X) v (.int .i64 (n:Int)) S=.ok (o1 v (g9 l n)) s:=by
 have y:∀n,n≤l.length→vv (a0 aR G X) v (.int .i64 (n:Int)) S=.ok (o1 v n) s:=fun n dk=>by rw[Bz,h.slice n dk];exact kl e _ _ ((h.cut n dk).same e)
 intro n
 induction n with
 |zero=>
  intro dk;rw[te];have eJ:¬((0:Int)<((0:Nat):Int)):=by omega
  simp -implicitDefEqProofs only[↓cI,↓cM,↓bU,↓bk,↓aA,↓aD,↓aw,↓aE,↓aM,↓aN,↓ax,↓aF,↓aC,↓aT,↓aW,↓bc,↓dI,↓az,↓bs,↓b0,↓c1,↓b7,↓b8,↓b1,↓b9,↓ca,↓cb,↓cc,↓cd,↓cf,↓bu,↓bw,↓bx,↓c2,↓c3,↓c4,↓c5,↓c6,↓c7,↓c8,↓c9,↓da,↓cg,↓ch,↓ci,↓bl,↓cF,↓br,↓cX,↓b5,↓cA,↓cS,↓db,↓aX,↓aO,↓aY,↓aJ,↓aH,↓aZ,↓cN,↓bV,↓b2,↓cj,↓ck,↓cl,↓cm,↓cn,↓co,↓cp,↓cq,↓dy,↓dz,↓dh,↓dJ,↓cy,↓cz,↓cK,↓dl,bW,dQ,b6,decide_eq_false_iff_not,ite_not,↓reduceIte,a8,aG,ba,bz,bf,bT,cx,Nat.reduceAdd,bC,↓bi,Nat.reduceLeDiff,aB,cT,cW,dF,dw,bS,eq_false eJ];exact y 0 (Nat.zero_le _)
 |succ n A=>
  intro dk;have eJ:(0:Int)<((n+1:Nat):Int):=by omega
  have g:=fun(k:be)=>(h.oy e.oy).get (T:=aR) (G:=G) (X:=X) .i64 n (by omega) k
  have r:=fun(S:ag) (k:be)=>jM (T:=aR) (G:=G) (X:=X) (s:=S) (k:=k) (n+1) (by omega) (by omega)
  simp -implicitDefEqProofs only[Nat.add_sub_cancel] at r;rw[te];by_cases hC:l.getD n 0=0
  ·have u:((l.getD n 0:Nat):Int)=0:=by omega
   simp -implicitDefEqProofs only[↓cI,↓cM,↓bU,↓bk,↓aA,↓aD,↓aw,↓aE,↓aM,↓aN,↓ax,↓aF,↓aC,↓aT,↓aW,↓bc,↓dI,↓az,↓bs,↓b0,↓c1,↓b7,↓b8,↓b1,↓b9,↓ca,↓cb,↓cc,↓cd,↓cf,↓bu,↓bw,↓bx,↓c2,↓c3,↓c4,↓c5,↓c6,↓c7,↓c8,↓c9,↓da,↓cg,↓ch,↓ci,↓bl,↓cF,↓br,↓cX,↓b5,↓cA,↓cS,↓db,↓aX,↓aO,↓aY,↓aJ,↓aH,↓aZ,↓cN,↓bV,↓b2,↓cj,↓ck,↓cl,↓cm,↓cn,↓co,↓cp,↓cq,↓dy,↓dz,↓dh,↓dJ,↓cy,↓cz,↓cK,↓dl,bW,dQ,b6,decide_eq_false_iff_not,ite_not,↓reduceIte,a8,aG,ba,bz,bf,bT,cx,Nat.reduceAdd,bC,↓bi,Nat.reduceLeDiff,aB,cT,cW,dF,dw,bS,eq_true eJ,r,↓g,u,By,g9,if_pos hC];exact A (by omega)
  ·have u:¬((l.getD n 0:Nat):Int)=0:=by omega
   simp -implicitDefEqProofs only[↓cI,↓cM,↓bU,↓bk,↓aA,↓aD,↓aw,↓aE,↓aM,↓aN,↓ax,↓aF,↓aC,↓aT,↓aW,↓bc,↓dI,↓az,↓bs,↓b0,↓c1,↓b7,↓b8,↓b1,↓b9,↓ca,↓cb,↓cc,↓cd,↓cf,↓bu,↓bw,↓bx,↓c2,↓c3,↓c4,↓c5,↓c6,↓c7,↓c8,↓c9,↓da,↓cg,↓ch,↓ci,↓bl,↓cF,↓br,↓cX,↓b5,↓cA,↓cS,↓db,↓aX,↓aO,↓aY,↓aJ,↓aH,↓aZ,↓cN,↓bV,↓b2,↓cj,↓ck,↓cl,↓cm,↓cn,↓co,↓cp,↓cq,↓dy,↓dz,↓dh,↓dJ,↓cy,↓cz,↓cK,↓dl,bW,dQ,b6,decide_eq_false_iff_not,ite_not,↓reduceIte,a8,aG,ba,bz,bf,bT,cx,Nat.reduceAdd,bC,↓bi,Nat.reduceLeDiff,aB,cT,cW,dF,dw,bS,eq_true eJ,r,↓g,eq_false u,g9,if_neg hC];exact y (n+1) dk
theorem mw(s:ag)(v:ae)(l:List Nat)(h:lN s v l)(e:l.length<9223372036854775807):aP aR G X 135 [v] s=.ok (o1 v (g9 l l.length)) s:=by rw[EA,NS,h.len];exact Cb G X s v l h e s.aj (.aj s) l.length (aB _)
theorem Jh{s S:ag}(e:Child s S){j:Nat}{l:List Nat}(h:gQ S j l)(n:Nat)(dk:n=l.length)(r:l.length<9223372036854775807):∃v,jz v (f3 l)∧(a0 aR G X).bA S (fun v s=>(a0 aR G X).a4 false [some v] s) 135 [.cZ (.g S.aa j) 0 n n 1]=.ok v s:=by
 subst dk;have aQ:=h.rd l.length l.length (aB _) (aB _);rw[List.take_length] at aQ;rw[bd (mw G X S _ l aQ r)];have hle:=jn l l.length;obtain⟨v,ar,av⟩:=mT (S:=S) (j:=j) (off:=0) (cap:=l.length) (f3 l) (n:=g9 l l.length) (h9 l).symm h (by rw[bW,h9];simp [f3,List.map_take]) (by rw[h9];simpa using hle)
 exact⟨v,av,kl e _ _ ar⟩
theorem v5{s S:ag}(e:Child s S){j:Nat}{l:List Nat}(h:gQ S j l)(n:Nat)(dk:n=l.length)(r:l.length<9223372036854775807)(w:ae)(hw:w.plain=true):∃v,jz v (f3 l)∧(a0 aR G X).bA S (fun v s=>(a0 aR G X).a4 false [some v,some w] s) 135 [.cZ (.g S.aa j) 0 n n 1]=.ok (.eb [v,w]) s:=by
 subst dk;have aQ:=h.rd l.length l.length (aB _) (aB _);rw[List.take_length] at aQ;rw[bd (mw G X S _ l aQ r)];have hle:=jn l l.length;obtain⟨v,ar,av⟩:=mT (S:=S) (j:=j) (off:=0) (cap:=l.length) (f3 l) (n:=g9 l l.length) (h9 l).symm h (by rw[bW,h9];simp [f3,List.map_take]) (by rw[h9];simpa using hle)
 exact⟨v,av,km e _ _ _ _ ar (xd hw)⟩
def pc(x y:Nat):Int:=if x<y then -1 else if y<x then 1 else 0
theorem Cc(s:ag)(K L:ae)(a b:List Nat)(M:lN s K a)(U:lN s L b)(V:dL a)(Y:dL b)(bK:a.length=b.length)(gU:a.length<9223372036854775807)(S:ag)(r:Child s S):∀n k,k+n=a.length→val (a.drop n)=val (b.drop n)→
  rv (a0 aR G X) K L (.int .i64 (a.length:Int)) (.int .i64 (k:Int)) S=.ok (.int .i64 (pc (val a) (val b))) s:=by
 intro n
 induction n with
 |zero=>
  intro k dc he;have h:¬((k:Int)<(a.length:Int)):=by omega
  rw[tc];simp -implicitDefEqProofs only[↓cI,↓cM,↓bU,↓bk,↓aA,↓aD,↓aw,↓aE,↓aM,↓aN,↓ax,↓aF,↓aC,↓aT,↓aW,↓bc,↓dI,↓az,↓bs,↓b0,↓c1,↓b7,↓b8,↓b1,↓b9,↓ca,↓cb,↓cc,↓cd,↓cf,↓bu,↓bw,↓bx,↓c2,↓c3,↓c4,↓c5,↓c6,↓c7,↓c8,↓c9,↓da,↓cg,↓ch,↓ci,↓bl,↓cF,↓br,↓cX,↓b5,↓cA,↓cS,↓db,↓aX,↓aO,↓aY,↓aJ,↓aH,↓aZ,↓cN,↓bV,↓b2,↓cj,↓ck,↓cl,↓cm,↓cn,↓co,↓cp,↓cq,↓dy,↓dz,↓dh,↓dJ,↓cy,↓cz,↓cK,↓dl,bW,dQ,b6,decide_eq_false_iff_not,ite_not,↓reduceIte,a8,aG,ba,bz,bf,bT,cx,Nat.reduceAdd,bC,↓bi,Nat.reduceLeDiff,aB,cT,cW,dF,dw,bS,eq_false h,Bt];simp -implicitDefEqProofs only[bW] at he;rw[ih r,he];simp [pc]
 |succ n Z=>
  intro k dc he;have h:(k:Int)<(a.length:Int):=by omega
  have pd:=fun(k:be)=>(M.oy r.oy).get (T:=aR) (G:=G) (X:=X) .i64 n (by omega) k
  have y:=fun(k:be)=>(U.oy r.oy).get (T:=aR) (G:=G) (X:=X) .i64 n (by omega) k
  have A:=fun(S:ag) (k:be)=>M.len (T:=aR) (G:=G) (X:=X) k S
  have F:=fun(S:ag) (k:be)=>jM (T:=aR) (G:=G) (X:=X) (s:=S) (k:=k) a.length (by omega) (by omega)
  have u:=fun(S:ag) (lz:be)=>mS (T:=aR) (G:=G) (X:=X) (s:=S) (k:=lz) (a.length-1) k (by omega) (by omega)
  have aa:=fun(S:ag) (lz:be)=>mr (T:=aR) (G:=G) (X:=X) (s:=S) (k:=lz) k (by omega)
  have ab:a.length-1-k=n:=by omega
  simp -implicitDefEqProofs only[ab] at u;have H:=l4 a n (by omega);have I:=l4 b n (by omega);have N:=kV a n (by omega);have O:=kV b n (by omega);have ac:=hP (a.take n) (V.take n);have ad:=hP (b.take n) (Y.take n);have af:(a.take n).length=n:=by simp;omega
  have ah:(b.take n).length=n:=by simp;omega
  rw[af] at ac;rw[ah] at ad;rw[tc];simp -implicitDefEqProofs only[↓cI,↓cM,↓bU,↓bk,↓aA,↓aD,↓aw,↓aE,↓aM,↓aN,↓ax,↓aF,↓aC,↓aT,↓aW,↓bc,↓dI,↓az,↓bs,↓b0,↓c1,↓b7,↓b8,↓b1,↓b9,↓ca,↓cb,↓cc,↓cd,↓cf,↓bu,↓bw,↓bx,↓c2,↓c3,↓c4,↓c5,↓c6,↓c7,↓c8,↓c9,↓da,↓cg,↓ch,↓ci,↓bl,↓cF,↓br,↓cX,↓b5,↓cA,↓cS,↓db,↓aX,↓aO,↓aY,↓aJ,↓aH,↓aZ,↓cN,↓bV,↓b2,↓cj,↓ck,↓cl,↓cm,↓cn,↓co,↓cp,↓cq,↓dy,↓dz,↓dh,↓dJ,↓cy,↓cz,↓cK,↓dl,bW,dQ,b6,decide_eq_false_iff_not,ite_not,↓reduceIte,a8,aG,ba,bz,bf,bT,cx,Nat.reduceAdd,bC,↓bi,Nat.reduceLeDiff,aB,cT,cW,dF,dw,bS,eq_true h];rw[Bs];by_cases e:a.getD n 0=b.getD n 0
  ·have hR:((a.getD n 0:Nat):Int)=((b.getD n 0:Nat):Int):=by omega
   simp -implicitDefEqProofs only[↓cI,↓cM,↓bU,↓bk,↓aA,↓aD,↓aw,↓aE,↓aM,↓aN,↓ax,↓aF,↓aC,↓aT,↓aW,↓bc,↓dI,↓az,↓bs,↓b0,↓c1,↓b7,↓b8,↓b1,↓b9,↓ca,↓cb,↓cc,↓cd,↓cf,↓bu,↓bw,↓bx,↓c2,↓c3,↓c4,↓c5,↓c6,↓c7,↓c8,↓c9,↓da,↓cg,↓ch,↓ci,↓bl,↓cF,↓br,↓cX,↓b5,↓cA,↓cS,↓db,↓aX,↓aO,↓aY,↓aJ,↓aH,↓aZ,↓cN,↓bV,↓b2,↓cj,↓ck,↓cl,↓cm,↓cn,↓co,↓cp,↓cq,↓dy,↓dz,↓dh,↓dJ,↓cy,↓cz,↓cK,↓dl,bW,dQ,b6,decide_eq_false_iff_not,ite_not,↓reduceIte,a8,aG,ba,bz,bf,bT,cx,Nat.reduceAdd,bC,↓bi,Nat.reduceLeDiff,aB,cT,cW,dF,dw,bS,↓A,↓F,↓u,↓pd,↓y,hR,not_true_eq_false];rw[Br,aa];exact Z (k+1) (by omega) (by rw[H,I,e,he])
  ·have hR:¬((a.getD n 0:Nat):Int)=((b.getD n 0:Nat):Int):=by omega
   by_cases ai:a.getD n 0<b.getD n 0
   ·have J:((a.getD n 0:Nat):Int)<((b.getD n 0:Nat):Int):=by omega
    simp -implicitDefEqProofs only[↓cI,↓cM,↓bU,↓bk,↓aA,↓aD,↓aw,↓aE,↓aM,↓aN,↓ax,↓aF,↓aC,↓aT,↓aW,↓bc,↓dI,↓az,↓bs,↓b0,↓c1,↓b7,↓b8,↓b1,↓b9,↓ca,↓cb,↓cc,↓cd,↓cf,↓bu,↓bw,↓bx,↓c2,↓c3,↓c4,↓c5,↓c6,↓c7,↓c8,↓c9,↓da,↓cg,↓ch,↓ci,↓bl,↓cF,↓br,↓cX,↓b5,↓cA,↓cS,↓db,↓aX,↓aO,↓aY,↓aJ,↓aH,↓aZ,↓cN,↓bV,↓b2,↓cj,↓ck,↓cl,↓cm,↓cn,↓co,↓cp,↓cq,↓dy,↓dz,↓dh,↓dJ,↓cy,↓cz,↓cK,↓dl,bW,dQ,b6,decide_eq_false_iff_not,ite_not,↓reduceIte,a8,aG,ba,bz,bf,bT,cx,Nat.reduceAdd,bC,↓bi,Nat.reduceLeDiff,aB,cT,cW,dF,dw,bS,↓A,↓F,↓u,↓pd,↓y,eq_false hR,not_false_eq_true,eq_true J];rw[ih r]
    have:val a<val b:=by
     rw[N,O];have ar:val (a.drop n)+1≤val (b.drop n):=by rw[H,I,he];omega
     have av:=Nat.mul_le_mul_left (B^n) ar;rw[fy,Nat.mul_one] at av;omega
    simp [pc,this]
   ·have J:¬((a.getD n 0:Nat):Int)<((b.getD n 0:Nat):Int):=by omega
    simp -implicitDefEqProofs only[↓cI,↓cM,↓bU,↓bk,↓aA,↓aD,↓aw,↓aE,↓aM,↓aN,↓ax,↓aF,↓aC,↓aT,↓aW,↓bc,↓dI,↓az,↓bs,↓b0,↓c1,↓b7,↓b8,↓b1,↓b9,↓ca,↓cb,↓cc,↓cd,↓cf,↓bu,↓bw,↓bx,↓c2,↓c3,↓c4,↓c5,↓c6,↓c7,↓c8,↓c9,↓da,↓cg,↓ch,↓ci,↓bl,↓cF,↓br,↓cX,↓b5,↓cA,↓cS,↓db,↓aX,↓aO,↓aY,↓aJ,↓aH,↓aZ,↓cN,↓bV,↓b2,↓cj,↓ck,↓cl,↓cm,↓cn,↓co,↓cp,↓cq,↓dy,↓dz,↓dh,↓dJ,↓cy,↓cz,↓cK,↓dl,bW,dQ,b6,decide_eq_false_iff_not,ite_not,↓reduceIte,a8,aG,ba,bz,bf,bT,cx,Nat.reduceAdd,bC,↓bi,Nat.reduceLeDiff,aB,cT,cW,dF,dw,bS,↓A,↓F,↓u,↓pd,↓y,eq_false hR,not_false_eq_true,eq_false J,Bq];rw[ih r]
    have:val b<val a:=by
     rw[N,O];have ar:val (b.drop n)+1≤val (a.drop n):=by rw[H,I,he];omega
     have av:=Nat.mul_le_mul_left (B^n) ar;rw[fy,Nat.mul_one] at av;omega
    simp [pc,this,Nat.not_lt.2 (Nat.le_of_lt this)]
theorem N7(s:ag)(r u:ae)(a b:List Nat)(B:lN s r a)(F:lN s u b)(H:dL a)(I:dL b)(J:e6 a)(K:e6 b)(gU:a.length<9223372036854775807)(M:b.length<9223372036854775807):
  aP aR G X 133 [r,u] s=.ok (.int .i64 (pc (val a) (val b))) s:=by
 rw[Ey,NQ];have h:=fun(S:ag) (k:be)=>B.len (T:=aR) (G:=G) (X:=X) k S
 have y:=fun(S:ag) (k:be)=>F.len (T:=aR) (G:=G) (X:=X) k S
 by_cases e:a.length=b.length
 ·have hR:(a.length:Int)=(b.length:Int):=by omega
  simp -implicitDefEqProofs only[↓cI,↓cM,↓bU,↓bk,↓aA,↓aD,↓aw,↓aE,↓aM,↓aN,↓ax,↓aF,↓aC,↓aT,↓aW,↓bc,↓dI,↓az,↓bs,↓b0,↓c1,↓b7,↓b8,↓b1,↓b9,↓ca,↓cb,↓cc,↓cd,↓cf,↓bu,↓bw,↓bx,↓c2,↓c3,↓c4,↓c5,↓c6,↓c7,↓c8,↓c9,↓da,↓cg,↓ch,↓ci,↓bl,↓cF,↓br,↓cX,↓b5,↓cA,↓cS,↓db,↓aX,↓aO,↓aY,↓aJ,↓aH,↓aZ,↓cN,↓bV,↓b2,↓cj,↓ck,↓cl,↓cm,↓cn,↓co,↓cp,↓cq,↓dy,↓dz,↓dh,↓dJ,↓cy,↓cz,↓cK,↓dl,bW,dQ,b6,decide_eq_false_iff_not,ite_not,↓reduceIte,a8,aG,ba,bz,bf,bT,cx,Nat.reduceAdd,bC,↓bi,Nat.reduceLeDiff,aB,cT,cW,dF,dw,bS,↓h,↓y,eq_true hR,not_true_eq_false];rw[Bu,h];exact Cc G X s r u a b B F H I e gU s.aj (.aj s) a.length 0 (by omega) (by rw[List.drop_length,e,List.drop_length])
 ·have hR:¬(a.length:Int)=(b.length:Int):=by omega
  by_cases L:a.length<b.length
  ·have A:(a.length:Int)<(b.length:Int):=by omega
   have:=nI H K L;simp -implicitDefEqProofs only[↓cI,↓cM,↓bU,↓bk,↓aA,↓aD,↓aw,↓aE,↓aM,↓aN,↓ax,↓aF,↓aC,↓aT,↓aW,↓bc,↓dI,↓az,↓bs,↓b0,↓c1,↓b7,↓b8,↓b1,↓b9,↓ca,↓cb,↓cc,↓cd,↓cf,↓bu,↓bw,↓bx,↓c2,↓c3,↓c4,↓c5,↓c6,↓c7,↓c8,↓c9,↓da,↓cg,↓ch,↓ci,↓bl,↓cF,↓br,↓cX,↓b5,↓cA,↓cS,↓db,↓aX,↓aO,↓aY,↓aJ,↓aH,↓aZ,↓cN,↓bV,↓b2,↓cj,↓ck,↓cl,↓cm,↓cn,↓co,↓cp,↓cq,↓dy,↓dz,↓dh,↓dJ,↓cy,↓cz,↓cK,↓dl,bW,dQ,b6,decide_eq_false_iff_not,ite_not,↓reduceIte,a8,aG,ba,bz,bf,bT,cx,Nat.reduceAdd,bC,↓bi,Nat.reduceLeDiff,aB,cT,cW,dF,dw,bS,↓h,↓y,eq_false hR,not_false_eq_true,eq_true A];simp [pc,this]
  ·have A:¬(a.length:Int)<(b.length:Int):=by omega
   have:=nI I J (by omega:b.length<a.length);simp -implicitDefEqProofs only[↓cI,↓cM,↓bU,↓bk,↓aA,↓aD,↓aw,↓aE,↓aM,↓aN,↓ax,↓aF,↓aC,↓aT,↓aW,↓bc,↓dI,↓az,↓bs,↓b0,↓c1,↓b7,↓b8,↓b1,↓b9,↓ca,↓cb,↓cc,↓cd,↓cf,↓bu,↓bw,↓bx,↓c2,↓c3,↓c4,↓c5,↓c6,↓c7,↓c8,↓c9,↓da,↓cg,↓ch,↓ci,↓bl,↓cF,↓br,↓cX,↓b5,↓cA,↓cS,↓db,↓aX,↓aO,↓aY,↓aJ,↓aH,↓aZ,↓cN,↓bV,↓b2,↓cj,↓ck,↓cl,↓cm,↓cn,↓co,↓cp,↓cq,↓dy,↓dz,↓dh,↓dJ,↓cy,↓cz,↓cK,↓dl,bW,dQ,b6,decide_eq_false_iff_not,ite_not,↓reduceIte,a8,aG,ba,bz,bf,bT,cx,Nat.reduceAdd,bC,↓bi,Nat.reduceLeDiff,aB,cT,cW,dF,dw,bS,↓h,↓y,eq_false hR,not_false_eq_true,eq_false A,Bp];simp [pc,this,Nat.not_lt.2 (Nat.le_of_lt this)]
def lX(x:Nat):Nat:=if x=0 then 0 else x.log2+1
theorem abB:∀x,x<256→lX x≤8∧x<2^lX x∧(x≠0→2^lX x≤2*x):=by decide +kernel
theorem Ji{s:ag}{k:be}(fb:List Nat)(ek:IntKind)(i n:Nat)(h:fb[i]? =some n):(a0 aR G X).hk s k (.str fb) (.int ek (i:Int))=k (.int .u8 (n:Int)) s:=by show h0 (gz G (aP aR G X) bL) s k (.str fb) (.int ek (i:Int))=_;unfold h0;simp -implicitDefEqProofs only[g5,h];rfl
theorem ts(s:ag)(x m:Nat)(a9:x<256)(hm:m≤24):∃n:Nat,o8 (a0 aR G X) (.int .u32 (x:Int)) (.int .i64 (m:Int)) s.aj=.ok (.int .i64 ((m+n:Nat):Int)) s∧n≤8∧x<2^n∧(x≠0→2^n≤2*x):=by
 obtain⟨av,bO⟩:=abB x a9;refine⟨lX x,?_,av,bO⟩;have Fu:∀(S:ag) (k:be),(a0 aR G X).b4 S k .u8 (.int .u32 (x:Int))=k (.int .u8 (x:Int)) S:=fun S k=>by
  show k (.int .u8 (IntKind.wrap .u8 (x:Int))) S=_
  have:IntKind.wrap .u8 (x:Int)=(x:Int):=by unfold IntKind.wrap;simp -implicitDefEqProofs only[show IntKind.bits .u8=8 from rfl,show IntKind.signed .u8=false from rfl,fx];show(x:Int)%256=x;omega
  rw[this]
 have e:∀(S:ag) (k:be),(a0 aR G X).b4 S k .i64 (.int .u8 (lX x:Int))=k (.int .i64 (lX x:Int)) S:=fun S k=>by show k (.int .i64 (IntKind.wrap .i64 (lX x:Int))) S=_;rw[eK _ (by omega) (by omega)]
 have h:=fun(S:ag) (k:be)=>im (T:=aR) (G:=G) (X:=X) (s:=S) (k:=k) m (lX x) (by omega)
 rw[BR,Fu];refine(Ji G X _ _ x (lX x) ?_).trans ?_
 ·clear h e Fu bO av
  revert x
  decide +kernel
 ·rw[e,h,aJ]
theorem N8(s:ag)(x:Nat)(a9:x<4294967296):∃n:Nat,aP aR G X 111 [U x] s=.ok (.int .i64 (n:Int)) s∧n≤32∧x<2^n∧(x≠0→2^n≤2*x):=by
 rw[EG,NY];have h:=fun(S:ag) (k:be)=>vl (T:=aR) (G:=G) (X:=X) (s:=S) (k:=k) .u64 x 16 (by omega)
 have e:∀y m:Nat,y<65536→m≤16→∃n:Nat,nF (a0 aR G X) (.int .u32 (y:Int)) (.int .i64 (m:Int)) s.aj=.ok (.int .i64 ((m+n:Nat):Int)) s∧n≤16∧y<2^n∧(y≠0→2^n≤2*y):=fun y m eQ hm=>by
  have r:=fun(S:ag) (k:be)=>vl (T:=aR) (G:=G) (X:=X) (s:=S) (k:=k) .u64 y 8 (by omega)
  have u:=fun(S:ag) (k:be)=>im (T:=aR) (G:=G) (X:=X) (s:=S) (k:=k) m 8 (by omega)
  rw[BS];by_cases c:256≤y
  ·have nK:(256:Int)≤(y:Int):=by omega
   obtain⟨n,ar,av,bO,dD⟩:=ts G X s (y/2^8) (m+8) (by omega) (by omega);refine⟨n+8,?_,by omega,?_,fun eJ=>?_⟩
   ·have dM:(a0 aR G X).ai s.aj (fun v10 s=>(a0 aR G X).ai s (fun A s=>o8 (a0 aR G X) v10 A s) (al .add (.int .i64 (m:Int)) (.int .i64 8))) (al .shr (.int .u32 (y:Int)) (.int .u64 8))=.ok (.int .i64 ((m+(n+8):Nat):Int)) s:=by
     refine(r _ _).trans ?_;refine(u _ _).trans ?_;rw[ar];congr 3;omega
    simp -implicitDefEqProofs only[↓cI,↓cM,↓bU,↓bk,↓aA,↓aD,↓aw,↓aE,↓aM,↓aN,↓ax,↓aF,↓aC,↓aT,↓aW,↓bc,↓dI,↓az,↓bs,↓b0,↓c1,↓b7,↓b8,↓b1,↓b9,↓ca,↓cb,↓cc,↓cd,↓cf,↓bu,↓bw,↓bx,↓c2,↓c3,↓c4,↓c5,↓c6,↓c7,↓c8,↓c9,↓da,↓cg,↓ch,↓ci,↓bl,↓cF,↓br,↓cX,↓b5,↓cA,↓cS,↓db,↓aX,↓aO,↓aY,↓aJ,↓aH,↓aZ,↓cN,↓bV,↓b2,↓cj,↓ck,↓cl,↓cm,↓cn,↓co,↓cp,↓cq,↓dy,↓dz,↓dh,↓dJ,↓cy,↓cz,↓cK,↓dl,bW,dQ,b6,decide_eq_false_iff_not,ite_not,↓reduceIte,a8,aG,ba,bz,bf,bT,cx,Nat.reduceAdd,bC,↓bi,Nat.reduceLeDiff,aB,cT,cW,dF,dw,bS,eq_true nK,dM]
   ·rw[Nat.pow_add];omega
   ·rw[Nat.pow_add];omega
  ·have nK:¬(256:Int)≤(y:Int):=by omega
   obtain⟨n,ar,av,bO,dD⟩:=ts G X s y m (by omega) (by omega);refine⟨n,?_,by omega,bO,dD⟩;simp -implicitDefEqProofs only[↓cI,↓cM,↓bU,↓bk,↓aA,↓aD,↓aw,↓aE,↓aM,↓aN,↓ax,↓aF,↓aC,↓aT,↓aW,↓bc,↓dI,↓az,↓bs,↓b0,↓c1,↓b7,↓b8,↓b1,↓b9,↓ca,↓cb,↓cc,↓cd,↓cf,↓bu,↓bw,↓bx,↓c2,↓c3,↓c4,↓c5,↓c6,↓c7,↓c8,↓c9,↓da,↓cg,↓ch,↓ci,↓bl,↓cF,↓br,↓cX,↓b5,↓cA,↓cS,↓db,↓aX,↓aO,↓aY,↓aJ,↓aH,↓aZ,↓cN,↓bV,↓b2,↓cj,↓ck,↓cl,↓cm,↓cn,↓co,↓cp,↓cq,↓dy,↓dz,↓dh,↓dJ,↓cy,↓cz,↓cK,↓dl,bW,dQ,b6,decide_eq_false_iff_not,ite_not,↓reduceIte,a8,aG,ba,bz,bf,bT,cx,Nat.reduceAdd,bC,↓bi,Nat.reduceLeDiff,aB,cT,cW,dF,dw,bS,eq_false nK,ar]
 by_cases c:65536≤x
 ·have nK:(65536:Int)≤(x:Int):=by omega
  obtain⟨n,ar,av,bO,dD⟩:=e (x/2^16) 16 (by omega) (by omega);refine⟨16+n,?_,by omega,?_,fun eJ=>?_⟩
  ·have dM:(a0 aR G X).ai s.aj (fun v6 s=>nF (a0 aR G X) v6 (.int .i64 16) s) (al .shr (.int .u32 (x:Int)) (.int .u64 16))=.ok (.int .i64 ((16+n:Nat):Int)) s:=by
    refine(h _ _).trans ?_;exact ar
   simp -implicitDefEqProofs only[↓cI,↓cM,↓bU,↓bk,↓aA,↓aD,↓aw,↓aE,↓aM,↓aN,↓ax,↓aF,↓aC,↓aT,↓aW,↓bc,↓dI,↓az,↓bs,↓b0,↓c1,↓b7,↓b8,↓b1,↓b9,↓ca,↓cb,↓cc,↓cd,↓cf,↓bu,↓bw,↓bx,↓c2,↓c3,↓c4,↓c5,↓c6,↓c7,↓c8,↓c9,↓da,↓cg,↓ch,↓ci,↓bl,↓cF,↓br,↓cX,↓b5,↓cA,↓cS,↓db,↓aX,↓aO,↓aY,↓aJ,↓aH,↓aZ,↓cN,↓bV,↓b2,↓cj,↓ck,↓cl,↓cm,↓cn,↓co,↓cp,↓cq,↓dy,↓dz,↓dh,↓dJ,↓cy,↓cz,↓cK,↓dl,bW,dQ,b6,decide_eq_false_iff_not,ite_not,↓reduceIte,a8,aG,ba,bz,bf,bT,cx,Nat.reduceAdd,bC,↓bi,Nat.reduceLeDiff,aB,cT,cW,dF,dw,bS,eq_true nK,dM]
   try rfl
  ·rw[Nat.pow_add];omega
  ·rw[Nat.pow_add];omega
 ·have nK:¬(65536:Int)≤(x:Int):=by omega
  obtain⟨n,ar,av,bO,dD⟩:=e x 0 (by omega) (by omega);refine⟨n,?_,by omega,bO,dD⟩;rw[bf] at ar;have B:nF (a0 aR G X) (.int .u32 (x:Int)) (.int .i64 0) s.aj=.ok (.int .i64 (n:Int)) s:=ar;simp -implicitDefEqProofs only[↓cI,↓cM,↓bU,↓bk,↓aA,↓aD,↓aw,↓aE,↓aM,↓aN,↓ax,↓aF,↓aC,↓aT,↓aW,↓bc,↓dI,↓az,↓bs,↓b0,↓c1,↓b7,↓b8,↓b1,↓b9,↓ca,↓cb,↓cc,↓cd,↓cf,↓bu,↓bw,↓bx,↓c2,↓c3,↓c4,↓c5,↓c6,↓c7,↓c8,↓c9,↓da,↓cg,↓ch,↓ci,↓bl,↓cF,↓br,↓cX,↓b5,↓cA,↓cS,↓db,↓aX,↓aO,↓aY,↓aJ,↓aH,↓aZ,↓cN,↓bV,↓b2,↓cj,↓ck,↓cl,↓cm,↓cn,↓co,↓cp,↓cq,↓dy,↓dz,↓dh,↓dJ,↓cy,↓cz,↓cK,↓dl,bW,dQ,b6,decide_eq_false_iff_not,ite_not,↓reduceIte,a8,aG,ba,bz,bf,bT,cx,Nat.reduceAdd,bC,↓bi,Nat.reduceLeDiff,aB,cT,cW,dF,dw,bS,eq_false nK,B]
theorem N9(s:ag)(x:Nat)(a9:x<4294967296)(eJ:x≠0):∃c:Nat,aP aR G X 136 [U x] s=.ok (.int .i64 (c:Int)) s∧c<32∧2147483648≤x*2^c∧x*2^c<4294967296:=by
 obtain⟨n,ar,av,bO,dD⟩:=N8 G X s.aj x a9;have h:=dD eJ;have dk:n≠0:=fun e=>by subst e;omega
 have u:2^n*2^(32-n)=4294967296:=by rw[←Nat.pow_add,show n+(32-n)=32 by omega]
 refine⟨32-n,?_,by omega,?_,?_⟩
 ·have r:=fun(S:ag) (k:be)=>mS (T:=aR) (G:=G) (X:=X) (s:=S) (k:=k) 32 n av (by omega)
  rw[EB,NT,aG,bd ar];refine(r _ _).trans ?_;rw[aJ]
 ·have:=fO (2^(32-n)) h;rw[gH] at this;omega
 ·have:=Nat.mul_lt_mul_of_pos_right bO (Nat.two_pow_pos (32-n));omega
theorem Cd(s:ag)(u:ae)(a:List Nat)(d:Nat)(y:lN s u a)(A:dL a)(cR:d≠0)(L:d<4294967296)(gU:a.length<9223372036854775807)(j:Nat):∀n k rest out S,k+n=a.length→Child s S→gQ S j out→out.length=a.length→dL out→rest<d→val (a.drop n)=val (out.drop n)*d+rest→
  ∃v q,rz (a0 aR G X) u (.int .u32 (d:Int)) (.cZ (.l j) 0 a.length a.length 1) (.int .u64 (rest:Int)) (.int .i64 (a.length:Int)) (.int .i64 (k:Int)) S=.ok (.eb [v,.int .u32 ((val a%d:Nat):Int)]) s∧jz v q∧dL q∧e6 q∧val q=val a/d:=by
 intro n
 induction n with
 |zero=>
  intro k rest out S dc e df bK r aQ bJ;have h:¬((k:Int)<(a.length:Int)):=by omega
  have M:rest%4294967296=rest:=by omega
  rw[td];simp -implicitDefEqProofs only[↓cI,↓cM,↓bU,↓bk,↓aA,↓aD,↓aw,↓aE,↓aM,↓aN,↓ax,↓aF,↓aC,↓aT,↓aW,↓bc,↓dI,↓az,↓bs,↓b0,↓c1,↓b7,↓b8,↓b1,↓b9,↓ca,↓cb,↓cc,↓cd,↓cf,↓bu,↓bw,↓bx,↓c2,↓c3,↓c4,↓c5,↓c6,↓c7,↓c8,↓c9,↓da,↓cg,↓ch,↓ci,↓bl,↓cF,↓br,↓cX,↓b5,↓cA,↓cS,↓db,↓aX,↓aO,↓aY,↓aJ,↓aH,↓aZ,↓cN,↓bV,↓b2,↓cj,↓ck,↓cl,↓cm,↓cn,↓co,↓cp,↓cq,↓dy,↓dz,↓dh,↓dJ,↓cy,↓cz,↓cK,↓dl,bW,dQ,b6,decide_eq_false_iff_not,ite_not,↓reduceIte,a8,aG,ba,bz,bf,bT,cx,Nat.reduceAdd,bC,↓bi,Nat.reduceLeDiff,aB,cT,cW,dF,dw,bS,eq_false h,Bx,io,M];obtain⟨v,f1,f2⟩:=v5 G X e df a.length bK.symm (by omega) (.int .u32 (rest:Int)) rfl;simp -implicitDefEqProofs only[bW] at bJ;refine⟨v,f3 out,?_,f1,ll r,jc out,?_⟩
  ·rw[f2,bJ,et,Nat.mul_add_mod,hl aQ]
  ·rw[j6,bJ,et,Nat.mul_add_div (by omega),Nat.div_eq_of_lt aQ,Nat.add_zero]
 |succ n N=>
  intro k rest out S dc e df bK r aQ bJ;have h:(k:Int)<(a.length:Int):=by omega
  obtain⟨B,F,H,I⟩:=B9 a out n d rest cR (by omega) bK A r aQ bJ;have a9:=A.getD n;rw[kE] at B F H I a9;have pd:=fun(k:be)=>(y.oy e.oy).get (T:=aR) (G:=G) (X:=X) .i64 n (by omega) k
  have gP:=fun x (k:be)=>df.gP (T:=aR) (G:=G) (X:=X) n a.length a.length x (by omega) (by omega) k
  have O:=fun(S:ag) (k:be)=>y.len (T:=aR) (G:=G) (X:=X) k S
  have U:=fun(S:ag) (k:be)=>jM (T:=aR) (G:=G) (X:=X) (s:=S) (k:=k) a.length (by omega) (by omega)
  have J:=fun(S:ag) (lz:be)=>mS (T:=aR) (G:=G) (X:=X) (s:=S) (k:=lz) (a.length-1) k (by omega) (by omega)
  have V:=fun(S:ag) (lz:be)=>mr (T:=aR) (G:=G) (X:=X) (s:=S) (k:=lz) k (by omega)
  have Y:a.length-1-k=n:=by omega
  simp -implicitDefEqProofs only[Y] at J;have Z:rest*4294967296%18446744073709551616=rest*4294967296:=by omega
  have aa:=fun(S:ag) (k:be)=>hN (T:=aR) (G:=G) (X:=X) (s:=S) (k:=k) (a.getD n 0) a9
  have K:=fun(S:ag) (k:be)=>hN (T:=aR) (G:=G) (X:=X) (s:=S) (k:=k) d L
  have gN:=fun(S:ag) (k:be)=>vm (T:=aR) (G:=G) (X:=X) (s:=S) (k:=k) rest (a.getD n 0) a9 (by omega)
  have d1:=fun(S:ag) (k:be)=>Fv (T:=aR) (G:=G) (X:=X) (s:=S) (k:=k) (rest*4294967296+a.getD n 0) d cR (by omega)
  have d2:=fun(S:ag) (k:be)=>yH (T:=aR) (G:=G) (X:=X) (s:=S) (k:=k) (rest*4294967296+a.getD n 0) d cR
  have em:(rest*4294967296+a.getD n 0)/d%4294967296=(rest*4294967296+a.getD n 0)/d:=hl B;rw[td];simp -implicitDefEqProofs only[↓cI,↓cM,↓bU,↓bk,↓aA,↓aD,↓aw,↓aE,↓aM,↓aN,↓ax,↓aF,↓aC,↓aT,↓aW,↓bc,↓dI,↓az,↓bs,↓b0,↓c1,↓b7,↓b8,↓b1,↓b9,↓ca,↓cb,↓cc,↓cd,↓cf,↓bu,↓bw,↓bx,↓c2,↓c3,↓c4,↓c5,↓c6,↓c7,↓c8,↓c9,↓da,↓cg,↓ch,↓ci,↓bl,↓cF,↓br,↓cX,↓b5,↓cA,↓cS,↓db,↓aX,↓aO,↓aY,↓aJ,↓aH,↓aZ,↓cN,↓bV,↓b2,↓cj,↓ck,↓cl,↓cm,↓cn,↓co,↓cp,↓cq,↓dy,↓dz,↓dh,↓dJ,↓cy,↓cz,↓cK,↓dl,bW,dQ,b6,decide_eq_false_iff_not,ite_not,↓reduceIte,a8,aG,ba,bz,bf,bT,cx,Nat.reduceAdd,bC,↓bi,Nat.reduceLeDiff,aB,cT,cW,dF,dw,bS,eq_true h];rw[Bw,O,U,J,cy,Z,pd,aa,gN,K,d1,dl,em];simp -implicitDefEqProofs only[aG];rw[gP,K,d2,Bv,V];exact N (k+1) _ _ _ (by omega) (e.put _ _) (df.put _) (by simp [bK]) F H I
theorem Oa(s:ag)(e:ae)(a:List Nat)(d:Nat)(r:lN s e a)(y:dL a)(cR:d≠0)(A:d<4294967296)(gU:a.length<4294967296):
  ∃v q,aP aR G X 134 [e,U d] s=.ok (.eb [v,.int .u32 ((val a%d:Nat):Int)]) s∧jz v q∧dL q∧e6 q∧val q=val a/d:=by
 rw[Ez,NR];have u:=fun(S:ag) (k:be)=>r.len (T:=aR) (G:=G) (X:=X) k S
 have B:=fun(S:ag) (k:be)=>po (T:=aR) (G:=G) (X:=X) (s:=S) (k:=k) (U 0) 4 a.length a.length (aB _) (by omega)
 rw[u];refine Exists.imp (fun v h=>Exists.imp (fun q h=>?_) h) (Cd G X s e a d r y cR A (by omega) _ a.length 0 0 _ _ (by omega) ((Child.aj s).new (.cells (List.replicate a.length (U 0)))) (gQ.make _ _) (by simp) (pb _) (by omega) (by rw[List.drop_length,l5 (by simp)];simp [val]));refine⟨?_,h.2⟩;refine(B _ _).trans ?_;rw[u];exact h.1
theorem Ob(a b:Nat)(e:a<4294967296)(h:b<4294967296):((BitVec.ofInt 32 (a:Int) ||| BitVec.ofInt 32 (b:Int)).toNat:Int)=((a ||| b:Nat):Int):=by
 rw[BitVec.toNat_or];simp -implicitDefEqProofs only[BitVec.toNat_ofInt];congr 1;have ar:(((a:Int)%((2^32:Nat):Int))).toNat=a:=by omega
 have av:(((b:Int)%((2^32:Nat):Int))).toNat=b:=by omega
 rw[ar,av]
theorem UH{s:ag}{k:be}(c y q p:Nat)(a1:c<2^p)(eQ:y=q*2^p)(gr:q*2^p+c<4294967296):(a0 aR G X).ai s k (al .or (.int .u32 (c:Int)) (.int .u32 (y:Int)))=k (.int .u32 ((c+y:Nat):Int)) s:=by
 subst eQ;have e:al .or (.int .u32 (c:Int)) (.int .u32 ((q*2^p:Nat):Int))=some (.int .u32 (IntKind.wrap .u32 ((BitVec.ofInt 32 (c:Int) ||| BitVec.ofInt 32 ((q*2^p:Nat):Int)).toNat:Int))):=by simp -implicitDefEqProofs only[al,gj,↓reduceIte];rfl
 rw[e,Ob _ _ (by omega) (by omega),cM,wrap_u32];congr 2
 have:c ||| q*2^p=c+q*2^p:=by rw[Nat.or_comm,et,←Nat.two_pow_add_eq_or_of_lt a1,Nat.add_comm]
 rw[this];omega
theorem Ce(s:ag)(F:ae)(l:List Nat)(n:Nat)(M:lN s F l)(u:dL l)(dk:n<4294967296)(gU:l.length<4294967296)(j N:Nat)(pR:N=l.length+n/32+1):∀m i out S,i+m=l.length→Child s S→gQ S j out→out.length=N→dL out→val (out.take (i+n/32+1))=val (l.take i)*2^(32*(n/32)+n%32)→out.getD (i+n/32) 0<2^(n%32)→
  ∃v q,rD (a0 aR G X) F (.int .i64 (n:Int)) (.cZ (.l j) 0 N N 1) (.int .i64 (l.length:Int)) (.int .i64 (i:Int)) S=.ok v s∧jz v q∧dL q∧e6 q∧val q=val l*2^n:=by
 intro m
 induction m with
 |zero=>
  intro i out S bY r df bK A bJ a1;have h:¬((i:Int)<(l.length:Int)):=by omega
  rw[tf];simp -implicitDefEqProofs only[↓cI,↓cM,↓bU,↓bk,↓aA,↓aD,↓aw,↓aE,↓aM,↓aN,↓ax,↓aF,↓aC,↓aT,↓aW,↓bc,↓dI,↓az,↓bs,↓b0,↓c1,↓b7,↓b8,↓b1,↓b9,↓ca,↓cb,↓cc,↓cd,↓cf,↓bu,↓bw,↓bx,↓c2,↓c3,↓c4,↓c5,↓c6,↓c7,↓c8,↓c9,↓da,↓cg,↓ch,↓ci,↓bl,↓cF,↓br,↓cX,↓b5,↓cA,↓cS,↓db,↓aX,↓aO,↓aY,↓aJ,↓aH,↓aZ,↓cN,↓bV,↓b2,↓cj,↓ck,↓cl,↓cm,↓cn,↓co,↓cp,↓cq,↓dy,↓dz,↓dh,↓dJ,↓cy,↓cz,↓cK,↓dl,bW,dQ,b6,decide_eq_false_iff_not,ite_not,↓reduceIte,a8,aG,ba,bz,bf,bT,cx,Nat.reduceAdd,bC,↓bi,Nat.reduceLeDiff,aB,cT,cW,dF,dw,bS,eq_false h,BC,io];obtain⟨v,f1,f2⟩:=Jh G X r df N bK.symm (by omega);refine⟨v,f3 out,f2,f1,ll A,jc out,?_⟩;have dM:i=l.length:=by omega
  rw[dM] at bJ;rw[j6,←List.take_length (l:=out),bK,pR,bJ,List.take_length,Nat.div_add_mod]
 |succ m O=>
  intro i out S bY r df bK A bJ a1;have h:(i:Int)<(l.length:Int):=by omega
  have aQ:n%32<32:=Nat.mod_lt _ (by omega);obtain⟨q,H,U⟩:=xM (l.getD i 0) (n%32) aQ;have I:=xN (l.getD i 0) (n%32) (u.getD i) aQ;have e:=EP l out i (n/32) (n%32) aQ (by omega) (by omega) A u bJ a1 _ rfl _ rfl;simp -implicitDefEqProofs only[] at e;have a9:=u.getD i;have V:B=4294967296:=rfl;have ai:2^(n%32)≤2^32:=Nat.pow_le_pow_right (by omega) (by omega);rw[V] at H U I e a9;generalize Y:l.getD i 0=x at *;have pd:=fun(k:be)=>(M.oy r.oy).get (T:=aR) (G:=G) (X:=X) .i64 i (by omega) k
  rw[Y] at pd;have Z:=fun(S:ag) (k:be)=>hN (T:=aR) (G:=G) (X:=X) (s:=S) (k:=k) x a9
  have px:=fun(S:ag) (k:be)=>su (T:=aR) (G:=G) (X:=X) (s:=S) (k:=k) n
  have J:=fun(S:ag) (k:be)=>st (T:=aR) (G:=G) (X:=X) (s:=S) (k:=k) n (by omega)
  have s1:=fun(S:ag) (k:be)=>yI (T:=aR) (G:=G) (X:=X) (s:=S) (k:=k) .i64 x (n%32) (by omega)
  have es:x*2^(n%32)%18446744073709551616=x*2^(n%32):=hl I.2;have K:=fun(S:ag) (k:be)=>im (T:=aR) (G:=G) (X:=X) (s:=S) (k:=k) i (n/32) (by omega)
  have aa:=fun S k=>nh G X S k (i+n/32) (by omega)
  have ab:=fun S k=>nh G X S k i (by omega)
  have hb:=fun(k:be)=>df.get (T:=aR) (G:=G) (X:=X) (i+n/32) N N (by omega) (by omega) k
  have gN:=fun(S:ag) (k:be)=>UH G X (s:=S) (k:=k) (out.getD (i+n/32) 0) (x*2^(n%32)%4294967296) q (n%32) a1 H (by omega)
  have ac:=fun y (k:be)=>df.gP (T:=aR) (G:=G) (X:=X) (i+n/32) N N y (by omega) (by omega) k
  have L:=df.put (out.set (i+n/32) (out.getD (i+n/32) 0+x*2^(n%32)%4294967296));have ad:=fun y (k:be)=>L.gP (T:=aR) (G:=G) (X:=X) (i+n/32+1) N N y (by simp;omega) (by omega) k
  have af:x*2^(n%32)/4294967296%4294967296=x*2^(n%32)/4294967296:=hl (by omega);have ah:=L.put ((out.set (i+n/32) (out.getD (i+n/32) 0+x*2^(n%32)%4294967296)).set (i+n/32+1) (x*2^(n%32)/4294967296))
  have:=O (i+1) _ _ (by omega) ((r.put _ _).put _ _) ah (by simp [bK]) e.1 e.2.2.1 e.2.2.2;refine Exists.imp (fun v av=>Exists.imp (fun q bO=>⟨?_,bO.2⟩) av) this;rw[tf];simp -implicitDefEqProofs only[↓cI,↓cM,↓bU,↓bk,↓aA,↓aD,↓aw,↓aE,↓aM,↓aN,↓ax,↓aF,↓aC,↓aT,↓aW,↓bc,↓dI,↓az,↓bs,↓b0,↓c1,↓b7,↓b8,↓b1,↓b9,↓ca,↓cb,↓cc,↓cd,↓cf,↓bu,↓bw,↓bx,↓c2,↓c3,↓c4,↓c5,↓c6,↓c7,↓c8,↓c9,↓da,↓cg,↓ch,↓ci,↓bl,↓cF,↓br,↓cX,↓b5,↓cA,↓cS,↓db,↓aX,↓aO,↓aY,↓aJ,↓aH,↓aZ,↓cN,↓bV,↓b2,↓cj,↓ck,↓cl,↓cm,↓cn,↓co,↓cp,↓cq,↓dy,↓dz,↓dh,↓dJ,↓cy,↓cz,↓cK,↓dl,bW,dQ,b6,decide_eq_false_iff_not,ite_not,↓reduceIte,a8,aG,ba,bz,bf,bT,cx,Nat.reduceAdd,bC,↓bi,Nat.reduceLeDiff,aB,cT,cW,dF,dw,bS,eq_true h];rw[BB,pd,Z,px,s1,es,J,K,hb,dl,gN];simp -implicitDefEqProofs only[aG];rw[ac,J,K,aa,cz,dl,af];simp -implicitDefEqProofs only[aG];rw[ad,BA,ab];exact bO.1
theorem Cf(s:ag)(e:ae)(l:List Nat)(n:Nat)(h:lN s e l)(u:dL l)(dk:n<4294967296)(gU:l.length<4294967296):
  ∃v q,aP aR G X 137 [e,.int .i64 (n:Int)] s=.ok v s∧jz v q∧dL q∧e6 q∧val q=val l*2^n:=by
 rw[EC,NU];have r:=fun(S:ag) (k:be)=>h.len (T:=aR) (G:=G) (X:=X) k S
 have y:=fun(S:ag) (k:be)=>st (T:=aR) (G:=G) (X:=X) (s:=S) (k:=k) n (by omega)
 have A:=fun(S:ag) (k:be)=>im (T:=aR) (G:=G) (X:=X) (s:=S) (k:=k) l.length (n/32) (by omega)
 have B:=fun S k=>nh G X S k (l.length+n/32) (by omega)
 have F:=fun(S:ag) (k:be)=>po (T:=aR) (G:=G) (X:=X) (s:=S) (k:=k) (U 0) 4 (l.length+n/32+1) (l.length+n/32+1) (aB _) (by omega)
 have H:∀m i,(List.replicate m 0).getD i 0=0:=fun m i=>by simp -implicitDefEqProofs only[List.getD,List.getElem?_replicate];split<;> rfl
 have I:=Ce G X s e l n h u dk gU s.aj.own.length _ rfl l.length 0 _ _ (by omega) ((Child.aj s).new (.cells (List.replicate (l.length+n/32+1) (U 0)))) (gQ.make _ _) (by simp) (pb _) (by rw[List.take_replicate,B8];simp [val]) (by rw[H];exact Nat.two_pow_pos _);refine Exists.imp (fun v av=>Exists.imp (fun q bO=>⟨?_,bO.2⟩) av) I;rw[r,y,A,B];refine(F _ _).trans ?_;rw[r];exact bO.1
end Go.gR
end
section
namespace Go.hO
def kW(a b:Nat):Nat:=(((a:Int)-(b:Int))%18446744073709551616).toNat
theorem xO(u p c:Nat)(hu:u<4294967296)(fp:p<4294967296)(a1:c≤4294967296)(e:p+c≤4294967296):kW (kW u p) c%4294967296+p+c=u+4294967296*(kW (kW u p) c/9223372036854775808)∧kW (kW u p) c/9223372036854775808≤1:=by unfold kW;omega
theorem v7(l:List Nat)(j i:Nat):(l.drop j).getD i 0=l.getD (j+i) 0:=by simp [List.getD,List.getElem?_drop]
def e0(l:List Nat)(j i:Nat):Nat:=val ((l.drop j).take i)
theorem xP(l:List Nat)(j:Nat):e0 l j 0=0:=by simp [e0,val]
theorem fW(l:List Nat)(j i:Nat)(h:j+i<l.length):e0 l j (i+1)=e0 l j i+B^i*l.getD (j+i) 0:=by unfold e0;rw[val_succ _ i (by simp;omega),v7]
theorem rW(l:List Nat)(j i k x:Nat)(h:j+i≤k):e0 (l.set k x) j i=e0 l j i:=by
 unfold e0;rw[List.drop_set];split
 ·rfl
 ·rw[lR (by omega)]
theorem zm(vs:List Nat)(i:Nat):e0 vs 0 i=val (vs.take i):=by simp [e0]
theorem rX(l:List Nat)(j n:Nat)(h:j+n≤l.length):val (l.drop j)=e0 l j n+B^n*val (l.drop (j+n)):=by have:=kV (l.drop j) n (by simp;omega);rw[this,List.drop_drop];rfl
theorem rY(l:List Nat)(j i:Nat)(h:dL l):e0 l j i<B^i:=by
 have:=hP ((l.drop j).take i) ((h.drop j).take i);have av:((l.drop j).take i).length≤i:=by simp;omega
 exact fX this (od av)
theorem EQ(dm gF vs:List Nat)(j i q carry e:Nat)(gr:q<B)(bY:i<vs.length)(df:j+i<dm.length)(lq:dL vs)(A:dL dm)(a1:carry<B)(J:e≤1)(H:dm.getD (j+i) 0=gF.getD (j+i) 0)(bK:dm.length=gF.length)
  (bJ:e0 dm j i+q*e0 vs 0 i=e0 gF j i+(carry+e)*B^i):
  let p:=q*vs.getD i 0+carry
  let t:=kW (kW (dm.getD (j+i) 0) (p%B)) e
  p<18446744073709551616∧p/B<B∧t/9223372036854775808≤1∧t%B<B∧dL (dm.set (j+i) (t%B))∧e0 (dm.set (j+i) (t%B)) j (i+1)+q*e0 vs 0 (i+1)=e0 gF j (i+1)+(p/B+t/9223372036854775808)*B^(i+1):=by
 have K:=lq.getD i;have fp:q*vs.getD i 0+carry<B*B:=by
  have ar:q*vs.getD i 0≤(B-1)*(B-1):=Nat.mul_le_mul (by omega) (by omega);have av:(B-1)*(B-1)+B≤B*B:=by decide
  omega
 have L:B*B=18446744073709551616:=by decide
 have cR:=xO (dm.getD (j+i) 0) ((q*vs.getD i 0+carry)%B) e (A.getD _) (Nat.mod_lt _ g8) (by have:=kE;omega) (by have:=Nat.mod_lt (q*vs.getD i 0+carry) g8;rw[kE] at this ⊢;omega);have F:kW (kW (dm.getD (j+i) 0) ((q*vs.getD i 0+carry)%B)) e%B<B:=Nat.mod_lt _ g8;refine⟨by omega,by rw[Nat.div_lt_iff_lt_mul g8];exact fp,cR.2,F,A.set _ _ F,?_⟩;rw[fW _ _ _ (by simpa using df),rW _ _ _ _ _ (aB _),fJ df,fW vs 0 i (by omega),fW gF j i (by omega),bf,←H];have hm:=Nat.mod_add_div (q*vs.getD i 0+carry) B;rw[←kE] at cR;generalize kW (kW (dm.getD (j+i) 0) ((q*vs.getD i 0+carry)%B)) e=t at *;generalize t/9223372036854775808=h at *;generalize t%B=y at *;generalize M:(q*vs.getD i 0+carry)%B=pl at *;generalize (q*vs.getD i 0+carry)/B=r at *;generalize dm.getD (j+i) 0=u at *;have key:y+q*vs.getD i 0+carry+e=u+(r+h)*B:=by rw[e5,et r B,et h B];omega
 have pI:B^i*(y+q*vs.getD i 0+carry+e)=B^i*(u+(r+h)*B):=by rw[key]
 have dM:B^i*(y+q*vs.getD i 0+carry+e)=B^i*y+q*(B^i*vs.getD i 0)+(carry+e)*B^i:=by rw[show y+q*vs.getD i 0+carry+e=y+(q*vs.getD i 0+(carry+e)) from by omega,fy,fy,Nat.mul_left_comm,et (B^i) (carry+e)];omega
 have I:B^i*(u+(r+h)*B)=B^i*u+(r+h)*B^(i+1):=by rw[fy,Nat.pow_succ,Nat.mul_left_comm]
 rw[dM,I] at pI;rw[fy];generalize (r+h)*B^(i+1)=N at *;generalize (carry+e)*B^i=O at *;generalize q*(B^i*vs.getD i 0)=U at *;generalize q*e0 vs 0 i=V at *;omega
theorem ER(dm gF vs:List Nat)(j i carry:Nat)(bY:i<vs.length)(df:j+i<dm.length)(lq:dL vs)(h:dL dm)(a1:carry≤1)(r:dm.getD (j+i) 0=gF.getD (j+i) 0)(bK:dm.length=gF.length)
  (bJ:e0 dm j i+carry*B^i=e0 gF j i+e0 vs 0 i):
  let t:=dm.getD (j+i) 0+vs.getD i 0+carry
  t<18446744073709551616∧t/B≤1∧dL (dm.set (j+i) (t%B))∧e0 (dm.set (j+i) (t%B)) j (i+1)+t/B*B^(i+1)=e0 gF j (i+1)+e0 vs 0 (i+1):=by
 have H:=lq.getD i;have I:=h.getD (j+i);have J:=kE;have A:(dm.getD (j+i) 0+vs.getD i 0+carry)%B<B:=Nat.mod_lt _ g8;refine⟨by omega,?_,h.set _ _ A,?_⟩
 ·have:(dm.getD (j+i) 0+vs.getD i 0+carry)/B<2:=by rw[Nat.div_lt_iff_lt_mul g8];omega
  omega
 rw[fW _ _ _ (by simpa using df),rW _ _ _ _ _ (aB _),fJ df,fW vs 0 i (by omega),fW gF j i (by omega),bf,←r];have hm:=Nat.mod_add_div (dm.getD (j+i) 0+vs.getD i 0+carry) B;generalize (dm.getD (j+i) 0+vs.getD i 0+carry)%B=y at *;generalize (dm.getD (j+i) 0+vs.getD i 0+carry)/B=e at *;generalize dm.getD (j+i) 0=u at *;generalize vs.getD i 0=v at *;have pI:B^i*(y+B*e)=B^i*(u+v+carry):=by rw[hm]
 have dM:B^i*(y+B*e)=B^i*y+e*B^(i+1):=by rw[fy,Nat.pow_succ,et e,gH]
 have F:B^i*(u+v+carry)=B^i*u+B^i*v+carry*B^i:=by rw[fy,fy,et carry]
 rw[dM,F] at pI;generalize e*B^(i+1)=K at *;generalize carry*B^i=L at *;omega
theorem Cg(U V q n I h r u y v1 v2:Nat)(O:U=(r*B*B+u*B+y)*B^n+I)(A:V=(v1*B+v2)*B^n+h)(Y:I<B^n)(J:h<B^n)(Z:B≤2*v1)(gr:q<B)(ar:q*(v1*B+v2)≤r*B*B+u*B+y)(av:∀p5,p5<B→p5*(v1*B+v2)≤r*B*B+u*B+y→p5≤q)(K:U<B*V):
  U/V≤q∧q≤U/V+1:=by
 have F:0<V:=by
  have:1≤v1:=by have:=g8;omega
  have bO:1*B≤v1*B:=fO _ this;have dD:1*B^n≤(v1*B+v2)*B^n:=fO _ (by have:=g8;omega)
  have:=Nat.pow_pos (n:=n) g8;omega
 constructor
 ·refine av _ (by rw[Nat.div_lt_iff_lt_mul F];exact K) ?_;have bO:U/V*V≤U:=Nat.div_mul_le_self U V;have dD:U/V*(v1*B+v2)*B^n≤U/V*V:=by
   rw[gH];exact Nat.mul_le_mul_left _ (by omega)
  have H:U/V*(v1*B+v2)*B^n<(r*B*B+u*B+y+1)*B^n:=by rw[e5 _ 1,Nat.one_mul];omega
  have:=Nat.lt_of_mul_lt_mul_right H;omega
 ·have bO:q*V≤U+V:=by
   rw[A,fy,←gH];have dD:q*(v1*B+v2)*B^n≤(r*B*B+u*B+y)*B^n:=fO _ ar;have H:q*h≤B*B^n:=Nat.mul_le_mul (Nat.le_of_lt gr) (Nat.le_of_lt J);have L:B*B^n≤(v1*B+v2)*B^n:=by
    refine fO _ ?_
    have:1*B≤v1*B:=fO _ (by have:=g8;omega);omega
   omega
  have aa:q*V≤(U/V+1)*V+V:=by have:=Nat.div_add_mod U V;have M:=Nat.mod_lt U F;rw[e5,Nat.one_mul,et (U/V)];omega
  have N:q*V<(U/V+2)*V:=by
   rw[A,fy,←gH];have dD:q*(v1*B+v2)*B^n≤(r*B*B+u*B+y)*B^n:=fO _ ar;have H:q*h≤B*h:=fO _ (Nat.le_of_lt gr);have ab:B*h<B*B^n:=Nat.mul_lt_mul_of_pos_left J g8;have L:B*B^n≤(v1*B+v2)*B^n:=by
    refine fO _ ?_
    have:1*B≤v1*B:=fO _ (by have:=g8;omega);omega
   have ac:q*(v1*B+v2)*B^n+q*h<U+V:=by omega
   have ad:=Nat.div_add_mod U V;have M:=Nat.mod_lt U F;rw[←A];have e:(U/V+2)*V=V*(U/V)+V+V:=by rw[e5,et (U/V)];omega
   rw[e];omega
  have:=Nat.lt_of_mul_lt_mul_right N;omega
end Go.hO
namespace Go.hO
theorem Jj(n w x R:Nat)(h:w+B^n*x=B^(n+1)+R)(hw:w<B^n)(e:R<B^n):x=B∧w=R:=by
 rw[Nat.pow_succ] at h;have a9:x=B:=by
  have ar:(w+B^n*x)/B^n=x:=by rw[Nat.add_mul_div_left _ _ (Nat.pow_pos g8),Nat.div_eq_of_lt hw,bf]
  have av:(B^n*B+R)/B^n=B:=by rw[Nat.add_comm,Nat.add_mul_div_left _ _ (Nat.pow_pos g8),Nat.div_eq_of_lt e,bf]
  rw[←ar,h,av]
 subst a9;exact⟨rfl,by omega⟩
theorem rZ(vs:List Nat):val vs=e0 vs 0 vs.length:=by rw[zm,List.take_length]
theorem Ch(x y r:Nat)(aQ:r<32)(a9:x<B):x%2^r+(x+B*y)/2^r%B*2^r=x+B*(y%2^r):=by
 have h:=Nat.two_pow_pos r;have e:B=2^r*2^(32-r):=by rw[←Nat.pow_add,tr];congr 1;omega
 generalize H:(2:Nat)^(32-r)=Q at *;generalize (2:Nat)^r=P at *;have dM:(x+B*y)/P=x/P+Q*y:=by rw[e,gH,Nat.add_mul_div_left _ _ h]
 have I:x/P<Q:=by rw[Nat.div_lt_iff_lt_mul h,et,←e];exact a9
 have u:Q*y=B*(y/P)+Q*(y%P):=by
  conv=>lhs;rw[←Nat.div_add_mod y P]
  rw[fy,e,←gH,et Q P]
 have A:x/P+Q*(y%P)<B:=by have ar:y%P+1≤P:=Nat.mod_lt _ h;have av:=Nat.mul_le_mul_left Q ar;rw[fy,Nat.mul_one,et Q P,←e] at av;omega
 have F:(x+B*y)/P%B=x/P+Q*(y%P):=by rw[dM,u,show x/P+(B*(y/P)+Q*(y%P))=x/P+Q*(y%P)+B*(y/P) by omega,Nat.add_mul_mod_self_left,hl A]
 rw[F,e5,e];have dD:=Nat.mod_add_div x P;have J:Q*(y%P)*P=P*Q*(y%P):=by rw[et,←gH]
 have K:x/P*P=P*(x/P):=et _ _;omega
theorem Ci(l out:List Nat)(w i r:Nat)(aQ:r<32)(e:dL l)(h:dL out)(bY:i<out.length)(bK:w+i<l.length)(bJ:val (out.take i)*2^r+l.getD w 0%2^r=val ((l.drop w).take i)+B^i*(l.getD (w+i) 0%2^r)):
  dL (out.set i ((l.getD (w+i) 0+B*l.getD (w+i+1) 0)/2^r%B))∧val ((out.set i ((l.getD (w+i) 0+B*l.getD (w+i+1) 0)/2^r%B)).take (i+1))*2^r+l.getD w 0%2^r=val ((l.drop w).take (i+1))+B^(i+1)*(l.getD (w+(i+1)) 0%2^r):=by
 refine⟨h.set _ _ (Nat.mod_lt _ g8),?_⟩;have ar:=Ch (l.getD (w+i) 0) (l.getD (w+i+1) 0) r aQ (e.getD _);generalize eQ:(l.getD (w+i) 0+B*l.getD (w+i+1) 0)/2^r%B=y at *;have s1:=val_succ (out.set i y) i (by simpa using bY);have s2:=val_succ (l.drop w) i (by simp;omega);have hb:(out.set i y).getD i 0=y:=fJ bY;rw[v7] at s2;rw[s1,s2,hb,lR (aB _),e5,Nat.pow_succ,←Nat.add_assoc w i 1];have av:B^i*(l.getD (w+i) 0%2^r+y*2^r)=B^i*(l.getD (w+i) 0+B*(l.getD (w+i+1) 0%2^r)):=by rw[ar]
 rw[fy,fy,←gH,←gH] at av;omega
theorem xQ(l:List Nat)(w:Nat)(e:dL l)(h:w≤l.length):val l/B^w=val (l.drop w):=by
 have ar:=kV l w h;have bO:=hP (l.take w) (e.take _);have dD:(l.take w).length=w:=by simp;omega
 rw[dD] at bO;rw[ar,Nat.add_mul_div_left _ _ (Nat.pow_pos g8),Nat.div_eq_of_lt bO,bf]
theorem ES(l out:List Nat)(w r n:Nat)(dk:n=32*w+r)(e:dL l)(hw:w<l.length)(bJ:val out*2^r+l.getD w 0%2^r=val (l.drop w)):val out=val l/2^n:=by rw[dk,←EO,←Nat.div_div_eq_div_mul,xQ l w e (by omega),←bJ,et,Nat.mul_add_div (Nat.two_pow_pos _),Nat.div_eq_of_lt (Nat.mod_lt _ (Nat.two_pow_pos _)),Nat.add_zero]
theorem Cj(l:List Nat)(n:Nat)(e:dL l)(h:l.length≤n/32):val l/2^n=0:=by
 apply Nat.div_eq_of_lt;have ar:=hP l e;have av:B^l.length≤B^(n/32):=od h;have bO:(2:Nat)^n=B^(n/32)*2^(n%32):=by rw[EO,Nat.div_add_mod]
 have dD:B^(n/32)*1≤B^(n/32)*2^(n%32):=Nat.mul_le_mul_left _ (Nat.two_pow_pos _);omega
end Go.hO
end
section
namespace Go.gR
open Go.Ab Go.hO
variable(G:Nat→ae)(X:Nat→List ae→ag→ah)
theorem Oc{s:ag}{k:be}(c q:Nat)(a1:c<4294967296)(gr:q<4294967296):(a0 aR G X).ai s k (al .or (.int .u64 (c:Int)) (.int .u64 ((q*4294967296:Nat):Int)))=k (.int .u64 ((c+4294967296*q:Nat):Int)) s:=by
 have e:al .or (.int .u64 (c:Int)) (.int .u64 ((q*4294967296:Nat):Int))=some (.int .u64 (IntKind.wrap .u64 ((BitVec.ofInt 64 (c:Int) ||| BitVec.ofInt 64 ((q*4294967296:Nat):Int)).toNat:Int))):=by simp -implicitDefEqProofs only[al,gj,↓reduceIte];rfl
 rw[e,C9 _ _ (by omega) (by omega),cM,iI];congr 2
 have:c ||| q*4294967296=c+4294967296*q:=by have h:=Nat.two_pow_add_eq_or_of_lt (i:=32) (b:=c) (by omega) q;rw[Nat.or_comm,et];rw[show(4294967296:Nat)=2^32 from rfl,←h,Nat.add_comm]
 rw[this];omega
theorem ET(ek:IntKind)(a b:Int):∃c,∀(s:ag) (k:be),(a0 aR G X).ai s k (al .and (.int ek a) (.int ek b))=k (.int ek c) s:=by refine⟨ek.wrap (BitVec.ofInt ek.bits a &&& BitVec.ofInt ek.bits b).toNat,fun s k=>?_⟩;rw[show al .and (.int ek a) (.int ek b)=some (.int ek (ek.wrap (BitVec.ofInt ek.bits a &&& BitVec.ofInt ek.bits b).toNat)) from by simp [al,gj]];rfl
theorem Ck(s:ag)(A:ae)(l:List Nat)(n:Nat)(lost:Bool)(F:lN s A l)(r:dL l)(dk:n<4294967296)(gU:l.length<4294967296)(a3:n/32<l.length)(j N:Nat)(pR:N=l.length-n/32):∀m i out S,i+m=N→Child s S→gQ S j out→out.length=N→dL out→
  val (out.take i)*2^(n%32)+l.getD (n/32) 0%2^(n%32)=val ((l.drop (n/32)).take i)+B^i*(l.getD (n/32+i) 0%2^(n%32))→
  ∃v q,o7 (a0 aR G X) A (.int .i64 (n:Int)) (.int .i64 ((n/32:Nat):Int)) (.bool lost) (.cZ (.l j) 0 N N 1) (.int .i64 (N:Int)) (.int .i64 (i:Int)) S=.ok (.eb [v,.bool lost]) s∧jz v q∧dL q∧e6 q∧val q=val l/2^n:=by
 intro m
 induction m with
 |zero=>
  intro i out S bY e df bK H bJ;have h:¬((i:Int)<(N:Int)):=by omega
  rw[tj];simp -implicitDefEqProofs only[↓cI,↓cM,↓bU,↓bk,↓aA,↓aD,↓aw,↓aE,↓aM,↓aN,↓ax,↓aF,↓aC,↓aT,↓aW,↓bc,↓dI,↓az,↓bs,↓b0,↓c1,↓b7,↓b8,↓b1,↓b9,↓ca,↓cb,↓cc,↓cd,↓cf,↓bu,↓bw,↓bx,↓c2,↓c3,↓c4,↓c5,↓c6,↓c7,↓c8,↓c9,↓da,↓cg,↓ch,↓ci,↓bl,↓cF,↓br,↓cX,↓b5,↓cA,↓cS,↓db,↓aX,↓aO,↓aY,↓aJ,↓aH,↓aZ,↓cN,↓bV,↓b2,↓cj,↓ck,↓cl,↓cm,↓cn,↓co,↓cp,↓cq,↓dy,↓dz,↓dh,↓dJ,↓cy,↓cz,↓cK,↓dl,bW,dQ,b6,decide_eq_false_iff_not,ite_not,↓reduceIte,a8,aG,ba,bz,bf,bT,cx,Nat.reduceAdd,bC,↓bi,Nat.reduceLeDiff,aB,cT,cW,dF,dw,bS,eq_false h,BP,io];obtain⟨v,f1,f2⟩:=v5 G X e df N bK.symm (by omega) (.bool lost) rfl;refine⟨v,f3 out,f2,f1,ll H,jc out,?_⟩;rw[j6];have nV:l.getD (n/32+i) 0=0:=by simp -implicitDefEqProofs only[List.getD];rw[List.getElem?_eq_none (by omega)];rfl
  rw[nV,Nat.zero_mod,Nat.mul_zero,Nat.add_zero,jr (by omega),jr (by simp;omega)] at bJ;exact ES l out (n/32) (n%32) n (Nat.div_add_mod n 32).symm r a3 bJ
 |succ m L=>
  intro i out S bY e df bK H bJ;have h:(i:Int)<(N:Int):=by omega
  have aQ:n%32<32:=Nat.mod_lt _ (by omega);have K:=Ci l out (n/32) i (n%32) aQ r H (by omega) (by omega) bJ;have a9:=r.getD (n/32+i);have eQ:=r.getD (n/32+i+1);have M:B=4294967296:=rfl;rw[M] at a9 eQ;have pd:=fun(k:be)=>(F.oy e.oy).get (T:=aR) (G:=G) (X:=X) .i64 (n/32+i) (by omega) k
  have O:=fun(S:ag) (k:be)=>hN (T:=aR) (G:=G) (X:=X) (s:=S) (k:=k) (l.getD (n/32+i) 0) a9
  have U:=fun(S:ag) (k:be)=>hN (T:=aR) (G:=G) (X:=X) (s:=S) (k:=k) (l.getD (n/32+i+1) 0) eQ
  have px:=fun(S:ag) (k:be)=>su (T:=aR) (G:=G) (X:=X) (s:=S) (k:=k) n
  have V:=fun(S:ag) (k:be)=>F.len (T:=aR) (G:=G) (X:=X) k S
  have u:=fun(S:ag) (k:be)=>im (T:=aR) (G:=G) (X:=X) (s:=S) (k:=k) i (n/32) (by omega)
  have I:=fun S k=>nh G X S k (i+n/32) (by omega)
  have Y:=fun S k=>nh G X S k i (by omega)
  have Z:i+n/32=n/32+i:=Nat.add_comm _ _;simp -implicitDefEqProofs only[Z] at u I;have aa:=fun y (k:be)=>df.gP (T:=aR) (G:=G) (X:=X) i N N y (by omega) (by omega) k
  have s1:=fun t (S:ag) (k:be)=>yJ (T:=aR) (G:=G) (X:=X) (s:=S) (k:=k) .i64 t (n%32) (by omega)
  have this:=L (i+1) _ _ (by omega) (e.put _ _) (df.put (out.set i ((l.getD (n/32+i) 0+B*l.getD (n/32+i+1) 0)/2^(n%32)%B))) (by simp [bK]) K.1 K.2;refine Exists.imp (fun v av=>Exists.imp (fun q bO=>⟨?_,bO.2⟩) av) this;have J:rI (a0 aR G X) A (.int .i64 (n:Int)) (.int .i64 ((n/32:Nat):Int)) (.bool lost) (.cZ (.l j) 0 N N 1) (.int .i64 (i:Int)) (.int .u64 ((l.getD (n/32+i) 0+4294967296*l.getD (n/32+i+1) 0:Nat):Int)) (.int .i64 (N:Int)) (.int .i64 (i:Int)) S=.ok (.eb [v,.bool lost]) s:=by rw[BN,px,s1,dl];simp -implicitDefEqProofs only[aG];rw[aa,BM,Y];exact bO.1
  rw[tj];simp -implicitDefEqProofs only[↓cI,↓cM,↓bU,↓bk,↓aA,↓aD,↓aw,↓aE,↓aM,↓aN,↓ax,↓aF,↓aC,↓aT,↓aW,↓bc,↓dI,↓az,↓bs,↓b0,↓c1,↓b7,↓b8,↓b1,↓b9,↓ca,↓cb,↓cc,↓cd,↓cf,↓bu,↓bw,↓bx,↓c2,↓c3,↓c4,↓c5,↓c6,↓c7,↓c8,↓c9,↓da,↓cg,↓ch,↓ci,↓bl,↓cF,↓br,↓cX,↓b5,↓cA,↓cS,↓db,↓aX,↓aO,↓aY,↓aJ,↓aH,↓aZ,↓cN,↓bV,↓b2,↓cj,↓ck,↓cl,↓cm,↓cn,↓co,↓cp,↓cq,↓dy,↓dz,↓dh,↓dJ,↓cy,↓cz,↓cK,↓dl,bW,dQ,b6,decide_eq_false_iff_not,ite_not,↓reduceIte,a8,aG,ba,bz,bf,bT,cx,Nat.reduceAdd,bC,↓bi,Nat.reduceLeDiff,aB,cT,cW,dF,dw,bS,eq_true h];rw[BO,u,pd,O,u,I,V,br,bk];by_cases ab:n/32+i+1<l.length
  ·have ac:=fun(k:be)=>(F.oy e.oy).get (T:=aR) (G:=G) (X:=X) .i64 (n/32+i+1) ab k
   have gN:=fun(S:ag) (k:be)=>Oc G X (s:=S) (k:=k) (l.getD (n/32+i) 0) (l.getD (n/32+i+1) 0) a9 eQ
   have es:l.getD (n/32+i+1) 0*4294967296%18446744073709551616=l.getD (n/32+i+1) 0*4294967296:=hl (by omega);rw[if_pos (by simp -implicitDefEqProofs only[b6];omega),u,I,ac,U,cy,es,gN];exact J
  ·rw[if_neg (by simp -implicitDefEqProofs only[b6];omega)];have nV:l.getD (n/32+i+1) 0=0:=by simp -implicitDefEqProofs only[List.getD];rw[List.getElem?_eq_none (by omega)];rfl
   rw[nV,Nat.mul_zero,Nat.add_zero] at J;exact J
theorem Od(s:ag)(e:ae)(l:List Nat)(n:Nat)(r:lN s e l)(A:dL l)(dk:n<4294967296)(gU:l.length<4294967296):
  ∃v q lost,aP aR G X 140 [e,.int .i64 (n:Int)] s=.ok (.eb [v,.bool lost]) s∧jz v q∧dL q∧e6 q∧val q=val l/2^n:=by
 rw[EF,NX];have u:=fun(S:ag) (k:be)=>r.len (T:=aR) (G:=G) (X:=X) k S
 have B:=fun(S:ag) (k:be)=>st (T:=aR) (G:=G) (X:=X) (s:=S) (k:=k) n (by omega)
 by_cases a3:n/32<l.length
 ·have h:¬((l.length:Int)≤((n/32:Nat):Int)):=by omega
  rw[B,u,cA,bk,if_neg (by simpa using h)];have ju:=Child.aj s;have y:=r.cut (n/32) (by omega);have hlen:(l.take (n/32)).length=n/32:=by simp;omega
  have I:=mw G X s.aj (o1 e (n/32)) (l.take (n/32)) (y.oy ju.oy) (by rw[hlen];omega);have J:=y.cut (g9 (l.take (n/32)) (l.take (n/32)).length) (jn _ _);have K:=fun(S:ag) (k:be)=>J.len (T:=aR) (G:=G) (X:=X) k S
  have L:=fun(S:ag) (k:be)=>mS (T:=aR) (G:=G) (X:=X) (s:=S) (k:=k) l.length (n/32) (by omega) (by omega)
  have M:=fun(S:ag) (k:be)=>po (T:=aR) (G:=G) (X:=X) (s:=S) (k:=k) (U 0) 4 (l.length-n/32) (l.length-n/32) (aB _) (by omega)
  have fin:∀lost,∃v q,(a0 aR G X).cU s.aj (fun N s=>(a0 aR G X).ai s (fun F s=>(a0 aR G X).k7 s (fun H s=>(a0 aR G X).cU s (fun O s=>o7 (a0 aR G X) e (.int .i64 (n:Int)) (.int .i64 ((n/32:Nat):Int)) (.bool lost) H O (.int .i64 0) s) false H) [.int .u32 0] 4 F F) (al .sub N (.int .i64 ((n/32:Nat):Int)))) false e=.ok (.eb [v,.bool lost]) s∧jz v q∧dL q∧e6 q∧val q=val l/2^n:=fun lost=>by have V:=Ck G X s e l n lost r A dk gU a3 s.aj.own.length _ rfl (l.length-n/32) 0 _ _ (by omega) (ju.new (.cells (List.replicate (l.length-n/32) (U 0)))) (gQ.make _ _) (by simp) (pb _) (by simp [val]);refine Exists.imp (fun v av=>Exists.imp (fun q bO=>⟨?_,bO.2⟩) av) V;rw[u,L];refine(M _ _).trans ?_;rw[aT];exact bO.1
  have pd:=fun(k:be)=>(r.oy ju.oy).get (T:=aR) (G:=G) (X:=X) .i64 (n/32) a3 k
  have px:=fun(S:ag) (k:be)=>su (T:=aR) (G:=G) (X:=X) (s:=S) (k:=k) n
  have s1:∀(S:ag) (k:be),(a0 aR G X).ai S k (al .shl (.int .u32 1) (.int .i64 ((n%32:Nat):Int)))=k (.int .u32 ((1*2^(n%32)%4294967296:Nat):Int)) S:=fun S k=>C8 .i64 1 (n%32) (by omega)
  obtain⟨c,a1⟩:=ET G X .u32 ((l.getD (n/32) 0:Nat):Int) (IntKind.wrap .u32 (((1*2^(n%32)%4294967296:Nat):Int)-1));have cr:=fun(k:be) (S:ag)=>r.slice (T:=aR) (G:=G) (X:=X) (n/32) (by omega) k S
  rw[BQ,cr,(y.ap _),bd I,K,b5];by_cases eJ:(0:Int)<(((l.take (n/32)).take (g9 (l.take (n/32)) (l.take (n/32)).length)).length:Int)
  ·obtain⟨v,q,ar,av⟩:=fin true;refine⟨v,q,true,?_,av⟩;simp -implicitDefEqProofs only[↓cI,↓cM,↓bU,↓bk,↓aA,↓aD,↓aw,↓aE,↓aM,↓aN,↓ax,↓aF,↓aC,↓aT,↓aW,↓bc,↓dI,↓az,↓bs,↓b0,↓c1,↓b7,↓b8,↓b1,↓b9,↓ca,↓cb,↓cc,↓cd,↓cf,↓bu,↓bw,↓bx,↓c2,↓c3,↓c4,↓c5,↓c6,↓c7,↓c8,↓c9,↓da,↓cg,↓ch,↓ci,↓bl,↓cF,↓br,↓cX,↓b5,↓cA,↓cS,↓db,↓aX,↓aO,↓aY,↓aJ,↓aH,↓aZ,↓cN,↓bV,↓b2,↓cj,↓ck,↓cl,↓cm,↓cn,↓co,↓cp,↓cq,↓dy,↓dz,↓dh,↓dJ,↓cy,↓cz,↓cK,↓dl,bW,dQ,b6,decide_eq_false_iff_not,ite_not,↓reduceIte,a8,aG,ba,bz,bf,bT,cx,Nat.reduceAdd,bC,↓bi,Nat.reduceLeDiff,aB,cT,cW,dF,dw,bS,eq_true eJ];simpa only[↓cI,↓cM,↓bU,↓bk,↓aA,↓aD,↓aw,↓aE,↓aM,↓aN,↓ax,↓aF,↓aC,↓aT,↓aW,↓bc,↓dI,↓az,↓bs,↓b0,↓c1,↓b7,↓b8,↓b1,↓b9,↓ca,↓cb,↓cc,↓cd,↓cf,↓bu,↓bw,↓bx,↓c2,↓c3,↓c4,↓c5,↓c6,↓c7,↓c8,↓c9,↓da,↓cg,↓ch,↓ci,↓bl,↓cF,↓br,↓cX,↓b5,↓cA,↓cS,↓db,↓aX,↓aO,↓aY,↓aJ,↓aH,↓aZ,↓cN,↓bV,↓b2,↓cj,↓ck,↓cl,↓cm,↓cn,↓co,↓cp,↓cq,↓dy,↓dz,↓dh,↓dJ,↓cy,↓cz,↓cK,↓dl,bW,dQ,b6,decide_eq_false_iff_not,ite_not,↓reduceIte,a8,aG,ba,bz,bf,bT,cx,Nat.reduceAdd,bC,↓bi,Nat.reduceLeDiff,aB,cT,cW,dF,dw,bS] using ar
  ·obtain⟨v,q,ar,av⟩:=fin (decide (¬c=0));refine⟨v,q,decide (¬c=0),?_,av⟩;simp -implicitDefEqProofs only[↓cI,↓cM,↓bU,↓bk,↓aA,↓aD,↓aw,↓aE,↓aM,↓aN,↓ax,↓aF,↓aC,↓aT,↓aW,↓bc,↓dI,↓az,↓bs,↓b0,↓c1,↓b7,↓b8,↓b1,↓b9,↓ca,↓cb,↓cc,↓cd,↓cf,↓bu,↓bw,↓bx,↓c2,↓c3,↓c4,↓c5,↓c6,↓c7,↓c8,↓c9,↓da,↓cg,↓ch,↓ci,↓bl,↓cF,↓br,↓cX,↓b5,↓cA,↓cS,↓db,↓aX,↓aO,↓aY,↓aJ,↓aH,↓aZ,↓cN,↓bV,↓b2,↓cj,↓ck,↓cl,↓cm,↓cn,↓co,↓cp,↓cq,↓dy,↓dz,↓dh,↓dJ,↓cy,↓cz,↓cK,↓dl,bW,dQ,b6,decide_eq_false_iff_not,ite_not,↓reduceIte,a8,aG,ba,bz,bf,bT,cx,Nat.reduceAdd,bC,↓bi,Nat.reduceLeDiff,aB,cT,cW,dF,dw,bS,eq_false eJ,↓pd,↓px,↓s1,↓fA,↓a1];simpa only[↓cI,↓cM,↓bU,↓bk,↓aA,↓aD,↓aw,↓aE,↓aM,↓aN,↓ax,↓aF,↓aC,↓aT,↓aW,↓bc,↓dI,↓az,↓bs,↓b0,↓c1,↓b7,↓b8,↓b1,↓b9,↓ca,↓cb,↓cc,↓cd,↓cf,↓bu,↓bw,↓bx,↓c2,↓c3,↓c4,↓c5,↓c6,↓c7,↓c8,↓c9,↓da,↓cg,↓ch,↓ci,↓bl,↓cF,↓br,↓cX,↓b5,↓cA,↓cS,↓db,↓aX,↓aO,↓aY,↓aJ,↓aH,↓aZ,↓cN,↓bV,↓b2,↓cj,↓ck,↓cl,↓cm,↓cn,↓co,↓cp,↓cq,↓dy,↓dz,↓dh,↓dJ,↓cy,↓cz,↓cK,↓dl,bW,dQ,b6,decide_eq_false_iff_not,ite_not,↓reduceIte,a8,aG,ba,bz,bf,bT,cx,Nat.reduceAdd,bC,↓bi,Nat.reduceLeDiff,aB,cT,cW,dF,dw,bS] using ar
 ·have h:(l.length:Int)≤((n/32:Nat):Int):=by omega
  refine⟨.cr 1 [] .nil,[],decide ((0:Int)<(l.length:Int)),?_,jz.nil,(fun x (h:x∈[])=>absurd h p3:dL []),(fun h=>absurd rfl h:e6 []),?_⟩
  ·rw[B,u,cA,bk,if_pos (by simpa using h),u,b5];exact km (.aj s) _ _ _ _ rfl rfl
  ·rw[Cj l n A (by omega)];rfl
structure Z4 (q X Y:Nat):Prop where
 lt:q<B
 le:q*Y≤X
 max:∀p5,p5<B→p5*Y≤X→p5≤q
theorem Oe(q:Nat)(h:0<q)(av:q<18446744073709551616):rl q 1=q-1:=by unfold rl;omega
theorem Cl(s:ag)(J oJ:ae)(dm vs:List Nat)(j:Nat)(hu:lN s J dm)(bJ:lN s oJ vs)(K:dL dm)(lq:dL vs)(dk:2≤vs.length)(df:j+vs.length<dm.length)(gU:dm.length<4294967296)
  (ao:B≤2*vs.getD (vs.length-1) 0)(U:dm.getD (j+vs.length) 0≤vs.getD (vs.length-1) 0)(S:ag)(F:Child s S):∀(m q r:Nat),r+m=B→0<m→
  q*vs.getD (vs.length-1) 0+r=dm.getD (j+vs.length) 0*B+dm.getD (j+vs.length-1) 0→
  (∀p5,p5<B→p5*(vs.getD (vs.length-1) 0*B+vs.getD (vs.length-2) 0)≤dm.getD (j+vs.length) 0*B*B+dm.getD (j+vs.length-1) 0*B+dm.getD (j+vs.length-2) 0→p5≤q)→
  ∃u:Nat,rG (a0 aR G X) J (.int .i64 (j:Int)) oJ (.int .i64 (vs.length:Int)) (.int .u64 (q:Int)) (.int .u64 (r:Int)) S=.ok (.int .u64 (u:Int)) s∧
   Z4 u (dm.getD (j+vs.length) 0*B*B+dm.getD (j+vs.length-1) 0*B+dm.getD (j+vs.length-2) 0) (vs.getD (vs.length-1) 0*B+vs.getD (vs.length-2) 0):=by
 have ap:=kE;have bQ:=K.getD (j+vs.length);have aq:=K.getD (j+vs.length-1);have as:=K.getD (j+vs.length-2);have pt:=lq.getD (vs.length-1);have au:=lq.getD (vs.length-2);obtain⟨aw,V,Y⟩:=(hu.oy F.oy).ptr (T:=aR) (G:=G) (X:=X) .i64 (j+vs.length-2) (by omega);obtain⟨ax,Z,aa⟩:=(bJ.oy F.oy).ptr (T:=aR) (G:=G) (X:=X) .i64 (vs.length-2) (by omega);have mF:=fun(k:be)=>(bJ.oy F.oy).get (T:=aR) (G:=G) (X:=X) .i64 (vs.length-1) (by omega) k
 have i1:=fun(S:ag) (k:be)=>jM (T:=aR) (G:=G) (X:=X) (s:=S) (k:=k) vs.length (by omega) (by have:=hu.len (T:=aR) (G:=G) (X:=X);omega)
 have i2:=fun(S:ag) (k:be)=>z7 (T:=aR) (G:=G) (X:=X) (s:=S) (k:=k) vs.length (by omega) (by omega)
 have i3:=fun(S:ag) (k:be)=>im (T:=aR) (G:=G) (X:=X) (s:=S) (k:=k) j vs.length (by omega)
 have i4:=fun(S:ag) (k:be)=>z7 (T:=aR) (G:=G) (X:=X) (s:=S) (k:=k) (j+vs.length) (by omega) (by omega)
 generalize dm.getD (j+vs.length) 0=A at *;generalize dm.getD (j+vs.length-1) 0=I at *;generalize dm.getD (j+vs.length-2) 0=y at *;generalize vs.getD (vs.length-1) 0=v1 at *;generalize vs.getD (vs.length-2) 0=v2 at *;have cu:=fun(S:ag) (k:be)=>hN (T:=aR) (G:=G) (X:=X) (s:=S) (k:=k) y (by omega)
 have ab:=fun(S:ag) (k:be)=>hN (T:=aR) (G:=G) (X:=X) (s:=S) (k:=k) v2 (by omega)
 have ac:=fun(S:ag) (k:be)=>hN (T:=aR) (G:=G) (X:=X) (s:=S) (k:=k) v1 (by omega)
 intro m
 induction m using Nat.strongRecOn with
 |ind m al=>
  intro q r hm kB gr ad;have ay:r<B:=by omega
  have kA:A*B*B+I*B+y=q*v1*B+r*B+y:=by rw[←e5,←e5,gr]
  have az:q≤B+1:=by
   have ar:A*B≤v1*B:=fO _ U;have av:q*v1<(B+2)*v1:=by rw[e5,et B v1];omega
   have:=Nat.lt_of_mul_lt_mul_right av;omega
  have down:0<q→(∀p5,p5<B→p5*(v1*B+v2)≤A*B*B+I*B+y→p5≤q-1)→∃u:Nat,vy (a0 aR G X) J (.int .i64 (j:Int)) oJ (.int .i64 (vs.length:Int)) (.int .u64 (q:Int)) (.int .u64 (r:Int)) S=.ok (.int .u64 (u:Int)) s∧Z4 u (A*B*B+I*B+y) (v1*B+v2):=fun eJ af=>by
   have ah:(q-1)*v1+(r+v1)=A*B+I:=by
    have:(q-1)*v1+v1=q*v1:=by rw[←Nat.succ_mul];congr 1;omega
    omega
   have ai:(r+v1)%18446744073709551616=r+v1:=hl (by omega);have dM:=Oe q eJ (by omega);rw[BK];by_cases am:B≤r+v1
   ·have L:(4294967296:Int)≤((r+v1:Nat):Int):=by omega
    refine⟨q-1,?_,?_,?_,af⟩
    ·rw[dh,dM,i1,mF,ac,dy,ai,cA,bk,if_pos (by simpa using L),ti];exact ih F _ _
    ·
     by_cases H:q≤B
     ·omega
     ·exfalso;have M:q=B+1:=by omega
      rw[M,e5,Nat.one_mul] at gr;have ar:A*B≤v1*B:=fO _ U;rw[et v1 B] at ar;omega
    ·rw[kA];have H:q-1≤B:=by omega
     have M:(q-1)*v2≤B*B:=Nat.mul_le_mul H (by omega);have aj:B*B≤(r+v1)*B:=fO _ am;have aA:(q-1)*(v1*B+v2)=(q-1)*v1*B+(q-1)*v2:=by rw[fy,gH]
     have aB:(q-1)*v1*B+(r+v1)*B=q*v1*B+r*B:=by rw[←e5,ah,←gr,e5]
     omega
   ·have L:¬(4294967296:Int)≤((r+v1:Nat):Int):=by omega
    have aC:0<v1:=by omega
    obtain⟨u,ar,av⟩:=al (B-(r+v1)) (by omega) (q-1) (r+v1) (by omega) (by omega) ah af;refine⟨u,?_,av⟩;rw[dh,dM,i1,mF,ac,dy,ai,cA,bk,if_neg (by simpa using L)];exact ar
  rw[BL];by_cases c:B≤q
  ·have nK:(4294967296:Int)≤(q:Int):=by omega
   obtain⟨u,ar,av⟩:=down (by omega) (fun p5 h _=>by omega);refine⟨u,?_,av⟩;simp -implicitDefEqProofs only[↓cA,↓bk,↓bU,↓vk,eq_true nK,dF,Bool.true_eq_false,if_false,↓reduceIte,ar]
  ·have nK:¬(4294967296:Int)≤(q:Int):=by omega
   have an:q*v2<18446744073709551616:=by
    have:q*v2≤B*B:=Nat.mul_le_mul (by omega) (by omega);have bO:q*v2≤(B-1)*(B-1):=Nat.mul_le_mul (by omega) (by omega);have dD:(B-1)*(B-1)<18446744073709551616:=by decide
    omega
   have em:q*v2%18446744073709551616=q*v2:=hl an;have es:r*4294967296%18446744073709551616=r*4294967296:=hl (by omega);have gN:=fun(S:ag) (k:be)=>vm (T:=aR) (G:=G) (X:=X) (s:=S) (k:=k) r y (by omega) (by omega)
   have ak:q*(v1*B+v2)=q*v1*B+q*v2:=by rw[fy,gH]
   have N:=fun(S:ag) (k:be)=>cy (T:=aR) (G:=G) (X:=X) (s:=S) (k:=k) r
   rw[es] at N;have O:=fun(S:ag) (k:be)=>dJ (T:=aR) (G:=G) (X:=X) (s:=S) (k:=k) q v2
   rw[em] at O;by_cases d:r*4294967296+y<q*v2
   ·have fG:((r*4294967296+y:Nat):Int)<((q*v2:Nat):Int):=by omega
    have eJ:0<q:=by
     rcases Nat.eq_zero_or_pos q with e|e
     ·subst e;omega
     ·exact e
    obtain⟨u,ar,av⟩:=down eJ (fun p5 h H=>by
     have M:=ad p5 h H;rcases Nat.lt_or_ge p5 q with aj|aj
     ·omega
     ·have:p5=q:=by omega
      subst this;rw[kA,ak,kE] at H;rw[kE] at *;omega)
    refine⟨u,?_,av⟩;simp -implicitDefEqProofs only[↓cA,↓b5,↓bk,↓bU,↓vk,eq_false nK,dw,↓reduceIte,bS,↓i2,↓Z,↓aa,↓ab,↓O,↓N,↓i3,↓i4,↓V,↓Y,↓cu,↓gN,b6,dF,eq_true fG,ar]
   ·have fG:¬((r*4294967296+y:Nat):Int)<((q*v2:Nat):Int):=by omega
    refine⟨q,?_,by omega,?_,ad⟩
    ·simp -implicitDefEqProofs only[↓cA,↓b5,↓bk,↓bU,↓vk,eq_false nK,dw,↓reduceIte,bS,↓i2,↓Z,↓aa,↓ab,↓O,↓N,↓i3,↓i4,↓V,↓Y,↓cu,↓gN,b6,dF,eq_false fG,ti];exact ih F _ _
    ·rw[kA,ak,kE] at *;omega
theorem Of(s:ag)(F oJ:ae)(dm vs:List Nat)(j:Nat)(hu:lN s F dm)(bJ:lN s oJ vs)(u:dL dm)(lq:dL vs)(dk:2≤vs.length)(df:j+vs.length<dm.length)(gU:dm.length<4294967296)
  (K:B≤2*vs.getD (vs.length-1) 0)(L:dm.getD (j+vs.length) 0≤vs.getD (vs.length-1) 0):
  ∃H:Nat,aP aR G X 139 [F,.int .i64 (j:Int),oJ] s=.ok (.int .u64 (H:Int)) s∧
   Z4 H (dm.getD (j+vs.length) 0*B*B+dm.getD (j+vs.length-1) 0*B+dm.getD (j+vs.length-2) 0) (vs.getD (vs.length-1) 0*B+vs.getD (vs.length-2) 0):=by
 have M:=kE;have y:=Child.aj s;have bQ:=u.getD (j+vs.length);have aa:=u.getD (j+vs.length-1);have pt:=lq.getD (vs.length-1);have ab:=lq.getD (vs.length-2);have ac:=u.getD (j+vs.length-2);have r:vs.getD (vs.length-1) 0≠0:=by omega
 have I:dm.getD (j+vs.length) 0*B+dm.getD (j+vs.length-1) 0<18446744073709551616:=by rw[M] at *;omega
 have N:=Cl G X s F oJ dm vs j hu bJ u lq dk df gU K L s.aj y
  (B-(dm.getD (j+vs.length) 0*B+dm.getD (j+vs.length-1) 0)%vs.getD (vs.length-1) 0) ((dm.getD (j+vs.length) 0*B+dm.getD (j+vs.length-1) 0)/vs.getD (vs.length-1) 0) ((dm.getD (j+vs.length) 0*B+dm.getD (j+vs.length-1) 0)%vs.getD (vs.length-1) 0)
  (by have:=Nat.mod_lt (dm.getD (j+vs.length) 0*B+dm.getD (j+vs.length-1) 0) (Nat.pos_of_ne_zero r);omega) (by have:=Nat.mod_lt (dm.getD (j+vs.length) 0*B+dm.getD (j+vs.length-1) 0) (Nat.pos_of_ne_zero r);omega)
  (by rw[et];exact Nat.div_add_mod _ _) (fun p5 ad h=>by
   rw[Nat.le_div_iff_mul_le (Nat.pos_of_ne_zero r)];have ar:p5*vs.getD (vs.length-1) 0*B≤p5*(vs.getD (vs.length-1) 0*B+vs.getD (vs.length-2) 0):=by rw[fy,gH];omega
   have av:p5*vs.getD (vs.length-1) 0*B<(dm.getD (j+vs.length) 0*B+dm.getD (j+vs.length-1) 0+1)*B:=by rw[e5,e5,Nat.one_mul];omega
   have:=Nat.lt_of_mul_lt_mul_right av;omega)
 refine Exists.imp (fun H av=>⟨?_,av.2⟩) N;have ar:=av.1;have O:=fun(k:be)=>(hu.oy y.oy).get (T:=aR) (G:=G) (X:=X) .i64 (j+vs.length) (by omega) k
 have U:=fun(k:be)=>(hu.oy y.oy).get (T:=aR) (G:=G) (X:=X) .i64 (j+vs.length-1) (by omega) k
 have mF:=fun(k:be)=>(bJ.oy y.oy).get (T:=aR) (G:=G) (X:=X) .i64 (vs.length-1) (by omega) k
 have V:=fun(S:ag) (k:be)=>bJ.len (T:=aR) (G:=G) (X:=X) k S
 have i1:=fun(S:ag) (k:be)=>jM (T:=aR) (G:=G) (X:=X) (s:=S) (k:=k) vs.length (by omega) (by omega)
 have i3:=fun(S:ag) (k:be)=>im (T:=aR) (G:=G) (X:=X) (s:=S) (k:=k) j vs.length (by omega)
 have i4:=fun(S:ag) (k:be)=>jM (T:=aR) (G:=G) (X:=X) (s:=S) (k:=k) (j+vs.length) (by omega) (by omega)
 rw[M] at I ar bQ aa pt;clear K L N av ac ab;generalize dm.getD (j+vs.length) 0=e at *;generalize dm.getD (j+vs.length-1) 0=A at *;generalize vs.getD (vs.length-1) 0=v1 at *;have Y:=fun(S:ag) (k:be)=>hN (T:=aR) (G:=G) (X:=X) (s:=S) (k:=k) e (by omega)
 have Z:=fun(S:ag) (k:be)=>hN (T:=aR) (G:=G) (X:=X) (s:=S) (k:=k) A (by omega)
 have J:=fun(S:ag) (k:be)=>hN (T:=aR) (G:=G) (X:=X) (s:=S) (k:=k) v1 (by omega)
 have es:e*4294967296%18446744073709551616=e*4294967296:=by clear ar I O U mF V i1 i3 i4 Y Z J;omega
 have gN:=fun(S:ag) (k:be)=>vm (T:=aR) (G:=G) (X:=X) (s:=S) (k:=k) e A (by omega) (by omega)
 have d1:=fun(S:ag) (k:be)=>Fv (T:=aR) (G:=G) (X:=X) (s:=S) (k:=k) (e*4294967296+A) v1 r I
 have d2:=fun(S:ag) (k:be)=>yH (T:=aR) (G:=G) (X:=X) (s:=S) (k:=k) (e*4294967296+A) v1 r
 rw[EE,NW,V,i3,O,Y,cy,es,i3,i4,U,Z,gN,i1,mF,J,d1,i1,mF,J,d2];exact ar
theorem r0(s:ag)(j:Nat)(a b:List Nat):(s.put j a).put j b=s.put j b:=by simp [ag.put]
theorem mx(s:ag)(j:Nat)(a:List Nat):(s.put j a).aa=s.aa:=rfl
theorem zn{s:ag}{ni:Nat}{dm:List Nat}(h:gQ s ni dm)(i N x:Nat)(bY:i<dm.length)(pR:i<N)(k:be):(a0 aR G X).cL s.aj (fun v S=>(a0 aR G X).cC S k 1 v (U x)) 1 (.cZ (.g s.aa ni) 0 N N 1) (.int .i64 (i:Int))=k .dead (s.put ni (dm.set i x)).aj:=by
 rw[kU _ _ _ _ _ _ _ pR,kT];have e:(U x).ff=true:=rfl;have cR:s.aj.aa=s.aa+1:=(Child.aj s).aa;have r:s.aj.get (.g s.aa ni)=some (.cells (dm.map U)):=(Child.aj s).oy.2 _ _ _ (aB _) (by simpa [ag.get,gQ] using h);simp -implicitDefEqProofs only[fh,e,ae.cells,bT,cx,bf,gf,bC,bX];unfold ii;rw[r];simp -implicitDefEqProofs only[Nat.mul_one,bT,cx,bf,show Nat.ble (i+1) (dm.map U).length=true from eN (by simp;omega),show s.aj.ho (.g s.aa ni) [U x]=true from by simp [ag.ho,ae.a7,ae.bb],List.all_cons,show(U x).eG=true from rfl,List.all_nil,bC,bX];have u:s.ro.length≤s.aa:=by unfold ag.aa;omega
 have y:s.aj.set (.g s.aa ni) (.cells ((dm.map U).set i (U x)))=some (s.put ni (dm.set i x)).aj:=by simp -implicitDefEqProofs only[ag.set,cR];rw[if_neg (by omega),if_pos ⟨by omega,u⟩];simp [ag.aj,ag.put,List.map_set]
 show(match s.aj.set (.g s.aa ni) (.cells ((dm.map U).set i (U x))) with |some s=>k .dead s|none=>.fail)=_;rw[y]
section
variable(s:ag)(ni j N q:Nat)(gF vs:List Nat)(oJ:ae)(eJ:gQ s ni gF)(pR:gF.length=N)(bJ:jz oJ vs)(lq:dL vs)(df:j+vs.length<N)(gU:N<4294967296)
include eJ pR bJ lq df gU
theorem ud(dm:List Nat)(bK:dm.length=N)(i:Nat)(bY:i<N)(k:be):(a0 aR G X).cL (s.put ni dm).aj (fun v S=>(a0 aR G X).ay S k none v) 1 (.cZ (.g s.aa ni) 0 N N 1) (.int .i64 (i:Int))=k (U (dm.getD i 0)) (s.put ni dm).aj:=by have ar:=(eJ.put dm).rd N N (by omega) (aB _);rw[jr (by omega)] at ar;exact(ar.oy (Child.aj _).oy).get .i64 i (by omega) k
theorem Cm(U:Nat)(e:List Nat)(ak:dL e)(gr:0<q)(al:q<B)(M:U%val vs<val vs)(am:e0 e j (vs.length+1)+val vs=B^(vs.length+1)+U%val vs):∀(m i:Nat) (dm:List Nat) (carry:Nat),i+m=vs.length→dm.length=N→dL dm→e.length=N→carry≤1→(∀k,(k<j∨j+i≤k)→dm.getD k 0=e.getD k 0)→e0 dm j i+carry*B^i=e0 e j i+e0 vs 0 i→
  ∃r,rF (a0 aR G X) (.cZ (.g s.aa ni) 0 N N 1) (.int .i64 (j:Int)) oJ (.int .u64 (q:Int)) (.int .u64 (carry:Int)) (.int .i64 (vs.length:Int)) (.int .i64 (i:Int)) (s.put ni dm).aj=.ok (.int .u32 ((q-1:Nat):Int)) (s.put ni r)∧r.length=N∧dL r∧(∀k,(k<j∨j+vs.length<k)→r.getD k 0=e.getD k 0)∧e0 r j (vs.length+1)=U%val vs:=by
 have H:=kE;have O:=fun(S:ag) (k:be)=>(bJ.rd s).len (T:=aR) (G:=G) (X:=X) k S
 intro m
 induction m with
 |zero=>
  intro i dm carry bY bK u K a1 y hw;have V:i=vs.length:=by omega
  subst V;have h:¬((vs.length:Int)<(vs.length:Int)):=by omega
  have Y:dm.getD (j+vs.length) 0=e.getD (j+vs.length) 0:=y _ (.inr (aB _));have F:=fun(S:ag) (k:be)=>im (T:=aR) (G:=G) (X:=X) (s:=S) (k:=k) j vs.length (by omega)
  have I:=fun(k:be)=>ud G X s ni j N gF vs oJ eJ pR bJ lq df gU dm bK (j+vs.length) (by omega) k
  have gP:=fun x (k:be)=>zn G X (eJ.put dm) (j+vs.length) N x (by omega) (by omega) k
  simp -implicitDefEqProofs only[mx,r0] at gP;have dM:=Oe q gr (by omega);have J:(q-1)%4294967296=q-1:=hl (by omega);have Z:carry%4294967296=carry:=hl (by omega);rw[←rZ,fW e j vs.length (by omega)] at *;have key:=Jj vs.length (e0 dm j vs.length) (dm.getD (j+vs.length) 0+carry) (U%val vs) (by rw[fy,Y,et _ carry];omega) (rY dm j vs.length u) (Nat.lt_trans M (by have:=hP vs lq;exact this))
  refine⟨dm.set (j+vs.length) ((dm.getD (j+vs.length) 0+carry)%4294967296),?_,by simpa using bK,u.set _ _ (Nat.mod_lt _ (by decide)),fun k dc=>?_,?_⟩
  ·rw[tg,br,bk,if_neg (by simp),BH,O,F,I,dl,Z,Iv];simp -implicitDefEqProofs only[aG];rw[gP,dh,dM,dl,J,aJ]
  ·exact(hO.getD_set_ne (by omega)).trans (y k (by omega))
  ·have ab:=fW (dm.set (j+vs.length) ((dm.getD (j+vs.length) 0+carry)%4294967296)) j vs.length (by simp;omega);have ac:(dm.set (j+vs.length) ((dm.getD (j+vs.length) 0+carry)%4294967296)).getD (j+vs.length) 0=(dm.getD (j+vs.length) 0+carry)%4294967296:=hO.fJ (by omega);rw[ab,ac,rW _ _ _ _ _ (aB _),key.1,key.2,←H,Nat.mod_self,Nat.mul_zero,Nat.add_zero]
 |succ m ad=>
  intro i dm carry bY bK u K a1 y hw;have h:(i:Int)<(vs.length:Int):=by omega
  have A:=ER dm e vs j i carry (by omega) (by omega) lq u a1 (y _ (.inr (aB _))) (by omega) hw;simp -implicitDefEqProofs only[] at A;have bQ:=u.getD (j+i);have L:=lq.getD i;rw[H] at bQ L A;have F:=fun(S:ag) (k:be)=>im (T:=aR) (G:=G) (X:=X) (s:=S) (k:=k) j i (by omega)
  have ae:=fun S k=>nh G X S k i (by omega)
  have I:=fun(k:be)=>ud G X s ni j N gF vs oJ eJ pR bJ lq df gU dm bK (j+i) (by omega) k
  have af:=fun(k:be)=>(bJ.rd (s.put ni dm).aj).get (T:=aR) (G:=G) (X:=X) .i64 i (by omega) k
  have ah:=fun(S:ag) (k:be)=>hN (T:=aR) (G:=G) (X:=X) (s:=S) (k:=k) (dm.getD (j+i) 0) bQ
  have ai:=fun(S:ag) (k:be)=>hN (T:=aR) (G:=G) (X:=X) (s:=S) (k:=k) (vs.getD i 0) L
  have gP:=fun x (k:be)=>zn G X (eJ.put dm) (j+i) N x (by omega) (by omega) k
  simp -implicitDefEqProofs only[mx,r0] at gP;have dM:(dm.getD (j+i) 0+vs.getD i 0)%18446744073709551616=dm.getD (j+i) 0+vs.getD i 0:=hl (by omega);have J:(dm.getD (j+i) 0+vs.getD i 0+carry)%18446744073709551616=dm.getD (j+i) 0+vs.getD i 0+carry:=hl (by omega)
  have:=ad (i+1) (dm.set (j+i) ((dm.getD (j+i) 0+vs.getD i 0+carry)%4294967296)) ((dm.getD (j+i) 0+vs.getD i 0+carry)/4294967296) (by omega) (by simpa using bK) A.2.2.1 K A.2.1 (fun k dc=>(hO.getD_set_ne (by omega)).trans (y k (by omega))) (by rw[H];exact A.2.2.2);refine Exists.imp (fun r av=>⟨?_,av.2⟩) this;rw[tg,br,bk,if_pos (by simpa using h),BG,F,I,ah,af,ai,dy,dM,dy,J,F,dl];simp -implicitDefEqProofs only[aG];rw[gP,cz,BF,ae];exact av.1
theorem Cn(aH:0<vs.length)(Ak:dL gF)(ab:q<B)(ac:0<val vs)(aI:e0 gF j (vs.length+1)/val vs≤q)(aL:q≤e0 gF j (vs.length+1)/val vs+1):∀(m i:Nat) (dm:List Nat) (carry e:Nat),i+m=vs.length→dm.length=N→dL dm→carry<B→e≤1→(∀k,(k<j∨j+i≤k)→dm.getD k 0=gF.getD k 0)→e0 dm j i+q*e0 vs 0 i=e0 gF j i+(carry+e)*B^i→
  ∃r,o6 (a0 aR G X) (.cZ (.g s.aa ni) 0 N N 1) (.int .i64 (j:Int)) oJ (.int .u64 (q:Int)) (.int .u64 (carry:Int)) (.int .u64 (e:Int)) (.int .i64 (vs.length:Int)) (.int .i64 (i:Int)) (s.put ni dm).aj=.ok (.int .u32 ((e0 gF j (vs.length+1)/val vs:Nat):Int)) (s.put ni r)∧r.length=N∧dL r∧(∀k,(k<j∨j+vs.length<k)→r.getD k 0=gF.getD k 0)∧e0 r j (vs.length+1)=e0 gF j (vs.length+1)%val vs:=by
 have H:=kE;have O:=fun(S:ag) (k:be)=>(bJ.rd s).len (T:=aR) (G:=G) (X:=X) k S
 intro m
 induction m with
 |zero=>
  intro i dm carry e bY bK I a1 ad J hw;have ai:i=vs.length:=by omega
  subst ai;have h:¬((vs.length:Int)<(vs.length:Int)):=by omega
  have ak:dm.getD (j+vs.length) 0=gF.getD (j+vs.length) 0:=J _ (.inr (aB _));have bQ:=I.getD (j+vs.length);rw[H] at bQ a1;have K:=fun(S:ag) (k:be)=>im (T:=aR) (G:=G) (X:=X) (s:=S) (k:=k) j vs.length (by omega)
  have U:=fun(k:be)=>ud G X s ni j N gF vs oJ eJ pR bJ lq df gU dm bK (j+vs.length) (by omega) k
  have V:=fun(S:ag) (k:be)=>hN (T:=aR) (G:=G) (X:=X) (s:=S) (k:=k) (dm.getD (j+vs.length) 0) bQ
  have gP:=fun x (k:be)=>zn G X (eJ.put dm) (j+vs.length) N x (by omega) (by omega) k
  simp -implicitDefEqProofs only[mx,r0] at gP;have cR:=xO (dm.getD (j+vs.length) 0) carry e bQ a1 (by omega) (by omega);have Y:rl (rl (dm.getD (j+vs.length) 0) carry) e=kW (kW (dm.getD (j+vs.length) 0) carry) e:=rfl;rw[←rZ] at hw;have al:=fW gF j vs.length (by omega);have gs:∀x,e0 (dm.set (j+vs.length) x) j (vs.length+1)=e0 dm j vs.length+B^vs.length*x:=fun x=>by have an:=fW (dm.set (j+vs.length) x) j vs.length (by simp;omega);have ao:(dm.set (j+vs.length) x).getD (j+vs.length) 0=x:=hO.fJ (by omega);rw[an,ao,rW _ _ _ _ _ (aB _)]
  have M:dL (dm.set (j+vs.length) (kW (kW (dm.getD (j+vs.length) 0) carry) e%4294967296)):=I.set _ _ (by rw[H];exact Nat.mod_lt _ (by decide));have ae:∀x k,(k<j∨j+vs.length<k)→(dm.set (j+vs.length) x).getD k 0=gF.getD k 0:=fun x k dc=>(hO.getD_set_ne (by omega)).trans (J k (by omega))
  have pre:o6 (a0 aR G X) (.cZ (.g s.aa ni) 0 N N 1) (.int .i64 (j:Int)) oJ (.int .u64 (q:Int)) (.int .u64 (carry:Int)) (.int .u64 (e:Int)) (.int .i64 (vs.length:Int)) (.int .i64 (vs.length:Int)) (s.put ni dm).aj
    = (a0 aR G X).aK (.bool (decide (((kW (kW (dm.getD (j+vs.length) 0) carry) e/9223372036854775808:Nat):Int)=0))) ((a0 aR G X).b4 (s.put ni (dm.set (j+vs.length) (kW (kW (dm.getD (j+vs.length) 0) carry) e%4294967296))).aj (fun ap s=>(a0 aR G X).a4 false [some ap] s) .u32 (.int .u64 (q:Int)))
     (vw (a0 aR G X) (.cZ (.g s.aa ni) 0 N N 1) (.int .i64 (j:Int)) oJ (.int .u64 (q:Int)) (s.put ni (dm.set (j+vs.length) (kW (kW (dm.getD (j+vs.length) 0) carry) e%4294967296))).aj):=by
   rw[th,br,bk,if_neg (by simp),BJ,O,K,U,V,dz,dz,Y,O,K,dl];simp -implicitDefEqProofs only[aG];rw[gP,cK,bl]
  rw[pre,bk];generalize kW (kW (dm.getD (j+vs.length) 0) carry) e=t at *;have aM:=cR.2;generalize lG:t/9223372036854775808=A at *;generalize aN:t%4294967296=y at *;have L:e0 dm j vs.length+B^vs.length*y+q*val vs=e0 gF j (vs.length+1)+A*B^(vs.length+1):=by
   rw[al,←ak];have k1:B^vs.length*(y+carry+e)=B^vs.length*(dm.getD (j+vs.length) 0+B*A):=by rw[H,cR.1]
   have dM:B^vs.length*(y+carry+e)=B^vs.length*y+(carry+e)*B^vs.length:=by rw[Nat.add_assoc,fy,et _ (carry+e)]
   have aq:B^vs.length*(dm.getD (j+vs.length) 0+B*A)=B^vs.length*dm.getD (j+vs.length) 0+A*B^(vs.length+1):=by rw[fy,Nat.pow_succ,←gH,et _ A]
   rw[dM,aq] at k1;omega
  rw[←gs] at L;have aO:=Nat.div_add_mod (e0 gF j (vs.length+1)) (val vs);have ar:=Nat.mod_lt (e0 gF j (vs.length+1)) ac;have aP:=rY (dm.set (j+vs.length) y) j (vs.length+1) M;by_cases Z:A=0
  ·have as:q*val vs≤e0 gF j (vs.length+1):=by rw[Z] at L;omega
   have F:q=e0 gF j (vs.length+1)/val vs:=by have:=(Nat.le_div_iff_mul_le ac).2 as;omega
   have au:q%4294967296=q:=hl (by omega);refine⟨dm.set (j+vs.length) y,?_,by simpa using bK,M,ae y,?_⟩
   ·rw[if_pos (by rw[Z];decide),dl,au,aJ,←F]
   ·rw[Z,F,et] at L;omega
  ·have af:A=1:=by omega
   rw[af,Nat.one_mul] at L;have F:q=e0 gF j (vs.length+1)/val vs+1:=by
    have:¬q≤e0 gF j (vs.length+1)/val vs:=fun hle=>by
     have aQ:q*val vs≤e0 gF j (vs.length+1):=by have:=fO (val vs) hle;rw[et (e0 gF j (vs.length+1)/val vs)] at this;omega
     omega
    omega
   have aw:=Cm G X s ni j N q gF vs oJ eJ pR bJ lq df gU (e0 gF j (vs.length+1)) (dm.set (j+vs.length) y) M (by rw[F];exact Nat.succ_pos _) ab ar (by rw[F,e5,Nat.one_mul,et (e0 gF j (vs.length+1)/val vs)] at L;omega) vs.length 0 (dm.set (j+vs.length) y) 0 (by omega) (by simpa using bK) M (by simpa using bK) (by omega) (fun k _=>rfl) (by simp [xP])
   obtain⟨r,hb,g2,ax,m7,ic⟩:=aw;refine⟨r,?_,g2,ax,fun k dc=>(m7 k dc).trans (ae y k dc),ic⟩;rw[if_neg (by rw[af];decide),BI,O];have ay:q-1=e0 gF j (vs.length+1)/val vs:=by rw[F];rfl
   rw[ay] at hb;exact hb
 |succ m az=>
  intro i dm carry e bY bK I a1 ad J hw;have h:(i:Int)<(vs.length:Int):=by omega
  have u:=EQ dm gF vs j i q carry e ab (by omega) (by omega) lq I a1 ad (J _ (.inr (aB _))) (by omega) hw;simp -implicitDefEqProofs only[] at u;have bQ:=I.getD (j+i);have ah:=lq.getD i;have K:=fun(S:ag) (k:be)=>im (T:=aR) (G:=G) (X:=X) (s:=S) (k:=k) j i (by omega)
  have aA:=fun S k=>nh G X S k i (by omega)
  have U:=fun(k:be)=>ud G X s ni j N gF vs oJ eJ pR bJ lq df gU dm bK (j+i) (by omega) k
  have aC:=fun(k:be)=>(bJ.rd (s.put ni dm).aj).get (T:=aR) (G:=G) (X:=X) .i64 i (by omega) k
  rw[H] at bQ ah;have V:=fun(S:ag) (k:be)=>hN (T:=aR) (G:=G) (X:=X) (s:=S) (k:=k) (dm.getD (j+i) 0) bQ
  have aD:=fun(S:ag) (k:be)=>hN (T:=aR) (G:=G) (X:=X) (s:=S) (k:=k) (vs.getD i 0) ah
  have gP:=fun x (k:be)=>zn G X (eJ.put dm) (j+i) N x (by omega) (by omega) k
  simp -implicitDefEqProofs only[mx,r0] at gP;have aE:q*vs.getD i 0%18446744073709551616=q*vs.getD i 0:=hl (by have:=u.1;omega);have aF:(q*vs.getD i 0+carry)%18446744073709551616=q*vs.getD i 0+carry:=hl u.1;have am:=fun(S:ag) (k:be)=>Iw (T:=aR) (G:=G) (X:=X) (s:=S) (k:=k) (q*vs.getD i 0+carry) u.1
  have Y:∀a b c,rl (rl a b) c=kW (kW a b) c:=fun _ _ _=>rfl
  have:=az (i+1) _ _ _ (by omega) (by simpa using bK) u.2.2.2.2.1 u.2.1 u.2.2.1 (fun k dc=>(hO.getD_set_ne (by omega)).trans (J k (by omega))) u.2.2.2.2.2;refine Exists.imp (fun r av=>⟨?_,av.2⟩) this;have bO:=av.1;rw[H] at bO;rw[th,br,bk,if_pos (by simpa using h),BE,aC,aD,dJ,aE,dy,aF,cz,K,U,V,am,dz,dz,Y,K,dl];simp -implicitDefEqProofs only[aG];rw[gP,cK,BD,aA];exact bO
end
end Go.gR
end
section
namespace Go.hO
theorem getD_eq{a b:List Nat}(bK:a.length=b.length)(k:Nat)(h:a.getD k 0=b.getD k 0):a[k]? =b[k]?:=by
 by_cases dc:k<a.length
 ·have e:k<b.length:=by omega
  simp only[List.getD,eI dc,eI e,Option.getD_some] at h;rw[eI dc,eI e,h]
 ·rw[List.getElem?_eq_none (by omega),List.getElem?_eq_none (by omega)]
theorem Co{a b:List Nat}(bK:a.length=b.length)(j:Nat)(h:∀k,k<j→a.getD k 0=b.getD k 0):a.take j=b.take j:=by
 apply List.ext_getElem?;intro k;rw[List.getElem?_take,List.getElem?_take];split
 ·exact getD_eq bK k (h k (by assumption))
 ·rfl
theorem Cp{a b:List Nat}(bK:a.length=b.length)(j:Nat)(h:∀k,j≤k→a.getD k 0=b.getD k 0):a.drop j=b.drop j:=by apply List.ext_getElem?;intro k;rw[List.getElem?_drop,List.getElem?_drop];exact getD_eq bK _ (h _ (by omega))
theorem r1{dm vs:List Nat}{j:Nat}(df:j+vs.length<dm.length)(lq:dL vs)(r:val (dm.drop (j+1))<val vs):
  val (dm.drop (j+vs.length+1))=0∧e0 dm (j+1) vs.length<val vs∧e0 dm j (vs.length+1)=dm.getD j 0+B*e0 dm (j+1) vs.length:=by
 have ar:=rX dm (j+1) vs.length (by omega);have av:=hP vs lq;have eJ:val (dm.drop (j+1+vs.length))=0:=by
  rcases Nat.eq_zero_or_pos (val (dm.drop (j+1+vs.length))) with h|h
  ·exact h
  ·have:B^vs.length*1≤B^vs.length*val (dm.drop (j+1+vs.length)):=Nat.mul_le_mul_left _ h;omega
 have e:j+vs.length+1=j+1+vs.length:=by omega
 refine⟨by rw[e];exact eJ,by omega,?_⟩;have bO:=rX dm j (vs.length+1) (by omega);have dD:=l4 dm j (by omega);rw[show j+(vs.length+1)=j+1+vs.length by omega,eJ] at bO;rw[eJ,Nat.mul_zero,Nat.add_zero] at ar;rw[Nat.mul_zero,Nat.add_zero,dD,ar] at bO;exact bO.symm
theorem UI{dm vs:List Nat}{j:Nat}(df:j+vs.length<dm.length)(lq:dL vs)(dk:0<vs.length)(r:val (dm.drop (j+1))<val vs):dm.getD (j+vs.length) 0≤vs.getD (vs.length-1) 0:=by
 obtain⟨_,av,_⟩:=r1 df lq r;have bO:=fW dm (j+1) (vs.length-1) (by omega);have dD:=fW vs 0 (vs.length-1) (by omega);have A:=rY vs 0 (vs.length-1) lq;have e:vs.length-1+1=vs.length:=by omega
 rw[e] at bO dD;rw[←rZ] at dD;rw[show j+1+(vs.length-1)=j+vs.length by omega] at bO;rw[bf] at dD;by_cases h:dm.getD (j+vs.length) 0≤vs.getD (vs.length-1) 0
 ·exact h
 ·have u:vs.getD (vs.length-1) 0+1≤dm.getD (j+vs.length) 0:=by omega
  have y:=Nat.mul_le_mul_left (B^(vs.length-1)) u;rw[fy,Nat.mul_one] at y;omega
theorem Og{dm vs:List Nat}{j q:Nat}(df:j+vs.length<dm.length)(e:dL dm)(lq:dL vs)(dk:2≤vs.length)(h:B≤2*vs.getD (vs.length-1) 0)(r:val (dm.drop (j+1))<val vs)(gr:q<B)
  (ar:q*(vs.getD (vs.length-1) 0*B+vs.getD (vs.length-2) 0)≤dm.getD (j+vs.length) 0*B*B+dm.getD (j+vs.length-1) 0*B+dm.getD (j+vs.length-2) 0)
  (av:∀p5,p5<B→p5*(vs.getD (vs.length-1) 0*B+vs.getD (vs.length-2) 0)≤dm.getD (j+vs.length) 0*B*B+dm.getD (j+vs.length-1) 0*B+dm.getD (j+vs.length-2) 0→p5≤q):
  e0 dm j (vs.length+1)/val vs≤q∧q≤e0 dm j (vs.length+1)/val vs+1:=by
 obtain⟨m,hm⟩:∃m,vs.length=m+2:=⟨vs.length-2,by omega⟩;obtain⟨_,t2,t3⟩:=r1 df lq r;refine Cg (e0 dm j (vs.length+1)) (val vs) q m (e0 dm j m) (e0 vs 0 m) _ _ _ _ _ ?_ ?_ (rY _ _ _ e) (rY _ _ _ lq) h gr ar av ?_
 ·rw[hm,fW dm j (m+2) (by omega),fW dm j (m+1) (by omega),fW dm j m (by omega),show B^(m+2)=B^m*B*B by rw[Nat.pow_succ,Nat.pow_succ],show B^(m+1)=B^m*B from Nat.pow_succ ..,show j+(m+2)-1=j+(m+1) by omega,show j+(m+2)-2=j+m by omega];generalize dm.getD (j+(m+2)) 0=a;generalize dm.getD (j+(m+1)) 0=b;generalize dm.getD (j+m) 0=c;generalize B^m=P;rw[e5,e5];have dM:P*B*B*a=a*B*B*P:=by ac_rfl
  have u:P*B*b=b*B*P:=by ac_rfl
  have y:P*c=c*P:=et _ _;omega
 ·have:=rZ vs;rw[hm] at this ⊢;rw[this,fW vs 0 (m+1) (by omega),fW vs 0 m (by omega),Nat.pow_succ,bf,bf,show m+2-1=m+1 by omega,show m+2-2=m by omega,e5];generalize vs.getD (m+1) 0=b;generalize vs.getD m 0=c;generalize B^m=P;have u:P*B*b=b*B*P:=by ac_rfl
  have y:P*c=c*P:=et _ _;omega
 ·rw[t3];have bO:=e.getD j;have dD:=Nat.mul_le_mul_left B t2;rw[Nat.succ_eq_add_one,fy,Nat.mul_one] at dD;omega
theorem EU(T P C D W q V r:Nat)(hm:V*q+r=W):T+P*r+P*((q+C*D)*V)=T+P*W+P*C*(D*V):=by subst hm;rw[e5,fy,fy,et q V,gH P C,gH C D];omega
theorem UJ{dm vs:List Nat}{j:Nat}(df:j+vs.length<dm.length)(e:dL dm)(lq:dL vs)(h:val (dm.drop (j+1))<val vs):e0 dm j (vs.length+1)/val vs<B:=by
 obtain⟨t1,t2,t3⟩:=r1 df lq h;have r:0<val vs:=by omega
 rw[Nat.div_lt_iff_lt_mul r,t3];have bO:=e.getD j;have dD:=Nat.mul_le_mul_left B t2;rw[Nat.succ_eq_add_one,fy,Nat.mul_one] at dD;omega
theorem Jk{dm e os vs:List Nat}{U0 j:Nat}(bK:e.length=dm.length)(df:j+vs.length<dm.length)(y:dL dm)(lq:dL vs)(h:j<os.length)
  (hinv:val dm+B^(j+1)*(val (os.drop (j+1))*val vs)=U0)(r:val (dm.drop (j+1))<val vs)
  (u:∀k,(k<j∨j+vs.length<k)→e.getD k 0=dm.getD k 0)(hw:e0 e j (vs.length+1)=e0 dm j (vs.length+1)%val vs):
  e0 dm j (vs.length+1)/val vs<B∧val e+B^j*(val ((os.set j (e0 dm j (vs.length+1)/val vs)).drop j)*val vs)=U0∧val (e.drop j)<val vs:=by
 obtain⟨t1,t2,t3⟩:=r1 df lq r;have A:0<val vs:=by omega
 have gr:=UJ df y lq r;have F:e.drop (j+vs.length+1)=dm.drop (j+vs.length+1):=Cp bK _ (fun k dc=>u k (by omega));have H:e.take j=dm.take j:=Co bK _ (fun k dc=>u k (by omega));have d1:=rX dm j (vs.length+1) (by omega);have d2:=rX e j (vs.length+1) (by omega);rw[show j+(vs.length+1)=j+vs.length+1 by omega] at d1 d2;rw[F,t1,hw] at d2;rw[t1] at d1;have s1:=kV dm j (by omega);have s2:=kV e j (by omega);rw[H] at s2;have hm:=Nat.div_add_mod (e0 dm j (vs.length+1)) (val vs);have gN:=l4 (os.set j (e0 dm j (vs.length+1)/val vs)) j (by simpa using h);rw[fJ h,rU (i:=j+1) (j:=j) (by omega)] at gN;generalize e0 dm j (vs.length+1)=W at *;refine⟨gr,?_,by rw[d2,Nat.mul_zero,Nat.add_zero];exact Nat.mod_lt W A⟩;rw[Nat.mul_zero,Nat.add_zero] at d1 d2;rw[gN,←hinv,s2,s1,d1,d2,Nat.pow_succ];exact EU _ _ _ _ _ _ _ _ hm
theorem Jl{b vs:List Nat}{c:Nat}(A:dL b)(U:e6 b)(F:b≠[])(lq:dL vs)(H:e6 vs)(bJ:val vs=val b*2^c)(ar:2147483648≤b.getD (b.length-1) 0*2^c)(av:b.getD (b.length-1) 0*2^c<4294967296):
  vs.length=b.length∧B≤2*vs.getD (vs.length-1) 0:=by
 have bK:0<b.length:=List.length_pos_iff.2 F;have I:=Nat.two_pow_pos c;have e:=val_succ b (b.length-1) (by omega);rw[show b.length-1+1=b.length by omega,List.take_length] at e;have J:=hP (b.take (b.length-1)) (A.take _);rw[show(b.take (b.length-1)).length=b.length-1 by simp] at J;have K:B=4294967296:=rfl;have V:2^c≤2147483648*2:=by
  by_cases h:b.getD (b.length-1) 0=0
  ·rw[h] at ar;omega
  ·have:=fO (2^c) (show 1≤b.getD (b.length-1) 0 by omega);omega
 have L:val vs<B^b.length:=by
  rw[bJ,e,show B^b.length=B^(b.length-1)*B by rw[←Nat.pow_succ];congr 1;omega];have M:(b.getD (b.length-1) 0+1)*2^c≤B:=by
   have Y:c≤32:=by
    by_cases a1:c≤32
    ·exact a1
    ·have:2^33≤2^c:=Nat.pow_le_pow_right (by omega) (by omega);omega
   have r:B=2^(32-c)*2^c:=by rw[←Nat.pow_add,tr];congr 1;omega
   have:b.getD (b.length-1) 0<2^(32-c):=by rw[←K,r] at av;exact Nat.lt_of_mul_lt_mul_right av
   rw[r];exact fO _ this
  have N:(val (b.take (b.length-1))+B^(b.length-1)*b.getD (b.length-1) 0)*2^c<B^(b.length-1)*((b.getD (b.length-1) 0+1)*2^c):=by rw[←gH];apply Nat.mul_lt_mul_of_pos_right _ I;rw[fy,Nat.mul_one];omega
  exact fX N (Nat.mul_le_mul_left _ M)
 have O:B^(b.length-1)*2147483648≤val vs:=by
  rw[bJ,e,e5,gH]
  have:=Nat.mul_le_mul_left (B^(b.length-1)) ar;omega
 have Z:=Nat.pow_pos (n:=b.length-1) g8;have e3:vs≠[]:=fun h=>by subst h;simp [val] at O;omega
 have aa:vs.length≤b.length:=qn H L;have ab:b.length≤vs.length:=by
  have ac:=hP vs lq;by_cases h:b.length≤vs.length
  ·exact h
  ·have:B^vs.length≤B^(b.length-1):=od (by omega);omega
 have hlen:vs.length=b.length:=by omega
 refine⟨hlen,?_⟩;have u:=val_succ vs (vs.length-1) (by omega);rw[show vs.length-1+1=vs.length by omega,List.take_length] at u;have y:=hP (vs.take (vs.length-1)) (lq.take _);rw[show(vs.take (vs.length-1)).length=vs.length-1 by simp] at y;rw[hlen] at u y ⊢;by_cases h:B≤2*vs.getD (b.length-1) 0
 ·exact h
 ·have bO:vs.getD (b.length-1) 0+1≤2147483648:=by omega
  have dD:=Nat.mul_le_mul_left (B^(b.length-1)) bO;rw[fy,Nat.mul_one] at dD;omega
theorem Jm{a b dm:List Nat}{c V:Nat}(h:dL a)(r:e6 b)(e:b≠[])(u:dL dm)(hle:b.length≤a.length)(bK:dm.length=a.length+1)(hu:val dm=val a*2^c)(y:V=val b*2^c):val (dm.drop (a.length-b.length+1))<V:=by have A:0<b.length:=List.length_pos_iff.2 e;rw[←xQ dm _ u (by omega),Nat.div_lt_iff_lt_mul (Nat.pow_pos g8),hu,y];have ar:=hP a h;have av:=pu b r e;have bO:=fO (B^(a.length-b.length+1)) av;rw[←Nat.pow_add,show b.length-1+(a.length-b.length+1)=a.length by omega] at bO;rw[gH,et (2^c),←gH];exact Nat.mul_lt_mul_of_pos_right (fX ar bO) (Nat.two_pow_pos c)
end Go.hO
end
section
namespace Go.gR
open Go.Ab Go.hO
variable(G:Nat→ae)(X:Nat→List ae→ag→ah)
theorem Oh(s:ag)(ni j N q:Nat)(gF vs:List Nat)(oJ:ae)(eJ:gQ s ni gF)(pR:gF.length=N)(bJ:jz oJ vs)(lq:dL vs)(df:j+vs.length<N)(gU:N<4294967296)(h:0<vs.length)(Ak:dL gF)(r:q<B)(u:0<val vs)(y:e0 gF j (vs.length+1)/val vs≤q)(A:q≤e0 gF j (vs.length+1)/val vs+1):
  ∃e,aP aR G X 138 [.cZ (.g s.aa ni) 0 N N 1,.int .i64 (j:Int),oJ,.int .u64 (q:Int)] s=.ok (.int .u32 ((e0 gF j (vs.length+1)/val vs:Nat):Int)) (s.put ni e)∧e.length=N∧dL e∧(∀k,(k<j∨j+vs.length<k)→e.getD k 0=gF.getD k 0)∧e0 e j (vs.length+1)=e0 gF j (vs.length+1)%val vs:=by
 rw[ED,NV,(bJ.rd s).len]
 have:=Cn G X s ni j N q gF vs oJ eJ pR bJ lq df gU h Ak r u y A vs.length 0 gF 0 0 (by omega) pR Ak g8 (by omega) (fun _ _=>rfl) (by simp [xP]);rw[Iy eJ] at this;exact this
theorem Cq(s:ag)(c U0 N M ni e:Nat)(oJ:ae)(vs:List Nat)(bJ:jz oJ vs)(lq:dL vs)(dk:2≤vs.length)(L:B≤2*vs.getD (vs.length-1) 0)(aw:N=M-1+vs.length+1)(ax:0<M)(gU:N<4294967296)(e3:ni≠e)(a1:c<4294967296):
  ∀(m k:Nat) (dm os:List Nat) (S:ag),k+m=M→Child s S→gQ S ni dm→gQ S e os→dm.length=N→os.length=M→dL dm→dL os→val dm+B^m*(val (os.drop m)*val vs)=U0→val (dm.drop m)<val vs→
  ∃v w q r,rK (a0 aR G X) (.int .i64 (c:Int)) oJ (.cZ (.l ni) 0 N N 1) (.cZ (.l e) 0 M M 1) (.int .i64 (M:Int)) (.int .i64 (k:Int)) S=.ok (.eb [v,w]) s∧jz v q∧dL q∧e6 q∧jz w r∧dL r∧e6 r∧val q=U0/val vs∧val r=U0%val vs/2^c:=by
 intro m
 induction m with
 |zero=>
  intro k dm os S dc I hu F lu gk y J hinv u;have h:¬((k:Int)<(M:Int)):=by omega
  have A:=hu.rd N N (by omega) (aB _);rw[jr (by omega)] at A;have ab:=mw G X S _ dm A (by omega);have O:=A.cut (g9 dm dm.length) (jn _ _);obtain⟨w,r,lost,ac,U,ad,af,OU⟩:=Od G X S _ (dm.take (g9 dm dm.length)) c O (y.take _) a1 (by have:=jn dm dm.length;simp;omega);obtain⟨v,ah,bO⟩:∃v,jz v (f3 os)∧(a0 aR G X).bA S (fun v s=>(a0 aR G X).a4 false [some v,some w] s) 135 [.cZ (.g S.aa e) 0 M M 1]=.ok (.eb [v,w]) s:=by
   have aQ:=F.rd M M (by omega) (aB _);rw[jr (by omega)] at aQ;rw[bd (mw G X S _ os aQ (by omega))];have hle:=jn os os.length;obtain⟨v,ar,av⟩:=mT (S:=S) (j:=e) (off:=0) (cap:=M) (f3 os) (n:=g9 os os.length) (h9 os).symm F (by rw[bW,h9];simp [f3,List.map_take]) (by rw[h9];simpa using hle)
   exact⟨v,av,km I _ _ _ _ ar (U.freeze S)⟩
  rw[Nat.pow_zero,Nat.one_mul,bW] at hinv;rw[bW] at u;have K:0<val vs:=by omega
  have ai:val (dm.take (g9 dm dm.length))=val dm:=j6 dm;refine⟨v,w,f3 os,r,?_,ah,ll J,jc os,U,ad,af,?_,?_⟩
  ·rw[tk,br,bk,if_neg (by simpa using h),BV,io,bd ab,O.ap,aG,bd ac,gw 0 _ w rfl,gw 1 _ _ rfl,io];exact bO
  ·rw[j6,←hinv,Nat.add_mul_div_right _ _ K,Nat.div_eq_of_lt u,bf]
  ·rw[OU,ai,←hinv,Nat.add_mul_mod_self_right,hl u]
 |succ m aj=>
  intro k dm os S dc I hu F lu gk y J hinv u;have h:(k:Int)<(M:Int):=by omega
  have df:m+vs.length<dm.length:=by omega
  have A:=hu.rd N N (by omega) (aB _);rw[jr (by omega)] at A;obtain⟨ak,al,he⟩:=Of G X S _ oJ dm vs m A (bJ.rd S) y lq dk df (by omega) L (UI df lq (by omega) u);have V:=Og df y lq dk L u he.lt he.le he.max;have K:0<val vs:=by omega
  obtain⟨H,am,an,ao,aq,hw⟩:=Oh G X S ni m N ak dm vs oJ hu lu bJ lq (by omega) gU (by omega) y he.lt K V.1 V.2;obtain⟨d1,d2,d3⟩:=Jk (U0:=U0) (j:=m) (os:=os) (by omega) df y lq (by omega) hinv u aq hw;have Y:gQ (S.put ni H) e os:=F.Fw e3 _;have gP:=fun x (k:be)=>Y.gP (T:=aR) (G:=G) (X:=X) m M M x (by omega) (by omega) k
  have as:=fun(S:ag) (k:be)=>jM (T:=aR) (G:=G) (X:=X) (s:=S) (k:=k) M (by omega) (by omega)
  have Z:=fun(S:ag) (lz:be)=>mS (T:=aR) (G:=G) (X:=X) (s:=S) (k:=lz) (M-1) k (by omega) (by omega)
  have au:=fun(S:ag) (lz:be)=>mr (T:=aR) (G:=G) (X:=X) (s:=S) (k:=lz) k (by omega)
  rw[show M-1-k=m by omega] at Z
  have:=aj (k+1) H _ _ (by omega) ((I.put ni H).put e _) ((hu.put H).Fw (Ne.symm e3) _) (Y.put (os.set m (e0 dm m (vs.length+1)/val vs))) an (by simpa using gk) ao (J.set _ _ d1) d2 d3;refine Exists.imp (fun v ar=>Exists.imp (fun w av=>Exists.imp (fun q bO=>Exists.imp (fun r dD=>⟨?_,dD.2⟩) bO) av) ar) this;rw[tk,br,bk,if_pos (by simpa using h),BU,aT,as,Z,io,aG,bJ.ap,bd al];simp -implicitDefEqProofs only[aG,io,bJ.ap];rw[yG am (mx _ _ _)];simp -implicitDefEqProofs only[aG];rw[gP,BT,au];exact dD.1
theorem Oi(s:ag)(H M:ae)(a b:List Nat)(u:jz H a)(A:jz M b)(F:dL a)(J:dL b)(ac:e6 a)(I:e6 b)(K:b≠[])(gU:a.length<2147483648)(a2:b.length<2147483648):
  ∃v w q r,aP aR G X 114 [H,M] s=.ok (.eb [v,w]) s∧jz v q∧dL q∧e6 q∧jz w r∧dL r∧e6 r∧val q=val a/val b∧val r=val a%val b:=by
 have ad:=Child.aj s;have a3:0<b.length:=List.length_pos_iff.2 K;have am:=N7 G X s.aj H M a b (u.rd _) (A.rd _) F J ac I (by omega) (by omega);have af:=fun(S:ag) (k:be)=>(u.rd S).len (T:=aR) (G:=G) (X:=X) k S
 have Y:=fun(S:ag) (k:be)=>(A.rd S).len (T:=aR) (G:=G) (X:=X) k S
 rw[EI,N0,u.ap,A.ap,bd am];by_cases L:val a<val b
 ·refine⟨.cr 1 [] .nil,H,[],a,?_,jz.nil,(fun x (h:x∈[])=>absurd h p3:dL []),(fun h=>absurd rfl h:e6 []),u,F,ac,?_,?_⟩
  ·have:pc (val a) (val b)<0:=by simp [pc,L]
   rw[br,bk,if_pos (by simpa using this)];exact km ad _ _ _ _ rfl (u.freeze _)
  ·rw[Nat.div_eq_of_lt L];rfl
  ·rw[hl L]
 have hle:val b≤val a:=Nat.not_lt.1 L;have hlen:b.length≤a.length:=by
  by_cases h:b.length≤a.length
  ·exact h
  ·have:=nI F I (Nat.not_le.1 h);omega
 have an:¬pc (val a) (val b)<0:=by simp -implicitDefEqProofs only[pc,if_neg L];split<;> decide
 rw[br,bk,if_neg (by simpa using an),BX,Y,bl,bk];by_cases ar:b.length=1
 ·rw[if_pos (by simp [ar])];have Z:=fun(k:be)=>(A.rd s.aj).get (T:=aR) (G:=G) (X:=X) .i64 0 (by omega) k
  have aa:val b=b.getD 0 0:=by
   match b,ar with
   |[x],_=>simp [val]
  have cR:b.getD 0 0≠0:=by rw[←aa];intro e;exact K ((tq I).1 e)
  have ah:=J.getD 0;obtain⟨v,q,aq,N,as,au,av⟩:=Oa G X s.aj H a (b.getD 0 0) (u.rd _) F cR ah (by omega);have ao:=jz.fb [val a%b.getD 0 0];have aw:=mw G X s.aj _ _ (ao.rd s.aj) (by simp);have ax:val a%b.getD 0 0<B:=Nat.lt_trans (Nat.mod_lt _ (by omega)) ah;have or:dL [val a%b.getD 0 0]:=fun x a9=>by rw[List.mem_singleton.1 a9];exact ax
  refine⟨v,_,q,f3 [val a%b.getD 0 0],?_,N,as,au,ao.cut _,ll or,jc _,by rw[av,aa],by rw[j6,aa];simp [val]⟩;refine(Z _).trans ?_;rw[u.ap,aG,bd aq,gw 0 _ v rfl,gw 1 _ _ rfl];have fb:=fun(k:be)=>s8 (T:=aR) (G:=G) (X:=X) (s:=s.aj) (k:=k) [val a%b.getD 0 0]
  refine(fb _).trans ?_;rw[ao.ap,bd aw];exact km ad _ _ _ _ (N.freeze _) ((ao.cut _).freeze _)
 ·rw[if_neg (by simp;omega),BW];have Z:=fun(k:be)=>(A.rd s.aj).get (T:=aR) (G:=G) (X:=X) .i64 (b.length-1) (by omega) k
  have ay:=fun(S:ag) (k:be)=>jM (T:=aR) (G:=G) (X:=X) (s:=S) (k:=k) b.length (by omega) (by omega)
  have a4:=kE;have bQ:=J.getD (b.length-1);have iw:=I K;obtain⟨c,az,a5,aA,aC⟩:=N9 G X s.aj (b.getD (b.length-1) 0) (by omega) iw;obtain⟨oJ,vs,aD,N,lq,aE,O⟩:=Cf G X s.aj M b c (A.rd _) J (by omega) (by omega);obtain⟨a6,fL⟩:=Jl J I K lq aE O aA aC;have aF:=fun S k=>nh G X S k a.length (by omega)
  have aH:=fun(S:ag) (k:be)=>mS (T:=aR) (G:=G) (X:=X) (s:=S) (k:=k) a.length b.length hlen (by omega)
  have aI:=fun S k=>nh G X S k (a.length-b.length) (by omega)
  have aJ:=fun(S:ag) (k:be)=>po (T:=aR) (G:=G) (X:=X) (s:=S) (k:=k) (U 0) 4 (a.length+1) (a.length+1) (aB _) (by omega)
  have aK:=fun(S:ag) (k:be)=>po (T:=aR) (G:=G) (X:=X) (s:=S) (k:=k) (U 0) 4 (a.length-b.length+1) (a.length-b.length+1) (aB _) (by omega)
  let y:=s.aj.new (.cells (List.replicate (a.length+1) (U 0)))
  have A1:gQ y s.aj.own.length (List.replicate (a.length+1) 0):=gQ.make _ _;obtain⟨a7,ab,aL,se,aM,aN,el⟩:=Cf G X y H a c (u.rd _) F (by omega) (by omega);have aO:ab.length≤a.length+1:=by
   apply qn aN;rw[el,Nat.pow_succ];have aQ:=hP a F;have aS:2^c≤B:=by have:2^c≤2^32:=Nat.pow_le_pow_right (by omega) (by omega);rw[tr];exact this
   exact fX (Nat.mul_lt_mul_of_pos_right aQ (Nat.two_pow_pos c)) (Nat.mul_le_mul_left _ aS)
  let dm:=ab++(List.replicate (a.length+1) 0).drop ab.length
  have ai:dm.length=a.length+1:=by simp [dm];omega
  have ak:val dm=val a*2^c:=by simp -implicitDefEqProofs only[dm,mW,List.drop_replicate,B8,Nat.mul_zero,Nat.add_zero,el]
  have al:dL dm:=fun x a9=>by
   rcases List.mem_append.1 a9 with h|h
   ·exact aM x h
   ·exact pb _ x (List.mem_of_mem_drop h)
  have aU:=fun(k:be)=>A1.copy (T:=aR) (G:=G) (X:=X) (n:=a.length+1) (se.rd y) (by simpa using aO) (by simp) k
  have A2:gQ (y.put s.aj.own.length dm) s.aj.own.length dm:=A1.put dm
  let V:=(y.put s.aj.own.length dm).new (.cells (List.replicate (a.length-b.length+1) (U 0)))
  have A3:gQ V s.aj.own.length dm:=A2.new _;have A4:gQ V (y.put s.aj.own.length dm).own.length (List.replicate (a.length-b.length+1) 0):=gQ.make _ _;have aV:Child s V:=(((Child.aj s).new _).put _ _).new _;have e3:s.aj.own.length≠(y.put s.aj.own.length dm).own.length:=by have:=A2.lt;omega
  have aW:=Cq G X s c (val a*2^c) (a.length+1) (a.length-b.length+1) s.aj.own.length (y.put s.aj.own.length dm).own.length oJ vs N lq (by omega) fL (by omega) (by omega) (by omega) e3 (by omega) (a.length-b.length+1) 0 dm _ V (by omega) aV A3 A4 ai (by simp) al (pb _)
   (by rw[ak,l5 (by simp)];simp [val]) (Jm F I K al hlen ai ak O)
  obtain⟨v,w,q,r,hb,g2,aX,m7,ic,aY,aZ,a0,a1⟩:=aW;refine⟨v,w,q,r,?_,g2,aX,m7,ic,aY,aZ,?_,?_⟩
  ·rw[Y,ay];refine(Z _).trans ?_;rw[aG,bd az,A.ap,aG,bd aD,af,aF];refine(aJ _ _).trans ?_;rw[u.ap];refine(bd aL).trans ?_;refine(aU _).trans ?_;rw[af,Y,aH,aI];refine(aK _ _).trans ?_;rw[aT];exact hb
  ·rw[a0,O,Nat.mul_div_mul_right _ _ (Nat.two_pow_pos c)]
  ·rw[a1,O,Nat.mul_mod_mul_right,Nat.mul_div_cancel _ (Nat.two_pow_pos c)]
def ir(neg:Bool)(l:List Nat):Bool:=if l.length=0 then !neg else decide (l.length≤128)&&decide (l.getD (l.length-1) 0≠0)
abbrev my(neg:Bool)(v:ae):ae:=.agg [.bool neg,v]
theorem ue(s:ag)(neg:Bool)(v:ae)(l:List Nat)(h:jz v l)(u:l.length<9223372036854775807):aP aR G X 87 [my neg v] s=.ok (.bool (ir neg l)) s:=by
 have y:=Child.aj s;have e:=fun(S:ag) (k:be)=>(h.rd S).len (T:=aR) (G:=G) (X:=X) k S
 rw[IL,Uc];by_cases eJ:l.length=0
 ·have nV:(l.length:Int)=0:=by omega
  simp -implicitDefEqProofs only[↓cI,↓cM,↓bU,↓bk,↓aA,↓aD,↓aw,↓aE,↓aM,↓aN,↓ax,↓aF,↓aC,↓aT,↓aW,↓bc,↓dI,↓az,↓bs,↓b0,↓c1,↓b7,↓b8,↓b1,↓b9,↓ca,↓cb,↓cc,↓cd,↓cf,↓bu,↓bw,↓bx,↓c2,↓c3,↓c4,↓c5,↓c6,↓c7,↓c8,↓c9,↓da,↓cg,↓ch,↓ci,↓bl,↓cF,↓br,↓cX,↓b5,↓cA,↓cS,↓db,↓aX,↓aO,↓aY,↓aJ,↓aH,↓aZ,↓cN,↓bV,↓b2,↓cj,↓ck,↓cl,↓cm,↓cn,↓co,↓cp,↓cq,↓dy,↓dz,↓dh,↓dJ,↓cy,↓cz,↓cK,↓dl,bW,dQ,b6,decide_eq_false_iff_not,ite_not,↓reduceIte,a8,aG,ba,bz,bf,bT,cx,Nat.reduceAdd,bC,↓bi,Nat.reduceLeDiff,aB,cT,cW,dF,dw,bS,↓e,eq_true nV,ir,if_pos eJ]
 ·have nV:¬(l.length:Int)=0:=by omega
  by_cases ar:l.length≤128
  ·have dM:(l.length:Int)≤128:=by omega
   have g:=fun(k:be)=>(h.rd s.aj).get (T:=aR) (G:=G) (X:=X) .i64 (l.length-1) (by omega) k
   have r:=fun(S:ag) (k:be)=>jM (T:=aR) (G:=G) (X:=X) (s:=S) (k:=k) l.length (by omega) (by omega)
   simp -implicitDefEqProofs only[↓cI,↓cM,↓bU,↓bk,↓aA,↓aD,↓aw,↓aE,↓aM,↓aN,↓ax,↓aF,↓aC,↓aT,↓aW,↓bc,↓dI,↓az,↓bs,↓b0,↓c1,↓b7,↓b8,↓b1,↓b9,↓ca,↓cb,↓cc,↓cd,↓cf,↓bu,↓bw,↓bx,↓c2,↓c3,↓c4,↓c5,↓c6,↓c7,↓c8,↓c9,↓da,↓cg,↓ch,↓ci,↓bl,↓cF,↓br,↓cX,↓b5,↓cA,↓cS,↓db,↓aX,↓aO,↓aY,↓aJ,↓aH,↓aZ,↓cN,↓bV,↓b2,↓cj,↓ck,↓cl,↓cm,↓cn,↓co,↓cp,↓cq,↓dy,↓dz,↓dh,↓dJ,↓cy,↓cz,↓cK,↓dl,bW,dQ,b6,decide_eq_false_iff_not,ite_not,↓reduceIte,a8,aG,ba,bz,bf,bT,cx,Nat.reduceAdd,bC,↓bi,Nat.reduceLeDiff,aB,cT,cW,dF,dw,bS,↓e,eq_false nV,vJ,eq_true dM,↓r,↓g,ir,if_neg eJ,dH ar,er];congr 3;simp -implicitDefEqProofs only[ne_eq,eq_iff_iff];omega
  ·have dM:¬(l.length:Int)≤128:=by omega
   simp -implicitDefEqProofs only[↓cI,↓cM,↓bU,↓bk,↓aA,↓aD,↓aw,↓aE,↓aM,↓aN,↓ax,↓aF,↓aC,↓aT,↓aW,↓bc,↓dI,↓az,↓bs,↓b0,↓c1,↓b7,↓b8,↓b1,↓b9,↓ca,↓cb,↓cc,↓cd,↓cf,↓bu,↓bw,↓bx,↓c2,↓c3,↓c4,↓c5,↓c6,↓c7,↓c8,↓c9,↓da,↓cg,↓ch,↓ci,↓bl,↓cF,↓br,↓cX,↓b5,↓cA,↓cS,↓db,↓aX,↓aO,↓aY,↓aJ,↓aH,↓aZ,↓cN,↓bV,↓b2,↓cj,↓ck,↓cl,↓cm,↓cn,↓co,↓cp,↓cq,↓dy,↓dz,↓dh,↓dJ,↓cy,↓cz,↓cK,↓dl,bW,dQ,b6,decide_eq_false_iff_not,ite_not,↓reduceIte,a8,aG,ba,bz,bf,bT,cx,Nat.reduceAdd,bC,↓bi,Nat.reduceLeDiff,aB,cT,cW,dF,dw,bS,↓e,eq_false nV,vJ,eq_false dM,ir,if_neg eJ,bR ar,fx]
theorem Oj(s:ag)(ka y:Bool)(v1 v2:ae)(h r:List Nat)(ar:jz v1 h)(av:jz v2 r)(wI:h.length<9223372036854775807)(A:r.length<9223372036854775807):aP aR G X 113 [my ka v1,my y v2] s=.ok (.bool (ir ka h&&ir y r)) s:=by
 rw[EH,NZ];have u:=ue G X s.aj ka v1 h ar wI;have B:=ue G X s.aj y v2 r av A;cases e:ir ka h with
 |false=>rw[e] at u;simp -implicitDefEqProofs only[↓cI,↓cM,↓bU,↓bk,↓aA,↓aD,↓aw,↓aE,↓aM,↓aN,↓ax,↓aF,↓aC,↓aT,↓aW,↓bc,↓dI,↓az,↓bs,↓b0,↓c1,↓b7,↓b8,↓b1,↓b9,↓ca,↓cb,↓cc,↓cd,↓cf,↓bu,↓bw,↓bx,↓c2,↓c3,↓c4,↓c5,↓c6,↓c7,↓c8,↓c9,↓da,↓cg,↓ch,↓ci,↓bl,↓cF,↓br,↓cX,↓b5,↓cA,↓cS,↓db,↓aX,↓aO,↓aY,↓aJ,↓aH,↓aZ,↓cN,↓bV,↓b2,↓cj,↓ck,↓cl,↓cm,↓cn,↓co,↓cp,↓cq,↓dy,↓dz,↓dh,↓dJ,↓cy,↓cz,↓cK,↓dl,bW,dQ,b6,decide_eq_false_iff_not,ite_not,↓reduceIte,a8,aG,ba,bz,bf,bT,cx,Nat.reduceAdd,bC,↓bi,Nat.reduceLeDiff,aB,cT,cW,dF,dw,bS,↓(bd u),fx]
 |true=>rw[e] at u;simp -implicitDefEqProofs only[↓cI,↓cM,↓bU,↓bk,↓aA,↓aD,↓aw,↓aE,↓aM,↓aN,↓ax,↓aF,↓aC,↓aT,↓aW,↓bc,↓dI,↓az,↓bs,↓b0,↓c1,↓b7,↓b8,↓b1,↓b9,↓ca,↓cb,↓cc,↓cd,↓cf,↓bu,↓bw,↓bx,↓c2,↓c3,↓c4,↓c5,↓c6,↓c7,↓c8,↓c9,↓da,↓cg,↓ch,↓ci,↓bl,↓cF,↓br,↓cX,↓b5,↓cA,↓cS,↓db,↓aX,↓aO,↓aY,↓aJ,↓aH,↓aZ,↓cN,↓bV,↓b2,↓cj,↓ck,↓cl,↓cm,↓cn,↓co,↓cp,↓cq,↓dy,↓dz,↓dh,↓dJ,↓cy,↓cz,↓cK,↓dl,bW,dQ,b6,decide_eq_false_iff_not,ite_not,↓reduceIte,a8,aG,ba,bz,bf,bT,cx,Nat.reduceAdd,bC,↓bi,Nat.reduceLeDiff,aB,cT,cW,dF,dw,bS,↓(bd u),↓(bd B),er,if_true]
theorem Cr(s:ag)(neg:Bool)(v:ae)(l:List Nat)(h:jz v l)(Y:dL l)(A:l.length<4294967296)(bK:(f3 l).length≤128):
  ∃w,aP aR G X 115 [.bool neg,v] s=.ok (.eb [my (neg&&decide (f3 l≠[])) w,.int .i64 0]) s∧jz w (f3 l):=by
 have F:=Child.aj s;have H:=fun(S:ag)=>mw G X S v l (h.rd _) (by omega)
 have a1:jz (o1 v (g9 l l.length)) (f3 l):=h.cut _;generalize Z:o1 v (g9 l l.length)=ab at *;generalize hm:f3 l=m at *;have y:=fun(S:ag) (k:be)=>(a1.rd S).len (T:=aR) (G:=G) (X:=X) k S
 have I:¬(128:Int)<(m.length:Int):=by omega
 let e:=s.aj.new (.cells [.bool false,.cr 1 [] .nil])
 let r:=e.new (.cells (List.replicate m.length (U 0)))
 have A1:gQ r e.own.length (List.replicate m.length 0):=gQ.make _ _;have mk:=fun(k:be)=>po (T:=aR) (G:=G) (X:=X) (s:=e) (k:=k) (U 0) 4 m.length m.length (aB _) (by omega)
 have B:=fun(k:be)=>A1.copy (T:=aR) (G:=G) (X:=X) (n:=m.length) (a1.rd r) (by simp) (by simp) k
 have nV:m++(List.replicate m.length 0).drop m.length=m:=by rw[List.drop_replicate,Nat.sub_self];simp
 rw[nV] at B;have A2:gQ (r.put e.own.length m) e.own.length m:=A1.put m;have ju:Child s (r.put e.own.length m):=((F.new _).new _).put _ _;have J:(r.put e.own.length m).own[0]? =some (.cells [.bool false,.cr 1 [] .nil]):=rfl;have fin:∀b:Bool,∃w,(a0 aR G X).hq [.bool false,.cr 1 [] .nil] [(0,1,.bool b),(1,1,.cZ (.l e.own.length) 0 m.length m.length 1)] (r.put e.own.length m) (fun K s=>(a0 aR G X).cC s (fun ac s=>(a0 aR G X).a4 false [kS s (.ref (.l 0) 0) (some 2),some (.int .i64 0)] s) 2 (.ref (.l 0) 0) (ae.ap s.aa K))=.ok (.eb [my b w,.int .i64 0]) s∧jz w m:=fun b=>by
  have L:=fun(k:be)=>sv (T:=aR) (G:=G) (X:=X) (S:=r.put e.own.length m) (k:=k) (n:=2) (vs:=[.bool b,.cZ (.g (r.put e.own.length m).aa e.own.length) 0 m.length m.length 1]) J rfl rfl rfl
  let u:ag:={r.put e.own.length m with own:=(r.put e.own.length m).own.set 0 (.cells [.bool b,.cZ (.g (r.put e.own.length m).aa e.own.length) 0 m.length m.length 1])}
  have A3:gQ u e.own.length m:=by have:u.own[1]? =(r.put e.own.length m).own[1]?:=nm (by decide);exact this.trans A2
  have M:Child s u:=⟨ju.up,ju.ro⟩;obtain⟨w,ar,av⟩:=mT (S:=u) (j:=e.own.length) (off:=0) (cap:=m.length) (n:=m.length) m rfl A3 (by rw[bW];exact jr (by simp)) (by simp);refine⟨w,?_,av⟩;have A:∀k:be,(a0 aR G X).hq [.bool false,.cr 1 [] .nil] [(0,1,.bool b),(1,1,.cZ (.l e.own.length) 0 m.length m.length 1)] (r.put e.own.length m) k=k (.agg [.bool b,.cZ (.g (r.put e.own.length m).aa e.own.length) 0 m.length m.length 1]) (r.put e.own.length m):=fun k=>rfl
  rw[A,a8];refine(L _).trans ?_;have N:kS u (.ref (.l 0) 0) (some 2)=some (.agg [.bool b,.cZ (.g (r.put e.own.length m).aa e.own.length) 0 m.length m.length 1]):=vo (j:=0) (by rfl) rfl;show(a0 aR G X).a4 false [kS u (.ref (.l 0) 0) (some 2),some (.int .i64 0)] u=_;rw[N];refine km M _ _ _ _ ?_ rfl;show(fC (ev u) [_,_]).map ae.agg=_;simp -implicitDefEqProofs only[fC];rw[show ev u (.bool b)=some (.bool b) from rfl,show ev u (.cZ (.g (r.put e.own.length m).aa e.own.length) 0 m.length m.length 1)=some w from ar];rfl
 have O:decide ((0:Int)<(m.length:Int))=decide (m≠[]):=by
  congr 1;cases m with
  |nil=>simp
  |cons x m=>simp
 obtain⟨w,hw,V⟩:=fin (neg&&decide (m≠[]));refine⟨w,?_,V⟩;rw[EJ,N1,cI,h.ap,bd (H _),y,b5,bk,if_neg (by simpa using I),BY,y];refine(mk _).trans ?_;refine(B _).trans ?_;rw[b1,b0];cases neg with
 |false=>exact hw
 |true=>
  rw[if_pos rfl]
  dsimp only
  rw[y,b5,O];rw[er] at hw;rw[er];exact hw
theorem Cs(s:ag)(v:ae)(l:List Nat)(h:jz v l)(r:dL l)(bK:l.length≤2):aP aR G X 116 [v] s=.ok (.int .u64 (val l:Int)) s:=by
 have H:=Child.aj s;have u:=fun(S:ag) (k:be)=>(h.rd S).len (T:=aR) (G:=G) (X:=X) k S
 have step:∀(i x:Nat),i<l.length→x=val (l.take i)→nG (a0 aR G X) v (.int .u64 (x:Int)) (.int .i64 (l.length:Int)) (.int .i64 (i:Int)) s.aj=nG (a0 aR G X) v (.int .u64 ((val (l.take (i+1)):Nat):Int)) (.int .i64 (l.length:Int)) (.int .i64 ((i+1:Nat):Int)) s.aj:=fun i x bY a9=>by
  have ar:(i:Int)<(l.length:Int):=by omega
  have g:=fun(k:be)=>(h.rd s.aj).get (T:=aR) (G:=G) (X:=X) .i64 i bY k
  have cR:=r.getD i;rw[kE] at cR;have A:=fun(S:ag) (k:be)=>hN (T:=aR) (G:=G) (X:=X) (s:=S) (k:=k) (l.getD i 0) cR
  have Aa:∀(S:ag) (k:be),(a0 aR G X).ai S k (al .mul (.int .i64 32) (.int .i64 (i:Int)))=k (.int .i64 ((32*i:Nat):Int)) S:=fun S k=>by rw[fP,eK _ (by omega) (by omega)];congr 2
  have s1:=fun(S:ag) (k:be)=>yI (T:=aR) (G:=G) (X:=X) (s:=S) (k:=k) .i64 (l.getD i 0) (32*i) (by omega)
  have B:=fun(S:ag) (lz:be)=>mr (T:=aR) (G:=G) (X:=X) (s:=S) (k:=lz) i (by omega)
  have F:=hP (l.take i) (r.take i);have hle:(l.take i).length=i:=by simp;omega
  rw[hle,tr,←Nat.pow_mul] at F;have vs:=val_succ l i bY;have gN:∀(S:ag) (k:be),(a0 aR G X).ai S k (al .or (.int .u64 (x:Int)) (.int .u64 ((l.getD i 0*2^(32*i)%18446744073709551616:Nat):Int)))=k (.int .u64 ((val (l.take (i+1)):Nat):Int)) S:=fun S k=>by
   have I:l.getD i 0*2^(32*i)<18446744073709551616-2^(32*i)+1:=by
    have:i=0∨i=1:=by omega
    rcases this with rfl |rfl
    ·show l.getD 0 0*1<18446744073709551616-1+1;omega
    ·show l.getD 1 0*4294967296<18446744073709551616-4294967296+1;omega
   have fp:2^(32*i)≤4294967296:=by
    have:i=0∨i=1:=by omega
    rcases this with rfl |rfl <;> simp
   rw[hl (by omega)];have e:al .or (.int .u64 (x:Int)) (.int .u64 ((l.getD i 0*2^(32*i):Nat):Int))=some (.int .u64 (IntKind.wrap .u64 ((BitVec.ofInt 64 (x:Int) ||| BitVec.ofInt 64 ((l.getD i 0*2^(32*i):Nat):Int)).toNat:Int))):=by simp -implicitDefEqProofs only[al,gj,↓reduceIte];rfl
   rw[e,C9 _ _ (by omega) (by omega),cM,iI];congr 2
   have:x ||| l.getD i 0*2^(32*i)=x+l.getD i 0*2^(32*i):=by rw[Nat.or_comm,et,←Nat.two_pow_add_eq_or_of_lt (by omega),Nat.add_comm]
   rw[this,vs,a9,tr,←Nat.pow_mul,et (2^(32*i))];omega
  rw[tl,br,bk,if_pos (by simpa using ar),B0,g,A,Aa,s1,gN,BZ,B]
 have last:nG (a0 aR G X) v (.int .u64 (val l:Int)) (.int .i64 (l.length:Int)) (.int .i64 (l.length:Int)) s.aj=.ok (.int .u64 (val l:Int)) s:=by rw[tl,br,bk,if_neg (by simp),B1,aJ]
 rw[EK,N2,u]
 match l,bK with
 |[],_=>exact last
 |[x],_=>exact(step 0 0 (by simp) rfl).trans last
 |[x,y],_=>exact((step 0 0 (by simp) rfl).trans (step 1 _ (by simp) rfl)).trans last
theorem fK{s:ag}{k:be}(op:be→ah):(a0 aR G X).af (.bool true) true op s k=op k:=rfl
theorem gL{s:ag}{k:be}(op:be→ah):(a0 aR G X).af (.bool false) true op s k=k (.eb []) s:=rfl
theorem eL{s:ag}{k:be}(op:be→ah):(a0 aR G X).af (.bool false) false op s k=op k:=rfl
theorem gh{s:ag}{k:be}(op:be→ah):(a0 aR G X).af (.bool true) false op s k=k (.eb []) s:=rfl
theorem fc{s:ag}{k:be}(a b:ae):(a0 aR G X).bF s k (.bool true) a b=k a s:=rfl
theorem eM{s:ag}{k:be}(a b:ae):(a0 aR G X).bF s k (.bool false) a b=k b s:=rfl
theorem d0(a b:ah):(a0 aR G X).aK (.bool true) a b=a:=rfl
theorem ee(a b:ah):(a0 aR G X).aK (.bool false) a b=b:=rfl
theorem Ct{s S:ag}(e:Child s S){j:Nat}{cs:List ae}(h:S.own[j]? =some (.cells cs))(a1:cs.length=2)(b:Bool){w:ae}{m:List Nat}(hw:jz w m)(n:Int):
  (a0 aR G X).cC S (fun r s=>(a0 aR G X).a4 false [kS s (.ref (.l j) 0) (some 2),some (.int .i64 n)] s) 2 (.ref (.l j) 0) (.agg [.bool b,w])=.ok (.eb [my b w,.int .i64 n]) s:=by
 rw[sv (n:=2) h rfl a1 (by simp -implicitDefEqProofs only[List.all_cons,hw.eG,List.all_nil];rfl)];have df:=(eA.1 h).1;rw[vo (n:=2) (cs:=[.bool b,w]) (by simp [df]) rfl];have ju:Child s {S with own:=S.own.set j (.cells [.bool b,w])}:=⟨e.up,e.ro⟩;refine km ju (.agg [.bool b,w]) (.int .i64 n) (.agg [.bool b,w]) (.int .i64 n) ?_ rfl;show(fC (ev _) [_,_]).map ae.agg=_;simp -implicitDefEqProofs only[fC];rw[hw.ev,show ev _ (.bool b)=some (.bool b) from rfl];rfl
theorem EV(s S:ag)(y:Child s S)(A:S.own[0]? =some (.cells [.bool false,.cr 1 [] .nil])):∀(b m n:Nat),m<b→n<18446744073709551616→m<18446744073709551616→
  ∃w r,tT (a0 aR G X) (.ref (.l 0) 0) (.int .u64 (n:Int)) (.int .u64 (m:Int)) S=.ok (.eb [my false w,.int .i64 0]) s∧jz w r∧dL r∧e6 r∧val r=Nat.gcd n m:=by
 intro b
 induction b with
 |zero=>intro m n h;omega
 |succ b B=>
  intro m n L dk hm;rw[DG,b5];by_cases eJ:m=0
  ·subst eJ;have F:=fun(S:ag) (k:be)=>dl (T:=aR) (G:=G) (X:=X) (s:=S) (k:=k) .u64 n
   have H:=fun(S:ag) (k:be)=>dl (T:=aR) (G:=G) (X:=X) (s:=S) (k:=k) .u64 (n/4294967296)
   have fb:=fun(k:be)=>s8 (T:=aR) (G:=G) (X:=X) (s:=S) (k:=k) [n%4294967296,n/4294967296%4294967296]
   have ao:=jz.fb [n%4294967296,n/4294967296%4294967296];have e:dL [n%4294967296,n/4294967296%4294967296]:=fun x a9=>by rw[kE];simp at a9;omega
   have bJ:val [n%4294967296,n/4294967296%4294967296]=n:=by simp -implicitDefEqProofs only[val,kE];omega
   have bK:(f3 [n%4294967296,n/4294967296%4294967296]).length≤128:=by
    rw[h9]
    have:=jn [n%4294967296,n/4294967296%4294967296] 2;exact Nat.le_trans this (by decide)
   obtain⟨w,I,u⟩:=Cr G X S false _ _ ao e (by simp) bK;refine⟨w,_,?_,u,ll e,jc _,by rw[j6,bJ,Nat.gcd_zero_right]⟩;rw[show decide ((0:Int)<((0:Nat):Int))=false from rfl,ee,DF,F,cz,H];refine(fb _).trans ?_;rw[ao.ap,ba,bd I,gw 0 _ _ rfl,gw 1 _ _ rfl,a8];exact Ct G X y A rfl _ u 0
  ·have ar:(0:Int)<(m:Int):=by omega
   obtain⟨w,r,av,bO,dD,J,K⟩:=B (n%m) m (by have:=Nat.mod_lt n (Nat.pos_of_ne_zero eJ);omega) hm (by have:=Nat.mod_lt n (Nat.pos_of_ne_zero eJ);omega);refine⟨w,r,?_,bO,dD,J,by rw[K,Nat.gcd_comm,←Nat.gcd_rec,Nat.gcd_comm]⟩;rw[dH ar,d0,DE,yH _ _ eJ];exact av
theorem EW(s S:ag)(Y:Child s S)(Z:S.own[0]? =some (.cells [.bool false,.cr 1 [] .nil])):∀(b:Nat) (u A:ae) (x y:List Nat),val y<b→jz u x→jz A y→dL x→dL y→e6 x→e6 y→x.length≤128→y.length≤128→
  ∃w r,tU (a0 aR G X) (.ref (.l 0) 0) u A S=.ok (.eb [my false w,.int .i64 0]) s∧jz w r∧dL r∧e6 r∧val r=Nat.gcd (val x) (val y):=by
 intro b
 induction b with
 |zero=>intro u A x y h;omega
 |succ b aj=>
  intro u A x y ay H I F K N O ak aa;have L:=fun(S:ag) (k:be)=>(H.rd S).len (T:=aR) (G:=G) (X:=X) k S
  have J:=fun(S:ag) (k:be)=>(I.rd S).len (T:=aR) (G:=G) (X:=X) k S
  have ab:(y=[]∨(x.length≤2∧y.length≤2))→∃w r,y2 (a0 aR G X) (.ref (.l 0) 0) u A S=.ok (.eb [my false w,.int .i64 0]) s∧jz w r∧dL r∧e6 r∧val r=Nat.gcd (val x) (val y):=fun ac=>by
   by_cases av:x.length≤2
   ·have ad:y.length≤2:=by
     rcases ac with h|h
     ·subst h;simp
     ·exact h.2
    have small:∀l:List Nat,dL l→l.length≤2→val l<18446744073709551616:=fun l al bK=>by
     have bO:=hP l al;have dD:B^l.length≤B^2:=od bK;have az:B^2=18446744073709551616:=by decide
     omega
    obtain⟨w,r,hb,g2⟩:=EV G X s S Y Z (val y+1) (val y) (val x) (by omega) (small x F av) (small y K ad);refine⟨w,r,?_,g2⟩;have e:¬(2:Int)<(x.length:Int):=by omega
    rw[vK,L,b5,bR e,ee,DH,H.ap,bd (Cs G X S u x H F av),I.ap,bd (Cs G X S A y I K ad)];exact hb
   ·have eQ:y=[]:=by
     rcases ac with h|h
     ·exact h
     ·exact absurd h.1 av
    subst eQ;have e:(2:Int)<(x.length:Int):=by omega
    have af:f3 x=x:=by have ar:=j6 x;exact val_inj (ll F) F (v3 (ll F) F (jc x) N ar) ar
    obtain⟨w,am,U⟩:=Cr G X S false u x H F (by omega) (by rw[af];exact ak);rw[af] at U;refine⟨w,x,?_,U,F,N,by simp [val]⟩;rw[vK,L,b5,dH e,d0,H.ap,ba,bd am,gw 0 _ _ rfl,gw 1 _ _ rfl,a8];exact Ct G X Y Z rfl _ U 0
  by_cases eQ:y=[]
  ·obtain⟨w,r,hb,g2⟩:=ab (.inl eQ);refine⟨w,r,?_,g2⟩;have e:¬(0:Int)<(y.length:Int):=by subst eQ;simp
   rw[oc,J,b5,bR e];simp -implicitDefEqProofs only[gL,eM,ee];exact hb
  ·have e:(0:Int)<(y.length:Int):=by have:=List.length_pos_iff.2 eQ;omega
   have an:val y≠0:=fun h=>eQ ((tq O).1 h)
   have ah:∃w r,y1 (a0 aR G X) (.ref (.l 0) 0) u A S=.ok (.eb [my false w,.int .i64 0]) s∧jz w r∧dL r∧e6 r∧val r=Nat.gcd (val x) (val y):=by
    obtain⟨v,w,q,r,aq,aA,aB,aC,ao,or,ai,eq,as⟩:=Oi G X S u A x y H I F K N O eQ (by omega) (by omega);have aD:=Nat.mod_lt (val x) (Nat.pos_of_ne_zero an);have au:r.length≤128:=by have bO:=hP y K;have dD:B^y.length≤B^128:=od aa;exact qn ai (by omega)
    obtain⟨aw,qG,hb,g2,ax,m7,ic⟩:=aj A w y r (by omega) I ao K or O ai aa au;refine⟨aw,qG,?_,g2,ax,m7,by rw[ic,as,Nat.gcd_comm,←Nat.gcd_rec,Nat.gcd_comm]⟩;rw[DD,H.ap,I.ap,bd aq,gw 0 _ v rfl,gw 1 _ w rfl];exact hb
   by_cases av:2<x.length
   ·obtain⟨w,r,hb,g2⟩:=ah;refine⟨w,r,?_,g2⟩;have M:(2:Int)<(x.length:Int):=by omega
    rw[oc,J,b5,dH e];simp -implicitDefEqProofs only[fK,gh,fc,d0,↓L,↓b5,dH M];exact hb
   ·have M:¬(2:Int)<(x.length:Int):=by omega
    by_cases bO:2<y.length
    ·obtain⟨w,r,hb,g2⟩:=ah;refine⟨w,r,?_,g2⟩;have V:(2:Int)<(y.length:Int):=by omega
     rw[oc,J,b5,dH e];simp -implicitDefEqProofs only[fK,gh,eL,fc,eM,d0,↓L,↓J,↓b5,bR M,dH V];exact hb
    ·obtain⟨w,r,hb,g2⟩:=ab (.inr ⟨by omega,by omega⟩);refine⟨w,r,?_,g2⟩;have V:¬(2:Int)<(y.length:Int):=by omega
     rw[oc,J,b5,dH e];simp -implicitDefEqProofs only[fK,gh,eL,fc,eM,ee,↓L,↓J,↓b5,bR M,bR V];exact hb
theorem nj{n:Bool}{l:List Nat}(h:ir n l=true):e6 l∧l.length≤128:=by
 unfold ir at h;split at h
 ·rename_i eJ;exact⟨fun e3=>absurd (kF eJ) e3,by omega⟩
 ·simp -implicitDefEqProofs only[bm,b6] at h;exact⟨fun _=>h.2,h.1⟩
theorem UK(s:ag)(ka e:Bool)(v1 v2:ae)(x y:List Nat)(h:jz v1 x)(u:jz v2 y)(B:dL x)(F:dL y)(a9:ir ka x=true)(eQ:ir e y=true):
  ∃w r,aP aR G X 90 [my ka v1,my e v2] s=.ok (.eb [my false w,.int .i64 0]) s∧jz w r∧dL r∧e6 r∧val r=Nat.gcd (val x) (val y):=by
 obtain⟨H,I⟩:=nj a9;obtain⟨J,K⟩:=nj eQ;have L:Child s (s.aj.new (.cells [.bool false,.cr 1 [] .nil])):=(Child.aj s).new _;obtain⟨w,r,ar,av⟩:=EW G X s _ L (by rfl) (val y+1) v1 v2 x y (by omega) h u B F H J I K;refine⟨w,r,?_,av⟩;have A:=Oj G X (s.aj.new (.cells [.bool false,.cr 1 [] .nil])) ka e v1 v2 x y h u (by omega) (by omega);rw[a9,eQ,bC] at A;rw[IM,Ud];simp -implicitDefEqProofs only[↓cI,↓cM,↓bU,↓bk,↓aA,↓aD,↓aw,↓aE,↓aM,↓aN,↓ax,↓aF,↓aC,↓aT,↓aW,↓bc,↓dI,↓az,↓bs,↓b0,↓c1,↓b7,↓b8,↓b1,↓b9,↓ca,↓cb,↓cc,↓cd,↓cf,↓bu,↓bw,↓bx,↓c2,↓c3,↓c4,↓c5,↓c6,↓c7,↓c8,↓c9,↓da,↓cg,↓ch,↓ci,↓bl,↓cF,↓br,↓cX,↓b5,↓cA,↓cS,↓db,↓aX,↓aO,↓aY,↓aJ,↓aH,↓aZ,↓cN,↓bV,↓b2,↓cj,↓ck,↓cl,↓cm,↓cn,↓co,↓cp,↓cq,↓dy,↓dz,↓dh,↓dJ,↓cy,↓cz,↓cK,↓dl,bW,dQ,b6,decide_eq_false_iff_not,ite_not,↓reduceIte,a8,aG,ba,bz,bf,bT,cx,Nat.reduceAdd,bC,↓bi,Nat.reduceLeDiff,aB,cT,cW,dF,dw,bS,↓(bd A),g3,DI];exact ar
def sB(n:Bool)(l:List Nat):Bool:= !n&&decide (l=[1])
theorem Jn{l:List Nat}(h:l.length=1):l=[1]↔l.getD 0 0=1:=by
 match l,h with
 |[x],_=>simp [List.getD]
theorem HY(s:ag)(n:Bool)(v:ae)(l:List Nat)(h:jz v l):aP aR G X 89 [my n v] s=.ok (.bool (sB n l)) s:=by
 have r:=fun(S:ag) (k:be)=>(h.rd S).len (T:=aR) (G:=G) (X:=X) k S
 rw[IQ,Ug];cases n with
 |true=>simp -implicitDefEqProofs only[↓cI,↓cM,↓bU,↓bk,↓aA,↓aD,↓aw,↓aE,↓aM,↓aN,↓ax,↓aF,↓aC,↓aT,↓aW,↓bc,↓dI,↓az,↓bs,↓b0,↓c1,↓b7,↓b8,↓b1,↓b9,↓ca,↓cb,↓cc,↓cd,↓cf,↓bu,↓bw,↓bx,↓c2,↓c3,↓c4,↓c5,↓c6,↓c7,↓c8,↓c9,↓da,↓cg,↓ch,↓ci,↓bl,↓cF,↓br,↓cX,↓b5,↓cA,↓cS,↓db,↓aX,↓aO,↓aY,↓aJ,↓aH,↓aZ,↓cN,↓bV,↓b2,↓cj,↓ck,↓cl,↓cm,↓cn,↓co,↓cp,↓cq,↓dy,↓dz,↓dh,↓dJ,↓cy,↓cz,↓cK,↓dl,bW,dQ,b6,decide_eq_false_iff_not,ite_not,↓reduceIte,a8,aG,ba,bz,bf,bT,cx,Nat.reduceAdd,bC,↓bi,Nat.reduceLeDiff,aB,cT,cW,dF,dw,bS,g3,sB,fx]
 |false=>
  by_cases ar:l.length=1
  ·have e:(l.length:Int)=1:=by omega
   have g:=fun(k:be)=>(h.rd s.aj).get (T:=aR) (G:=G) (X:=X) .i64 0 (by omega) k
   have g':∀k:be,(a0 aR G X).cL s.aj (fun v S=>(a0 aR G X).ay S k none v) 1 v (.int .i64 0)=k (U (l.getD 0 0)) s.aj:=g;simp -implicitDefEqProofs only[↓cI,↓cM,↓bU,↓bk,↓aA,↓aD,↓aw,↓aE,↓aM,↓aN,↓ax,↓aF,↓aC,↓aT,↓aW,↓bc,↓dI,↓az,↓bs,↓b0,↓c1,↓b7,↓b8,↓b1,↓b9,↓ca,↓cb,↓cc,↓cd,↓cf,↓bu,↓bw,↓bx,↓c2,↓c3,↓c4,↓c5,↓c6,↓c7,↓c8,↓c9,↓da,↓cg,↓ch,↓ci,↓bl,↓cF,↓br,↓cX,↓b5,↓cA,↓cS,↓db,↓aX,↓aO,↓aY,↓aJ,↓aH,↓aZ,↓cN,↓bV,↓b2,↓cj,↓ck,↓cl,↓cm,↓cn,↓co,↓cp,↓cq,↓dy,↓dz,↓dh,↓dJ,↓cy,↓cz,↓cK,↓dl,bW,dQ,b6,decide_eq_false_iff_not,ite_not,↓reduceIte,a8,aG,ba,bz,bf,bT,cx,Nat.reduceAdd,bC,↓bi,Nat.reduceLeDiff,aB,cT,cW,dF,dw,bS,g1,sB,er,↓r,eq_true e,↓g'];congr 3;rw[eq_iff_iff,Jn ar];omega
  ·have e:¬(l.length:Int)=1:=by omega
   have:¬l=[1]:=fun e=>ar (by rw[e];rfl)
   simp -implicitDefEqProofs only[↓cI,↓cM,↓bU,↓bk,↓aA,↓aD,↓aw,↓aE,↓aM,↓aN,↓ax,↓aF,↓aC,↓aT,↓aW,↓bc,↓dI,↓az,↓bs,↓b0,↓c1,↓b7,↓b8,↓b1,↓b9,↓ca,↓cb,↓cc,↓cd,↓cf,↓bu,↓bw,↓bx,↓c2,↓c3,↓c4,↓c5,↓c6,↓c7,↓c8,↓c9,↓da,↓cg,↓ch,↓ci,↓bl,↓cF,↓br,↓cX,↓b5,↓cA,↓cS,↓db,↓aX,↓aO,↓aY,↓aJ,↓aH,↓aZ,↓cN,↓bV,↓b2,↓cj,↓ck,↓cl,↓cm,↓cn,↓co,↓cp,↓cq,↓dy,↓dz,↓dh,↓dJ,↓cy,↓cz,↓cK,↓dl,bW,dQ,b6,decide_eq_false_iff_not,ite_not,↓reduceIte,a8,aG,ba,bz,bf,bT,cx,Nat.reduceAdd,bC,↓bi,Nat.reduceLeDiff,aB,cT,cW,dF,dw,bS,g1,sB,er,↓r,eq_false e,eq_false this]
theorem UL(s:ag)(n:Bool)(v:ae)(l:List Nat)(h:jz v l):aP aR G X 88 [my n v] s=.ok (.bool (decide (l=[]))) s:=by
 have e:=fun(S:ag) (k:be)=>(h.rd S).len (T:=aR) (G:=G) (X:=X) k S
 rw[IP,Uf];simp -implicitDefEqProofs only[↓cI,↓cM,↓bU,↓bk,↓aA,↓aD,↓aw,↓aE,↓aM,↓aN,↓ax,↓aF,↓aC,↓aT,↓aW,↓bc,↓dI,↓az,↓bs,↓b0,↓c1,↓b7,↓b8,↓b1,↓b9,↓ca,↓cb,↓cc,↓cd,↓cf,↓bu,↓bw,↓bx,↓c2,↓c3,↓c4,↓c5,↓c6,↓c7,↓c8,↓c9,↓da,↓cg,↓ch,↓ci,↓bl,↓cF,↓br,↓cX,↓b5,↓cA,↓cS,↓db,↓aX,↓aO,↓aY,↓aJ,↓aH,↓aZ,↓cN,↓bV,↓b2,↓cj,↓ck,↓cl,↓cm,↓cn,↓co,↓cp,↓cq,↓dy,↓dz,↓dh,↓dJ,↓cy,↓cz,↓cK,↓dl,bW,dQ,b6,decide_eq_false_iff_not,ite_not,↓reduceIte,a8,aG,ba,bz,bf,bT,cx,Nat.reduceAdd,bC,↓bi,Nat.reduceLeDiff,aB,cT,cW,dF,dw,bS,↓e];congr 3;rw[eq_iff_iff];cases l<;> simp <;> omega
def mX(ka e:Bool)(x y:List Nat):Bool:=ir ka x&&ir e y&& !e&&decide (y≠[])&&decide (Nat.gcd (val x) (val y)=1)
theorem Cu{l:List Nat}(e:dL l)(r:e6 l):l=[1]↔val l=1:=by
 constructor
 ·intro h;subst h;simp [val]
 ·intro h;have gN:dL [1]:=fun x a9=>by rw[List.mem_singleton.1 a9,kE];omega
  have u:e6 [1]:=fun _=>by simp
  have v1:val [1]=1:=by simp [val]
  exact val_inj e gN (v3 e gN r u (by rw[h,v1])) (by rw[h,v1])
theorem UM(s:ag)(ka h:Bool)(v1 v2:ae)(x y:List Nat)(F:jz v1 x)(B:jz v2 y)(K:dL x)(H:dL y)(L:x.length<9223372036854775807)(M:y.length<9223372036854775807):
  aP aR G X 71 [.agg [.bool ka,v1,.bool h,v2]] s=.ok (.bool (mX ka h x y)) s:=by
 have u:=ue G X s.aj ka v1 x F L;have A:=ue G X s.aj h v2 y B M;have I:=UL G X s.aj h v2 y B;have N:=HY G X s.aj h v2 y B;rw[IN,Ue];cases dM:ir ka x with
 |false=>rw[dM] at u;simp -implicitDefEqProofs only[↓cI,↓cM,↓bU,↓bk,↓aA,↓aD,↓aw,↓aE,↓aM,↓aN,↓ax,↓aF,↓aC,↓aT,↓aW,↓bc,↓dI,↓az,↓bs,↓b0,↓c1,↓b7,↓b8,↓b1,↓b9,↓ca,↓cb,↓cc,↓cd,↓cf,↓bu,↓bw,↓bx,↓c2,↓c3,↓c4,↓c5,↓c6,↓c7,↓c8,↓c9,↓da,↓cg,↓ch,↓ci,↓bl,↓cF,↓br,↓cX,↓b5,↓cA,↓cS,↓db,↓aX,↓aO,↓aY,↓aJ,↓aH,↓aZ,↓cN,↓bV,↓b2,↓cj,↓ck,↓cl,↓cm,↓cn,↓co,↓cp,↓cq,↓dy,↓dz,↓dh,↓dJ,↓cy,↓cz,↓cK,↓dl,bW,dQ,b6,decide_eq_false_iff_not,ite_not,↓reduceIte,a8,aG,ba,bz,bf,bT,cx,Nat.reduceAdd,bC,↓bi,Nat.reduceLeDiff,aB,cT,cW,dF,dw,bS,↓(bd u),g1,mX,dM,fx]
 |true=>
  rw[dM] at u;cases e:ir h y with
  |false=>rw[e] at A;simp -implicitDefEqProofs only[↓cI,↓cM,↓bU,↓bk,↓aA,↓aD,↓aw,↓aE,↓aM,↓aN,↓ax,↓aF,↓aC,↓aT,↓aW,↓bc,↓dI,↓az,↓bs,↓b0,↓c1,↓b7,↓b8,↓b1,↓b9,↓ca,↓cb,↓cc,↓cd,↓cf,↓bu,↓bw,↓bx,↓c2,↓c3,↓c4,↓c5,↓c6,↓c7,↓c8,↓c9,↓da,↓cg,↓ch,↓ci,↓bl,↓cF,↓br,↓cX,↓b5,↓cA,↓cS,↓db,↓aX,↓aO,↓aY,↓aJ,↓aH,↓aZ,↓cN,↓bV,↓b2,↓cj,↓ck,↓cl,↓cm,↓cn,↓co,↓cp,↓cq,↓dy,↓dz,↓dh,↓dJ,↓cy,↓cz,↓cK,↓dl,bW,dQ,b6,decide_eq_false_iff_not,ite_not,↓reduceIte,a8,aG,ba,bz,bf,bT,cx,Nat.reduceAdd,bC,↓bi,Nat.reduceLeDiff,aB,cT,cW,dF,dw,bS,↓(bd u),↓(bd A),g3,g1,mX,dM,e,fx,Bool.and_false]
  |true=>
   rw[e] at A;cases h with
   |true=>simp -implicitDefEqProofs only[↓cI,↓cM,↓bU,↓bk,↓aA,↓aD,↓aw,↓aE,↓aM,↓aN,↓ax,↓aF,↓aC,↓aT,↓aW,↓bc,↓dI,↓az,↓bs,↓b0,↓c1,↓b7,↓b8,↓b1,↓b9,↓ca,↓cb,↓cc,↓cd,↓cf,↓bu,↓bw,↓bx,↓c2,↓c3,↓c4,↓c5,↓c6,↓c7,↓c8,↓c9,↓da,↓cg,↓ch,↓ci,↓bl,↓cF,↓br,↓cX,↓b5,↓cA,↓cS,↓db,↓aX,↓aO,↓aY,↓aJ,↓aH,↓aZ,↓cN,↓bV,↓b2,↓cj,↓ck,↓cl,↓cm,↓cn,↓co,↓cp,↓cq,↓dy,↓dz,↓dh,↓dJ,↓cy,↓cz,↓cK,↓dl,bW,dQ,b6,decide_eq_false_iff_not,ite_not,↓reduceIte,a8,aG,ba,bz,bf,bT,cx,Nat.reduceAdd,bC,↓bi,Nat.reduceLeDiff,aB,cT,cW,dF,dw,bS,↓(bd u),↓(bd A),g3,mX,dM,e,fx,Bool.and_false]
   |false=>
    by_cases eQ:y=[]
    ·simp -implicitDefEqProofs only[↓cI,↓cM,↓bU,↓bk,↓aA,↓aD,↓aw,↓aE,↓aM,↓aN,↓ax,↓aF,↓aC,↓aT,↓aW,↓bc,↓dI,↓az,↓bs,↓b0,↓c1,↓b7,↓b8,↓b1,↓b9,↓ca,↓cb,↓cc,↓cd,↓cf,↓bu,↓bw,↓bx,↓c2,↓c3,↓c4,↓c5,↓c6,↓c7,↓c8,↓c9,↓da,↓cg,↓ch,↓ci,↓bl,↓cF,↓br,↓cX,↓b5,↓cA,↓cS,↓db,↓aX,↓aO,↓aY,↓aJ,↓aH,↓aZ,↓cN,↓bV,↓b2,↓cj,↓ck,↓cl,↓cm,↓cn,↓co,↓cp,↓cq,↓dy,↓dz,↓dh,↓dJ,↓cy,↓cz,↓cK,↓dl,bW,dQ,b6,decide_eq_false_iff_not,ite_not,↓reduceIte,a8,aG,ba,bz,bf,bT,cx,Nat.reduceAdd,bC,↓bi,Nat.reduceLeDiff,aB,cT,cW,dF,dw,bS,↓(bd u),↓(bd A),↓(bd I),g3,mX,dM,e,eQ,fx,Bool.and_false,ne_eq,not_true_eq_false]
    ·obtain⟨O,ab⟩:=nj e;simp -implicitDefEqProofs only[↓cI,↓cM,↓bU,↓bk,↓aA,↓aD,↓aw,↓aE,↓aM,↓aN,↓ax,↓aF,↓aC,↓aT,↓aW,↓bc,↓dI,↓az,↓bs,↓b0,↓c1,↓b7,↓b8,↓b1,↓b9,↓ca,↓cb,↓cc,↓cd,↓cf,↓bu,↓bw,↓bx,↓c2,↓c3,↓c4,↓c5,↓c6,↓c7,↓c8,↓c9,↓da,↓cg,↓ch,↓ci,↓bl,↓cF,↓br,↓cX,↓b5,↓cA,↓cS,↓db,↓aX,↓aO,↓aY,↓aJ,↓aH,↓aZ,↓cN,↓bV,↓b2,↓cj,↓ck,↓cl,↓cm,↓cn,↓co,↓cp,↓cq,↓dy,↓dz,↓dh,↓dJ,↓cy,↓cz,↓cK,↓dl,bW,dQ,b6,decide_eq_false_iff_not,ite_not,↓reduceIte,a8,aG,ba,bz,bf,bT,cx,Nat.reduceAdd,bC,↓bi,Nat.reduceLeDiff,aB,cT,cW,dF,dw,bS,↓(bd u),↓(bd A),↓(bd I),↓(bd N),g3,mX,dM,e,eq_false eQ,g1,er,ne_eq,not_false_eq_true,DK];by_cases ar:y=[1]
     ·have:Nat.gcd (val x) (val y)=1:=by rw[(Cu H O).1 ar,Nat.gcd_one_right]
      simp -implicitDefEqProofs only[sB,g1,er,dH ar,eq_true this,↓cI,↓cM,↓bU,↓bk,↓aA,↓aD,↓aw,↓aE,↓aM,↓aN,↓ax,↓aF,↓aC,↓aT,↓aW,↓bc,↓dI,↓az,↓bs,↓b0,↓c1,↓b7,↓b8,↓b1,↓b9,↓ca,↓cb,↓cc,↓cd,↓cf,↓bu,↓bw,↓bx,↓c2,↓c3,↓c4,↓c5,↓c6,↓c7,↓c8,↓c9,↓da,↓cg,↓ch,↓ci,↓bl,↓cF,↓br,↓cX,↓b5,↓cA,↓cS,↓db,↓aX,↓aO,↓aY,↓aJ,↓aH,↓aZ,↓cN,↓bV,↓b2,↓cj,↓ck,↓cl,↓cm,↓cn,↓co,↓cp,↓cq,↓dy,↓dz,↓dh,↓dJ,↓cy,↓cz,↓cK,↓dl,bW,dQ,b6,decide_eq_false_iff_not,ite_not,↓reduceIte,a8,aG,ba,bz,bf,bT,cx,Nat.reduceAdd,bC,↓bi,Nat.reduceLeDiff,aB,cT,cW,dF,dw,bS,if_true]
     ·obtain⟨w,r,U,J,or,V,Y⟩:=UK G X s.aj ka false v1 v2 x y F B K H dM e;have Z:=fun S:ag=>HY G X S false w r J
      have aa:=fun(k:be)=>cN (T:=aR) (G:=G) (X:=X) (s:=s.aj) (k:=k) 2 [.bool false,w] [.bool false,.cr 1 [] .nil] rfl rfl (by simp -implicitDefEqProofs only[List.all_cons,J.eG,List.all_nil];rfl)
      simp -implicitDefEqProofs only[sB,g1,er,bR ar,bS,if_false,DJ,↓cI,↓cM,↓bU,↓bk,↓aA,↓aD,↓aw,↓aE,↓aM,↓aN,↓ax,↓aF,↓aC,↓aT,↓aW,↓bc,↓dI,↓az,↓bs,↓b0,↓c1,↓b7,↓b8,↓b1,↓b9,↓ca,↓cb,↓cc,↓cd,↓cf,↓bu,↓bw,↓bx,↓c2,↓c3,↓c4,↓c5,↓c6,↓c7,↓c8,↓c9,↓da,↓cg,↓ch,↓ci,↓bl,↓cF,↓br,↓cX,↓b5,↓cA,↓cS,↓db,↓aX,↓aO,↓aY,↓aJ,↓aH,↓aZ,↓cN,↓bV,↓b2,↓cj,↓ck,↓cl,↓cm,↓cn,↓co,↓cp,↓cq,↓dy,↓dz,↓dh,↓dJ,↓cy,↓cz,↓cK,↓dl,bW,dQ,b6,decide_eq_false_iff_not,ite_not,↓reduceIte,a8,aG,ba,bz,bf,bT,cx,Nat.reduceAdd,bC,↓bi,Nat.reduceLeDiff,aB,cT,cW,dF,dw,bS,↓(bd U),↓nd,↓nf,↓aa,↓(bd (Z _))];rw[il ((Child.aj s).new _)];congr 3;rw[eq_iff_iff,Cu or V,Y]
end Go.gR
end
section
namespace Go.hO
theorem getD_none(l:List Nat)(i:Nat)(h:l.length≤i):l.getD i 0=0:=by simp only[List.getD];rw[List.getElem?_eq_none h];rfl
end Go.hO
end
section
namespace Go.gR
open Go.Ab Go.hO
variable(G:Nat→ae)(X:Nat→List ae→ag→ah)
abbrev I(n:Int):ae:=.int .i64 n
structure hV where
 neg:Bool
 pB:List Nat
 g:e2
def hV.v(n:hV):ae:=.cr 1 (n.pB.map U) n.g
structure oz (n:hV):Prop where
 g:∀a,n.g≠.dt a
 ok:dL n.pB
 len:n.pB.length<9223372036854775807
theorem oz.jt{n:hV}(h:oz n):jz n.v n.pB:=⟨n.g,rfl,h.g⟩
structure a5 where
 name:List Nat
 op:Int
 args:List Int
 pd:e2
 iw:hV
 bQ:hV
 qk:hV
 pt:hV
 nl:Int
abbrev fY(l:List Int)(g:e2):ae:=.cr 1 (l.map I) g
def a5.cs(x:a5):List ae:=[.str x.name,I x.op,fY x.args x.pd,.bool x.iw.neg,x.iw.v,.bool x.bQ.neg,x.bQ.v,.bool x.qk.neg,x.qk.v,.bool x.pt.neg,x.pt.v,I x.nl]
def a5.enc(x:a5):ae:=.agg x.cs
structure qo (x:a5):Prop where
 pd:∀a,x.pd≠.dt a
 OG:x.args.length<9223372036854775807
 iw:oz x.iw
 bQ:oz x.bQ
 qk:oz x.qk
 pt:oz x.pt
theorem kX{g:e2}(h:∀a,g≠.dt a)(sz:Nat)(es:List ae):ae.bb (.cr sz es g)=true:=by cases g<;> first|rfl |exact absurd rfl (h _)
theorem zo{g:e2}(h:∀a,g≠.dt a)(d:Nat):g.ap d=g:=by cases g<;> first|rfl |exact absurd rfl (h _)
theorem xR{g:e2}(h:∀a,g≠.dt a)(S:ag)(sz:Nat)(es:List ae):Ab.freeze S (.cr sz es g)=some (.cr sz es g):=by show Ab.ev S _=_;cases g<;> first|rfl |exact absurd rfl (h _)
theorem qo.bb{x:a5}(h:qo x):x.enc.bb=true:=by simp -implicitDefEqProofs only[a5.enc,a5.cs,ae.bb,ae.a7,hV.v,kX h.pd,kX h.iw.g,kX h.bQ.g,kX h.qk.g,kX h.pt.g,bC]
theorem a5.cells(x:a5):x.cs.all ae.eG=true:=rfl
def gq(op:Int):List Int:=
 if op=2 then[0] else if op=3 then[1,1] else if op=4 then[2,2] else if op=5 then[1,1] else if op=6∨op=7 then[1,1,1] else if op=8 then[2,3] else if op=9 then[3,3]
 else if op=10∨op=11 then[1,2] else if op=12 then[1,1] else if op=13 then[1,2] else if op=14 then[1,1,1] else if op=15 then[1,3] else if op=16 then[3] else[]
def fE(op:Int):Int:=
 if op=1∨op=2∨op=4∨op=8∨op=9∨op=12∨op=13∨op=16 then 1 else if op=3∨op=10∨op=11∨op=14∨op=15 then 2 else if op=5∨op=6∨op=7 then 3 else 0
def iD(op:Int):Bool:=decide (op=8∨op=9∨op=14∨op=15)
def pW(op:Int):e2:=if 2≤op∧op≤16 then .exact else .nil
abbrev mz(op:Int):ae:=.eb [fY (gq op) (pW op),I (fE op),.bool (iD op)]
theorem VB{s S:ag}(e:Child s S)(v:ae)(n:Int)(b:Bool)(bJ:Ab.freeze S v=some v):(a0 aR G X).a4 false [some v,some (.int .i64 n),some (.bool b)] S=.ok (.eb [v,.int .i64 n,.bool b]) s:=by obtain⟨ar,av⟩:=e;show rh false [some v,some (.int .i64 n),some (.bool b)] S=_;unfold rh;simp -implicitDefEqProofs only[fC,f0,ep,cond_false,bJ,show Ab.freeze S (.int .i64 n)=some (.int .i64 n) from rfl,show Ab.freeze S (.bool b)=some (.bool b) from rfl,sH,ar,av]
theorem v8(op:Int):op=1∨op=2∨op=3∨op=4∨op=5∨op=6∨op=7∨op=8∨op=9∨op=10∨op=11∨op=12∨op=13∨op=14∨op=15∨op=16∨(op≠1∧op≠2∧op≠3∧op≠4∧op≠5∧op≠6∧op≠7∧op≠8∧op≠9∧op≠10∧op≠11∧op≠12∧op≠13∧op≠14∧op≠15∧op≠16):=by omega
theorem uf(op:Int)(s:ag):aP aR G X 21 [I op] s=.ok (mz op) s:=by
 rw[I0,Uq];rcases v8 op with h|h|h|h|h|h|h|h|h|h|h|h|h|h|h|h|h
 all_goals try (subst h;kernel_rfl)
 obtain⟨ar,av,bO,dD,r,u,y,A,B,F,H,J,K,L,M,N⟩:=h;simp -implicitDefEqProofs only[bl,ee,bR ar,bR av,bR bO,bR dD,bR r,bR u,bR y,bR A,bR B,bR F,bR H,bR J,bR K,bR L,bR M,bR N,D5,D4,D3];have e:mz op=.eb [fY [] .nil,I 0,.bool false]:=by
  unfold mz;have g:pW op=.nil:=by unfold pW;rw[if_neg (by omega)]
  rw[g];simp [gq,fE,iD,ar,av,bO,dD,r,u,y,A,B,F,H,J,K,L,M,N]
 rw[e];exact VB G X (.aj s) _ _ _ rfl
theorem HZ(op:Int)(s:ag):aP aR G X 34 [I op] s=.ok (mz op) s:=by
 rw[IY,Uo];rcases v8 op with h|h|h|h|h|h|h|h|h|h|h|h|h|h|h|h|h
 all_goals try (subst h;kernel_rfl)
 obtain⟨ar,av,bO,dD,r,u,y,A,B,F,H,J,K,L,M,N⟩:=h;simp -implicitDefEqProofs only[bl,ee,bR ar,bR av,bR bO,bR dD,bR r,bR u,bR y,bR A,bR B,bR F,bR H,bR J,bR K,bR L,bR M,bR N,D2,D1,D0];have e:mz op=.eb [fY [] .nil,I 0,.bool false]:=by
  unfold mz;have g:pW op=.nil:=by unfold pW;rw[if_neg (by omega)]
  rw[g];simp [gq,fE,iD,ar,av,bO,dD,r,u,y,A,B,F,H,J,K,L,M,N]
 rw[e];exact VB G X (.aj s) _ _ _ rfl
theorem zp(x:a5)(s:ag):aP aR G X 48 [x.enc] s=.ok (I (fE x.op)) s:=by rw[IX,Un];simp -implicitDefEqProofs only[a5.enc,a5.cs,↓cI,↓cM,↓bU,↓bk,↓aA,↓aD,↓aw,↓aE,↓aM,↓aN,↓ax,↓aF,↓aC,↓aT,↓aW,↓bc,↓dI,↓az,↓bs,↓b0,↓c1,↓b7,↓b8,↓b1,↓b9,↓ca,↓cb,↓cc,↓cd,↓cf,↓bu,↓bw,↓bx,↓c2,↓c3,↓c4,↓c5,↓c6,↓c7,↓c8,↓c9,↓da,↓cg,↓ch,↓ci,↓fl,↓fA,↓fP,↓bl,↓cF,↓br,↓cX,↓b5,↓cA,↓cS,↓db,↓aX,↓aO,↓aY,↓aJ,↓aH,↓aZ,↓cN,↓bV,↓b2,↓cj,↓ck,↓cl,↓cm,↓cn,↓co,↓cp,↓cq,bW,dQ,List.cons_append,List.nil_append,b6,decide_eq_false_iff_not,ite_not,↓reduceIte,a8,aG,ba,bz,eS,d8,d9,bf,bT,cx,Nat.reduceAdd,List.all_cons,List.all_nil,ds,dg,du,dO,bC,↓bi,Nat.reduceLeDiff,aB,cT,cW,↓(bd (uf G X x.op _)),nd,nf,sw]
theorem UN(x:a5)(s:ag):aP aR G X 43 [x.enc] s=.ok (.bool (iD x.op)) s:=by rw[IU,Uk];simp -implicitDefEqProofs only[a5.enc,a5.cs,↓cI,↓cM,↓bU,↓bk,↓aA,↓aD,↓aw,↓aE,↓aM,↓aN,↓ax,↓aF,↓aC,↓aT,↓aW,↓bc,↓dI,↓az,↓bs,↓b0,↓c1,↓b7,↓b8,↓b1,↓b9,↓ca,↓cb,↓cc,↓cd,↓cf,↓bu,↓bw,↓bx,↓c2,↓c3,↓c4,↓c5,↓c6,↓c7,↓c8,↓c9,↓da,↓cg,↓ch,↓ci,↓fl,↓fA,↓fP,↓bl,↓cF,↓br,↓cX,↓b5,↓cA,↓cS,↓db,↓aX,↓aO,↓aY,↓aJ,↓aH,↓aZ,↓cN,↓bV,↓b2,↓cj,↓ck,↓cl,↓cm,↓cn,↓co,↓cp,↓cq,bW,dQ,List.cons_append,List.nil_append,b6,decide_eq_false_iff_not,ite_not,↓reduceIte,a8,aG,ba,bz,eS,d8,d9,bf,bT,cx,Nat.reduceAdd,List.all_cons,List.all_nil,ds,dg,du,dO,bC,↓bi,Nat.reduceLeDiff,aB,cT,cW,↓(bd (uf G X x.op _)),nd,nf,sw]
def acc(want is:Int):Bool:=decide (is=want)||(decide (want=0)&&(decide (is=2)||decide (is=3)))
theorem H0(want is:Int)(s:ag):aP aR G X 50 [I want,I is] s=.ok (.bool (acc want is)) s:=by
 rw[IZ,Up,bl];unfold acc;by_cases ar:is=want
 ·simp -implicitDefEqProofs only[dH ar,gh,fc,aH,Bool.true_or,bG]
 ·simp -implicitDefEqProofs only[bR ar,eL,eM,Bool.false_or,bl];by_cases av:want=0
  ·simp -implicitDefEqProofs only[dH av,fK,bl,er];by_cases bO:is=2
   ·simp -implicitDefEqProofs only[dH bO,gh,fK,fc,aH,Bool.true_or]
   ·simp -implicitDefEqProofs only[bR bO,eL,fK,eM,fc,aH,Bool.false_or,bl]
  ·simp -implicitDefEqProofs only[bR av,gL,eL,eM,aH,fx,bG]
def lS(ka e:hV):Bool:= !ka.neg&& !e.neg&&decide (ka.pB=[])&&decide (e.pB=[])
abbrev H2(ka e:hV):ae:=.agg [.bool ka.neg,ka.v,.bool e.neg,e.v]
theorem abC(l:List Nat):decide (((l.map U).length:Int)=0)=decide (l=[]):=by congr 1;rw[eq_iff_iff];cases l<;> simp <;> omega
theorem H3(ka e:hV)(s:ag):aP aR G X 72 [H2 ka e] s=.ok (.bool (lS ka e)) s:=by
 rw[I1,Ur];unfold lS;cases ar:ka.neg with
 |true=>simp -implicitDefEqProofs only[hV.v,ar,↓cI,↓cM,↓bU,↓bk,↓aA,↓aD,↓aw,↓aE,↓aM,↓aN,↓ax,↓aF,↓aC,↓aT,↓aW,↓bc,↓dI,↓az,↓bs,↓b0,↓c1,↓b7,↓b8,↓b1,↓b9,↓ca,↓cb,↓cc,↓cd,↓cf,↓bu,↓bw,↓bx,↓c2,↓c3,↓c4,↓c5,↓c6,↓c7,↓c8,↓c9,↓da,↓cg,↓ch,↓ci,↓bl,↓cF,↓br,↓cX,↓b5,↓cA,↓cS,↓db,↓aX,↓aO,↓aY,↓aJ,↓aH,↓aZ,↓cN,↓bV,↓b2,↓cj,↓ck,↓cl,↓cm,↓cn,↓co,↓cp,↓cq,↓dy,↓dz,↓dh,↓dJ,↓cy,↓cz,↓cK,↓dl,bW,dQ,b6,decide_eq_false_iff_not,ite_not,↓reduceIte,a8,aG,ba,bz,bf,bT,cx,Nat.reduceAdd,bC,↓bi,Nat.reduceLeDiff,aB,cT,cW,dF,dw,bS,g3,fx,bG,gL,eM]
 |false=>
  cases av:e.neg with
  |true=>simp -implicitDefEqProofs only[hV.v,ar,av,↓cI,↓cM,↓bU,↓bk,↓aA,↓aD,↓aw,↓aE,↓aM,↓aN,↓ax,↓aF,↓aC,↓aT,↓aW,↓bc,↓dI,↓az,↓bs,↓b0,↓c1,↓b7,↓b8,↓b1,↓b9,↓ca,↓cb,↓cc,↓cd,↓cf,↓bu,↓bw,↓bx,↓c2,↓c3,↓c4,↓c5,↓c6,↓c7,↓c8,↓c9,↓da,↓cg,↓ch,↓ci,↓bl,↓cF,↓br,↓cX,↓b5,↓cA,↓cS,↓db,↓aX,↓aO,↓aY,↓aJ,↓aH,↓aZ,↓cN,↓bV,↓b2,↓cj,↓ck,↓cl,↓cm,↓cn,↓co,↓cp,↓cq,↓dy,↓dz,↓dh,↓dJ,↓cy,↓cz,↓cK,↓dl,bW,dQ,b6,decide_eq_false_iff_not,ite_not,↓reduceIte,a8,aG,ba,bz,bf,bT,cx,Nat.reduceAdd,bC,↓bi,Nat.reduceLeDiff,aB,cT,cW,dF,dw,bS,g3,g1,fx,Bool.and_false,bG,gL,fK,eM,fc]
  |false=>
   by_cases bO:ka.pB=[]
   ·simp -implicitDefEqProofs only[hV.v,ar,av,↓cI,↓cM,↓bU,↓bk,↓aA,↓aD,↓aw,↓aE,↓aM,↓aN,↓ax,↓aF,↓aC,↓aT,↓aW,↓bc,↓dI,↓az,↓bs,↓b0,↓c1,↓b7,↓b8,↓b1,↓b9,↓ca,↓cb,↓cc,↓cd,↓cf,↓bu,↓bw,↓bx,↓c2,↓c3,↓c4,↓c5,↓c6,↓c7,↓c8,↓c9,↓da,↓cg,↓ch,↓ci,↓bl,↓cF,↓br,↓cX,↓b5,↓cA,↓cS,↓db,↓aX,↓aO,↓aY,↓aJ,↓aH,↓aZ,↓cN,↓bV,↓b2,↓cj,↓ck,↓cl,↓cm,↓cn,↓co,↓cp,↓cq,↓dy,↓dz,↓dh,↓dJ,↓cy,↓cz,↓cK,↓dl,bW,dQ,b6,decide_eq_false_iff_not,ite_not,↓reduceIte,a8,aG,ba,bz,bf,bT,cx,Nat.reduceAdd,bC,↓bi,Nat.reduceLeDiff,aB,cT,cW,dF,dw,bS,g1,er,abC,eq_true bO,if_true]
   ·have h:¬((ka.pB.map U).length:Int)=0:=by
     rw[eo];have:=List.length_pos_iff.2 bO;omega
    simp -implicitDefEqProofs only[hV.v,ar,av,↓cI,↓cM,↓bU,↓bk,↓aA,↓aD,↓aw,↓aE,↓aM,↓aN,↓ax,↓aF,↓aC,↓aT,↓aW,↓bc,↓dI,↓az,↓bs,↓b0,↓c1,↓b7,↓b8,↓b1,↓b9,↓ca,↓cb,↓cc,↓cd,↓cf,↓bu,↓bw,↓bx,↓c2,↓c3,↓c4,↓c5,↓c6,↓c7,↓c8,↓c9,↓da,↓cg,↓ch,↓ci,↓bl,↓cF,↓br,↓cX,↓b5,↓cA,↓cS,↓db,↓aX,↓aO,↓aY,↓aJ,↓aH,↓aZ,↓cN,↓bV,↓b2,↓cj,↓ck,↓cl,↓cm,↓cn,↓co,↓cp,↓cq,↓dy,↓dz,↓dh,↓dJ,↓cy,↓cz,↓cK,↓dl,bW,dQ,b6,decide_eq_false_iff_not,ite_not,↓reduceIte,a8,aG,ba,bz,bf,bT,cx,Nat.reduceAdd,bC,↓bi,Nat.reduceLeDiff,aB,cT,cW,dF,dw,bS,g1,er,eq_false h,eq_false bO,fx]
theorem H4{s:ag}{k:be}(a b:List Nat):(a0 aR G X).ai s k (al .eql (.str a) (.str b))=k (.bool (decide (a=b))) s:=by show k (.bool (a==b)) s=_;congr 2;exact(by rw[Bool.eq_iff_iff];simp)
theorem UO{S:ag}{k:be}{d j o:Nat}{cs:List ae}{c:ae}(h:S.get (.g d j)=some (.cells cs))(a1:cs[o]? =some c):(a0 aR G X).ay S k none (.ref (.g d j) o)=k c S:=by
 rw[hr];simp -implicitDefEqProofs only[dX,h,eR]
 have:cs.drop o=c::cs.drop (o+1):=by have e:=(eA.1 a1);rw[jq e.1,e.2]
 rw[this];rfl
theorem UP(o x:a5)(s:ag)(d j:Nat)(cR:d≤s.aa)(h:s.get (.g d j)=some (.cells x.cs)):aP aR G X 74 [o.enc,.ref (.g d j) 0] s=.ok (.bool (decide (o.name=x.name))) s:=by
 have av:s.aj.get (.g d j)=some (.cells x.cs):=(Child.aj s).oy.2 d j _ cR h;have l:=fun(k:be)=>UO G X (k:=k) (o:=0+0) av (c:=.str x.name) rfl
 rw[I3,Ut];simp -implicitDefEqProofs only[a5.enc];rw[aA];simp -implicitDefEqProofs only[a5.cs] at *;rw[dI,bW,bc,az,l,H4,aH]
def pe(H5:List Nat):List a5→Nat→Int
 |[],_=> -1
 |o::r,i=>if o.name=H5 then(i:Int) else pe H5 r (i+1)
theorem pX(H5:List Nat):∀(l:List a5) (i:Nat),decide (0≤pe H5 l i)=l.any fun o=>decide (o.name=H5)
 |[],i=>rfl
 |o::r,i=>by
  rw[List.any_cons];by_cases h:o.name=H5
  ·have e:pe H5 (o::r) i=(i:Int):=if_pos h;simp [e,h]
  ·have e:pe H5 (o::r) i=pe H5 r (i+1):=if_neg h;have u:=pX H5 r (i+1);simp [e,h] at u ⊢;exact u
abbrev b3(l:List a5)(g:e2):ae:=.cr 12 (l.map a5.enc) g
theorem ug(x:a5):x.cs.take 12=x.cs:=rfl
theorem UQ(l:List a5)(g:e2)(x:a5)(s:ag)(d j:Nat)(cR:d≤s.aa)(h:s.get (.g d j)=some (.cells x.cs))(bK:l.length<9223372036854775807):aP aR G X 62 [b3 l g,.fn 74 [.ref (.g d j) 0]] s=.ok (I (pe x.name l 0)) s:=by
 have loop:∀n i:Nat,i+n=l.length→tY (a0 aR G X) (b3 l g) (.fn 74 [.ref (.g d j) 0]) (.int .i64 (l.length:Int)) (.int .i64 (i:Int)) s.aj=.ok (I (pe x.name (l.drop i) i)) s:=by
  intro n
  induction n with
  |zero=>
   intro i bY;have e:¬(i:Int)<(l.length:Int):=by omega
   rw[vQ,br,bR e,ee,D8,aJ,l5 (by omega)];rfl
  |succ n u=>
   intro i bY;have e:(i:Int)<(l.length:Int):=by omega
   have r:i<l.length:=by omega
   have y:(l.map a5.enc)[i]? =some l[i].enc:=by simp [r]
   have c:=UP G X l[i] x s.aj d j (by have:=(Child.aj s).aa;omega) ((Child.aj s).oy.2 d j _ cR h);have A:=fun S k=>nh G X S k i (by omega)
   rw[vQ,br,dH e,d0,D7,mq _ _ _ _ _ _ y];simp -implicitDefEqProofs only[a5.enc,ae.cells];rw[bi _ _ (aB 12),ug,a8,bs];simp -implicitDefEqProofs only[a5.enc] at c;simp -implicitDefEqProofs only[List.cons_append,List.nil_append];rw[bd c,jq r,pe];by_cases dk:l[i].name=x.name
   ·rw[dH dk,d0,aJ,if_pos dk]
   ·rw[bR dk,ee,D6,A,if_neg dk];exact u (i+1) (by omega)
 rw[I4,Uu,aC,eo];exact loop l.length 0 (by omega)
theorem UR(l:List a5)(g:e2)(cB:∀a,g≠.dt a)(x:a5)(s:ag)(d j:Nat)(cR:d≤s.aa)(h:s.get (.g d j)=some (.cells x.cs))(bK:l.length<9223372036854775807):aP aR G X 73 [b3 l g,.fn 74 [.ref (.g d j) 0]] s=.ok (.bool (l.any fun o=>decide (o.name=x.name))) s:=by
 have c:=UQ G X l g x s.aj d j (by have:=(Child.aj s).aa;omega) ((Child.aj s).oy.2 d j _ cR h) bK;rw[I2,Us];have e:ae.ap s.aj.aa (b3 l g)=b3 l g:=by simp -implicitDefEqProofs only[ae.ap,zo cB]
 rw[e,eS,bd c,cA,pX,aH]
def sC(pre:List a5)(w a:Int):Bool:=decide (0≤a∧a<(pre.length:Int))&&acc w (match pre[a.toNat]? with |some o=>fE o.op|none=>0)
def hQ(pre:List a5):List Int→List Int→Bool
 |w::ws,a::as=>sC pre w a&&hQ pre ws as
 |_,_=>true
def v9(op nl:Int):Bool:=if iD op=true then decide (nl=1∨nl=2) else decide (nl=0)
def iQ(ka e:hV):Bool:=mX ka.neg e.neg ka.pB e.pB
def tt(x:a5):Bool:=
 if x.op=1 then iQ x.iw x.bQ&&iQ x.qk x.pt else if x.op=2 then iQ x.iw x.bQ&&lS x.qk x.pt else lS x.iw x.bQ&&lS x.qk x.pt
def oe(pre:List a5)(x:a5):Bool:=pre.any fun o=>decide (o.name=x.name)
def wf(pre:List a5)(x:a5):Bool:=
 decide (fE x.op≠0)&&decide ((gq x.op).length=x.args.length)&&decide (x.name≠[])&&(hQ pre (gq x.op) x.args&&(v9 x.op x.nl&&(tt x&& !oe pre x)))
section
variable(x:a5)(s:ag)(k:be)
theorem abD:(a0 aR G X).ay (s.new (.cells x.cs)) k none (.ref (.l s.own.length) 0)=k (.str x.name) (s.new (.cells x.cs)):=b2 _ _
theorem Z5(o:Nat)(c:ae)(h:x.cs[o]? =some c):(a0 aR G X).ay (s.new (.cells x.cs)) k none (.ref (.l s.own.length) o)=k c (s.new (.cells x.cs)):=j5 (by simp [ag.new]) h
theorem xS:(a0 aR G X).ay (s.new (.cells x.cs)) k none (.ref (.l s.own.length) 1)=k (I x.op) (s.new (.cells x.cs)):=Z5 G X x s k 1 _ rfl
theorem VC:(a0 aR G X).ay (s.new (.cells x.cs)) k none (.ref (.l s.own.length) 2)=k (fY x.args x.pd) (s.new (.cells x.cs)):=Z5 G X x s k 2 _ rfl
theorem sD:(a0 aR G X).ay (s.new (.cells x.cs)) k none (.ref (.l s.own.length) 11)=k (I x.nl) (s.new (.cells x.cs)):=Z5 G X x s k 11 _ rfl
theorem VD(o:Nat)(h:o+4≤12):(a0 aR G X).ay (s.new (.cells x.cs)) k (some 4) (.ref (.l s.own.length) o)=k (.agg ((x.cs.drop o).take 4)) (s.new (.cells x.cs)):=by rw[hr];simp -implicitDefEqProofs only[dX,g6,eR];rw[show Nat.ble 4 (x.cs.drop o).length=true from eN (by simp;show 4≤12-o;omega)];rfl
theorem Ok:(a0 aR G X).ay (s.new (.cells x.cs)) k (some 4) (.ref (.l s.own.length) 3)=k (H2 x.iw x.bQ) (s.new (.cells x.cs)):=VD G X x s k 3 (by omega)
theorem Ol:(a0 aR G X).ay (s.new (.cells x.cs)) k (some 4) (.ref (.l s.own.length) 7)=k (H2 x.qk x.pt) (s.new (.cells x.cs)):=VD G X x s k 7 (by omega)
end
theorem Cv{ka e:hV}(ar:oz ka)(av:oz e)(s:ag):aP aR G X 71 [H2 ka e] s=.ok (.bool (iQ ka e)) s:=UM G X s ka.neg e.neg ka.v e.v ka.pB e.pB ar.jt av.jt ar.ok av.ok ar.len av.len
theorem H6(l:List a5){g:e2}(cB:∀a,g≠.dt a)(n:Nat)(dk:n≤l.length)(S:ag)(k:be):(a0 aR G X).lj 12 (b3 l g) none (some (.int .i64 (n:Int))) none S k=k (b3 (l.take n) (o0 g l.length n)) S:=by show mR 12 (.cr 12 (l.map a5.enc) g) none (some (.int .i64 (n:Int))) none S k=_;unfold mR;simp -implicitDefEqProofs only[pA,g5,gf,Nat.zero_le,eN (Nat.zero_le n),show Nat.ble n (l.map a5.enc).length=true from eN (by simpa using dk),show pj g 0 n (l.map a5.enc)=true from by cases g<;> first|rfl |exact absurd rfl (cB _),bC,bX,bW,Nat.sub_zero,List.map_take,b3];cases g<;> first|rfl |exact absurd rfl (cB _)|simp [o0]
theorem iu(l:List a5){g:e2}(cB:∀a,g≠.dt a)(d:Nat):ae.ap d (b3 l g)=b3 l g:=by simp -implicitDefEqProofs only[ae.ap,zo cB]
theorem zq(d i o:Nat):ae.ap d (.ref (.l i) o)=.ref (.g d i) o:=rfl
theorem EX(s:ag)(o:dp):(s.new o).get (.g (s.new o).aa s.own.length)=some o:=by simp [ag.get,ag.new]
theorem qp{s:ag}{k:be}(b:Bool):(a0 aR G X).ai s k (kv .not (.bool b))=k (.bool (!b)) s:=cS b
section
variable(pre:List a5)(x:a5)(g:e2)(cB:∀a,g≠.dt a)(s:ag)(fp:pre.length<9223372036854775806)(a9:qo x)
include cB fp
theorem EY:y5 (a0 aR G X) (b3 (pre++[x]) g) (.int .i64 (pre.length:Int)) (.ref (.l s.aj.own.length) 0) (s.aj.new (.cells x.cs))=.ok (.bool (!oe pre x)) s:=by
 have cr:=fun(S:ag) (k:be)=>H6 G X (pre++[x]) cB pre.length (by simp) S k
 rw[List.take_left' rfl] at cr;have e:=vn cB (pre++[x]).length pre.length;have c:=UR G X pre _ e x (s.aj.new (.cells x.cs)) _ _ (aB _) (EX s.aj (.cells x.cs)) (by omega);rw[DS,cr,cI,zq,iu _ e,eS];rw[bd c,cS,il ((Child.aj s).new _)];rfl
include a9
theorem EZ:y6 (a0 aR G X) (b3 (pre++[x]) g) (.int .i64 (pre.length:Int)) (.ref (.l s.aj.own.length) 0) (s.aj.new (.cells x.cs))=.ok (.bool (tt x&& !oe pre x)) s:=by
 have e:=EY G X pre x g cB s fp;have h:=Cv G X a9.iw a9.bQ (s.aj.new (.cells x.cs));have y:=Cv G X a9.qk a9.pt (s.aj.new (.cells x.cs));have dM:=H3 G X x.iw x.bQ (s.aj.new (.cells x.cs));have r:=H3 G X x.qk x.pt (s.aj.new (.cells x.cs));have fin:=fun b=>il (T:=aR) (G:=G) (X:=X) ((Child.aj s).new (.cells x.cs)) b
 rw[DT,az,bf,xS,bl];unfold tt;by_cases ar:x.op=1
 ·simp -implicitDefEqProofs only[dH ar,gh,fc,az,bf,↓xS,↓bl,fK,↓Ok,a8,↓(bd h),qp,if_pos ar,bG];cases bJ:iQ x.iw x.bQ with
  |false=>simp -implicitDefEqProofs only[g1,gh,fc,eL,gL,fK,eM,d0,fin,fx,bG]
  |true=>
   simp -implicitDefEqProofs only[g3,eL,gL,eM,fK,bG,↓Ol,a8,↓(bd y),qp];cases u:iQ x.qk x.pt with
   |false=>simp -implicitDefEqProofs only[g1,g3,gh,fc,eL,gL,fK,eM,d0,fin,fx,er,bG]
   |true=>simp -implicitDefEqProofs only[g3,eL,gL,eM,fc,fK,bG,qp,ee,e,er]
 ·by_cases av:x.op=2
  ·simp -implicitDefEqProofs only[bR ar,eL,eM,az,bf,↓xS,↓bl,dH av,fK,↓Ok,a8,↓(bd h),qp,if_neg ar,if_pos av,bG];cases bJ:iQ x.iw x.bQ with
   |false=>simp -implicitDefEqProofs only[g1,gh,fc,eL,gL,fK,eM,d0,fin,fx,bG]
   |true=>
    simp -implicitDefEqProofs only[g3,g1,eL,gL,eM,fc,fK,bG,↓Ol,a8,↓(bd r),qp];cases u:lS x.qk x.pt with
    |false=>simp -implicitDefEqProofs only[g1,g3,gh,fc,eL,gL,fK,eM,d0,fin,fx,er,bG]
    |true=>simp -implicitDefEqProofs only[g3,eL,gL,eM,fc,fK,bG,qp,ee,e,er]
  ·simp -implicitDefEqProofs only[bR ar,eL,eM,az,bf,↓xS,↓bl,bR av,gL,fK,↓Ok,a8,↓(bd dM),qp,if_neg ar,if_neg av,bG,g1];cases bJ:lS x.iw x.bQ with
   |false=>simp -implicitDefEqProofs only[g1,gh,fc,eL,gL,fK,eM,d0,fin,fx,bG]
   |true=>
    simp -implicitDefEqProofs only[g3,g1,eL,gL,eM,fc,fK,bG,↓Ol,a8,↓(bd r),qp];cases u:lS x.qk x.pt with
    |false=>simp -implicitDefEqProofs only[g1,g3,gh,fc,eL,gL,fK,eM,d0,fin,fx,er,bG]
    |true=>simp -implicitDefEqProofs only[g3,eL,gL,eM,fc,fK,bG,qp,ee,e,er]
theorem E0:y7 (a0 aR G X) (b3 (pre++[x]) g) (.int .i64 (pre.length:Int)) (.ref (.l s.aj.own.length) 0) (.bool (iD x.op)) (s.aj.new (.cells x.cs))=.ok (.bool (v9 x.op x.nl&&(tt x&& !oe pre x))) s:=by
 have h:=EZ G X pre x g cB s fp a9;have fin:=fun b=>il (T:=aR) (G:=G) (X:=X) ((Child.aj s).new (.cells x.cs)) b
 have e:∀(a b:Bool) (k:be) (S:ag),(a0 aR G X).ai S k ((pw .bool (.bool a) (.bool b)).map fun b=>.bool (bif true then !b else b))=k (.bool (!(a==b))) S:=fun a b k S=>rfl
 rw[DU,az,bf,sD,bl];unfold v9;cases r:iD x.op with
 |true=>
  by_cases ar:x.nl=1
  ·simp -implicitDefEqProofs only[dH ar,gh,fc,e,show(!(true==true))=false from rfl,eL,g3,gL,eM,ee,h,if_true,eq_true (Or.inl ar:x.nl=1∨x.nl=2),dF,er,bG,qp]
  ·by_cases av:x.nl=2
   ·simp -implicitDefEqProofs only[bR ar,eL,eM,az,bf,↓sD,↓bl,dH av,e,show(!(true==true))=false from rfl,g3,gL,ee,h,if_true,eq_true (Or.inr av:x.nl=1∨x.nl=2),dF,er,bG,qp]
   ·have bO:¬(x.nl=1∨x.nl=2):=by omega
    simp -implicitDefEqProofs only[bR ar,eL,eM,az,bf,↓sD,↓bl,bR av,e,show(!(true==false))=true from rfl,gh,fc,d0,fin,if_true,eq_false bO,dw,fx,bG,qp]
 |false=>
  by_cases eJ:x.nl=0
  ·have ar:¬x.nl=1:=by omega
   have av:¬x.nl=2:=by omega
   simp -implicitDefEqProofs only[bR ar,eL,eM,az,bf,↓sD,↓bl,bR av,e,show(!(false==false))=false from rfl,g1,fK,cF,bR (not_not_intro eJ),eM,fc,ee,h,bS,if_false,dH eJ,er,qp]
  ·by_cases ar:x.nl=1
   ·simp -implicitDefEqProofs only[dH ar,gh,fc,e,show(!(false==true))=true from rfl,d0,fin,bS,if_false,bR eJ,fx,bG]
   ·by_cases av:x.nl=2
    ·simp -implicitDefEqProofs only[bR ar,eL,eM,az,bf,↓sD,↓bl,dH av,e,show(!(false==true))=true from rfl,gh,fc,d0,fin,bS,if_false,bR eJ,fx,bG]
    ·simp -implicitDefEqProofs only[bR ar,eL,eM,az,bf,↓sD,↓bl,bR av,e,show(!(false==false))=false from rfl,g1,fK,cF,eq_true eJ,not_false_eq_true,dF,fc,d0,fin,bS,if_false,bR eJ,fx,qp]
theorem E1(ws:List Int)(r:e2)(aa:ws.length=x.args.length):∀n i:Nat,i+n=x.args.length→(∀o,o∈pre→qo o)→
  tW (a0 aR G X) (b3 (pre++[x]) g) (.int .i64 (pre.length:Int)) (.ref (.l s.aj.own.length) 0) (fY ws r) (.bool (iD x.op)) (fY x.args x.pd) (.int .i64 (x.args.length:Int)) (.int .i64 (i:Int)) (s.aj.new (.cells x.cs))=.ok (.bool (hQ pre (ws.drop i) (x.args.drop i)&&(v9 x.op x.nl&&(tt x&& !oe pre x)))) s:=by
 have fin:=fun b=>il (T:=aR) (G:=G) (X:=X) ((Child.aj s).new (.cells x.cs)) b
 intro n
 induction n with
 |zero=>
  intro i bY u;have e:¬(i:Int)<(x.args.length:Int):=by omega
  rw[vN,br,bR e,ee,E0 G X pre x g cB s fp a9,l5 (by omega),l5 (by omega)];simp -implicitDefEqProofs only[hQ,er]
 |succ n F=>
  intro i bY u;have e:(i:Int)<(x.args.length:Int):=by omega
  have y:i<x.args.length:=by omega
  have A:i<ws.length:=by omega
  have qh:=a9.OG;have H:(x.args.map I)[i]? =some (I x.args[i]):=by simp [y]
  have J:(ws.map I)[i]? =some (I ws[i]):=by simp [A]
  have K:∀k:be,(a0 aR G X).cL (s.aj.new (.cells x.cs)) k 1 (fY x.args x.pd) (.int .i64 (i:Int))=k (.bP [I x.args[i]]) (s.aj.new (.cells x.cs)):=fun k=>mq (T:=aR) (G:=G) (X:=X) (s:=s.aj.new (.cells x.cs)) (k:=k) 1 _ x.pd .i64 i _ H
  have L:∀k:be,(a0 aR G X).cL (s.aj.new (.cells x.cs)) k 1 (fY ws r) (.int .i64 (i:Int))=k (.bP [I ws[i]]) (s.aj.new (.cells x.cs)):=fun k=>mq (T:=aR) (G:=G) (X:=X) (s:=s.aj.new (.cells x.cs)) (k:=k) 1 _ r .i64 i _ J
  have M:=fun S k=>nh G X S k i (by omega)
  rw[vN,br,dH e,d0,DR,K,bc,br,jq y,jq A,hQ];unfold sC;by_cases ar:x.args[i]<0
  ·have av:¬(0≤x.args[i]∧x.args[i]<(pre.length:Int)):=by omega
   simp -implicitDefEqProofs only[dH ar,gh,fc,d0,fin,bR av,fx,bG]
  ·by_cases av:(pre.length:Int)≤x.args[i]
   ·have bO:¬(0≤x.args[i]∧x.args[i]<(pre.length:Int)):=by omega
    simp -implicitDefEqProofs only[bR ar,eL,eM,cA,dH av,gh,fc,d0,fin,bR bO,fx,bG]
   ·have bO:0≤x.args[i]∧x.args[i]<(pre.length:Int):=by omega
    have h:x.args[i].toNat<pre.length:=by omega
    have N:((pre++[x]).map a5.enc)[x.args[i].toNat]? =some pre[x.args[i].toNat].enc:=by rw[iJ,ha h,eI h];rfl
    have O:pre[x.args[i].toNat]? =some pre[x.args[i].toNat]:=eI h;have ip:=fun(k:be)=>rk (T:=aR) (G:=G) (X:=X) (s:=s.aj.new (.cells x.cs)) (k:=k) 12 _ g .i64 x.args[i] _ bO.1 N
    generalize U:pre[x.args[i].toNat]=o at *;have jo:o∈pre:=U ▸ m0 h;have Ds:=zp G X o {own:=[],up:=[],ro:=[]};have V:ae.a7 [o.enc]=true:=by simp -implicitDefEqProofs only[ae.a7,(u o jo).bb,bC]
    have Am:=H0 G X ws[i] (fE o.op) (s.aj.new (.cells x.cs));have B:=fun(k:be)=>bi (T:=aR) (G:=G) (X:=X) (s:=s.aj.new (.cells x.cs)) (k:=k) 12 o.cs (aB 12)
    rw[ug] at B;have Y:∀k:be,(a0 aR G X).ay (s.aj.new (.cells x.cs)) k (some 12) (.bP o.enc.cells)=k o.enc (s.aj.new (.cells x.cs)):=B;have Z:∀d,ae.ap d o.enc=o.enc:=fun d=>rfl
    simp -implicitDefEqProofs only[bR ar,eL,eM,cA,bR av,L,ae.cells,bc];rw[ip,Y,Z,kk V Ds rfl,aG,aG,bd Am,qp];simp -implicitDefEqProofs only[O,dH bO,er];cases ab:acc ws[i] (fE o.op) with
    |false=>simp -implicitDefEqProofs only[g1,d0,fin,fx]
    |true=>simp -implicitDefEqProofs only[g3,ee,er,DQ,M];exact F (i+1) (by omega) u
theorem US(y:∀o,o∈pre→qo o):aP aR G X 42 [b3 (pre++[x]) g] s=.ok (.bool (wf pre x)) s:=by
 have fin:=fun b=>il (T:=aR) (G:=G) (X:=X) ((Child.aj s).new (.cells x.cs)) b
 have A:((pre++[x]).map a5.enc)[pre.length]? =some x.enc:=by rw[iJ,jW (aB _),Nat.sub_self];rfl
 have ip:=fun S k=>Ca G X S k 12 _ g .i64 pre.length _ A
 have r:=fun(S:ag) (k:be)=>jM (T:=aR) (G:=G) (X:=X) (s:=S) (k:=k) (pre.length+1) (by omega) (by omega)
 simp -implicitDefEqProofs only[Nat.add_sub_cancel] at r;have B:∀(S:ag) (k:be),(a0 aR G X).ay S k (some 12) (.bP x.enc.cells)=k x.enc S:=fun S k=>bi (T:=aR) (G:=G) (X:=X) (s:=S) (k:=k) 12 x.cs (aB 12)
 have F:∀d,ae.ap d x.enc=x.enc:=fun d=>rfl
 have gP:=fun(k:be) (cs:List ae) (h:cs.length=12)=>cN (T:=aR) (G:=G) (X:=X) (s:=s.aj) (k:=k) 12 x.cs cs rfl h x.cells
 have xI:=uf G X x.op (s.aj.new (.cells x.cs));have qh:=a9.OG;have H:=fun h=>E1 G X pre x g cB s fp a9 (gq x.op) (pW x.op) h x.args.length 0 (by omega) y
 have J:((gq x.op).map I).length=(gq x.op).length:=eo ..;have u:(x.args.map I).length=x.args.length:=eo ..;rw[IT,Uj,aC,eo,gu,List.length_singleton,r,ip,B,cI,F];refine(gP _ _ rfl).trans ?_;rw[az,bf,xS,aG,bd xI,nd,nf,sw,bl];unfold wf;by_cases eJ:fE x.op=0
 ·simp -implicitDefEqProofs only[dH eJ,gh,fc,d0,fin,bR (not_not_intro eJ:¬fE x.op≠0),fx,bG]
 ·simp -implicitDefEqProofs only[bR eJ,eL,eM,aC,az,bf,↓VC,cF,J,u,dH (show fE x.op≠0 from eJ),er];by_cases ar:(gq x.op).length=x.args.length
  ·have e:¬¬((gq x.op).length:Int)=(x.args.length:Int):=by omega
   simp -implicitDefEqProofs only[bR e,eL,eM,az,bf,↓abD,H4,dH ar,er];by_cases av:x.name=[]
   ·simp -implicitDefEqProofs only[dH av,eM,d0,fin,bR (not_not_intro av:¬x.name≠[]),fx]
   ·simp -implicitDefEqProofs only[bR av,eM,ee,DV,az,bf,↓VC,aC,u,dH (show x.name≠[] from av),er]
    have:=H ar;simp -implicitDefEqProofs only[bW] at this;exact this
  ·have e:¬((gq x.op).length:Int)=(x.args.length:Int):=by omega
   simp -implicitDefEqProofs only[dH e,gh,fc,d0,fin,bR ar,fx,bG]
end
end Go.gR
end
