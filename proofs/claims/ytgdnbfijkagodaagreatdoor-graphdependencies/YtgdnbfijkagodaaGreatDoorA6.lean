/- A part of the proof: no condition. -/
import Derived.Test.YtgdnbfijkagodaaGreatDoorA5
import Derived.Test.YtgdnbfijkagodaaGreatDoorA3
set_option linter.unusedSectionVars false
set_option linter.unusedSimpArgs false
set_option linter.unusedVariables false
section
namespace Go.hC
def B:Nat:=4294967296
theorem kO:B=4294967296:=rfl
theorem hd:0<B:=by decide
def val:List Nat→Nat
 |[]=>0
 |x::xs=>x+B*val xs
def dO(l:List Nat):Prop:=∀x,x∈l→x<B
theorem dO.tail{x:Nat}{l:List Nat}(h:dO (x::l)):dO l:=fun y eM=>h y (by simp [eM])
theorem dO.take{l:List Nat}(h:dO l)(n:Nat):dO (l.take n):=fun y eM=>h y (List.mem_of_mem_take eM)
theorem dO.drop{l:List Nat}(h:dO l)(n:Nat):dO (l.drop n):=fun y eM=>h y (List.mem_of_mem_drop eM)
theorem dO.getD{l:List Nat}(h:dO l)(i:Nat):l.getD i 0<B:=by
 by_cases bL:i<l.length
 ·have:l.getD i 0=l[i]:=by simp [List.getD,bL]
  rw[this];exact h _ (ml bL)
 ·have:l.getD i 0=0:=by simp [List.getD,Nat.not_lt.1 bL]
  rw[this];exact hd
theorem dO.set{l:List Nat}(h:dO l)(i x:Nat)(a5:x<B):dO (l.set i x):=fun y eM=>by
 rcases List.mem_or_eq_of_mem_set eM with ar|ar
 ·exact h y ar
 ·exact ar ▸ a5
theorem pG(n:Nat):dO (List.replicate n 0):=fun y eM=>by rw[(List.mem_replicate.1 eM).2];exact hd
theorem ng:∀(a b:List Nat),val (a++b)=val a+B^a.length*val b
 |[],b=>by simp [val]
 |x::a,b=>by simp only[List.cons_append,val,ng a b,bP,Nat.pow_succ,fG];rw[ez (B^a.length) B,gM];omega
theorem hV:∀(l:List Nat),dO l→val l<B^l.length
 |[],_=>by simp [val]
 |x::l,h=>by have ar:=hV l h.tail;have av:=h x (by simp);simp only[val,bP,Nat.pow_succ];have bV:B*(val l+1)≤B*B^l.length:=Nat.mul_le_mul_left _ ar;rw[fG,Nat.mul_one] at bV;rw[ez (B^l.length)];omega
theorem DA(n:Nat):val (List.replicate n 0)=0:=by
 induction n with
 |zero=>rfl
 |succ n e=>simp [List.replicate_succ,val,e]
theorem val_succ(l:List Nat)(i:Nat)(h:i<l.length):val (l.take (i+1))=val (l.take i)+B^i*l.getD i 0:=by
 rw[List.take_succ_eq_append_getElem h,ng]
 have:(l.take i).length=i:=by simp;omega
 rw[this];simp [val,List.getD,h]
theorem k4(l:List Nat)(i:Nat)(h:i≤l.length):val l=val (l.take i)+B^i*val (l.drop i):=by
 have:=ng (l.take i) (l.drop i);rw[List.take_append_drop] at this;rw[this]
 have:(l.take i).length=i:=by simp;omega
 rw[this]
theorem mi(l:List Nat)(i:Nat)(h:i<l.length):val (l.drop i)=l.getD i 0+B*val (l.drop (i+1)):=by rw[iP h];simp [val,List.getD,h]
theorem l6{l:List Nat}{i j x:Nat}(h:i≤j):(l.set j x).take i=l.take i:=by
 apply List.ext_getElem?;intro n;rw[List.getElem?_take,List.getElem?_take];split
 ·rw[lL (by omega)]
 ·rfl
theorem sj{l:List Nat}{i j x:Nat}(h:j<i):(l.set j x).drop i=l.drop i:=by apply List.ext_getElem?;intro n;rw[List.getElem?_drop,List.getElem?_drop,lL (by omega)]
theorem fT{l:List Nat}{i x:Nat}(h:i<l.length):(l.set i x).getD i 0=x:=by simp [List.getD,h]
theorem getD_set_ne{l:List Nat}{i j x:Nat}(h:i≠j):(l.set i x).getD j 0=l.getD j 0:=by simp only[List.getD];rw[lL h]
def hf(l:List Nat):Nat→Nat
 |0=>0
 |n+1=>if l.getD n 0=0 then hf l n else n+1
theorem jC(l:List Nat):∀n,hf l n≤n
 |0=>aD _
 |n+1=>by
  unfold hf;split
  ·exact Nat.le_succ_of_le (jC l n)
  ·exact aD _
def gh(l:List Nat):List Nat:=l.take (hf l l.length)
def fb(l:List Nat):Prop:=l≠[]→l.getD (l.length-1) 0≠0
theorem wU(l:List Nat):∀n,n≤l.length→val (l.take (hf l n))=val (l.take n)
 |0,_=>rfl
 |n+1,h=>by
  unfold hf;split
  ·rename_i eS;rw[wU l n (by omega),val_succ l n (by omega),eS,Nat.mul_zero,Nat.add_zero]
  ·rfl
theorem sk(l:List Nat):∀n,hf l n≠0→l.getD (hf l n-1) 0≠0
 |0,h=>absurd rfl h
 |n+1,h=>by
  unfold hf at h ⊢;split
  ·rename_i eS;rw[if_pos eS] at h;exact sk l n h
  ·rename_i eS;exact eS
theorem kk(l:List Nat):val (gh l)=val l:=by unfold gh;rw[wU l _ (aD _),List.take_length]
theorem ik(l:List Nat):(gh l).length=hf l l.length:=by
 unfold gh;rw[List.length_take]
 have:=jC l l.length;omega
theorem jq(l:List Nat):fb (gh l):=fun h=>by
 have ar:hf l l.length≠0:=fun e=>h (by unfold gh;rw[e];rfl)
 have av:=sk l l.length ar;rw[ik];unfold gh;simp only[List.getD] at av ⊢;rw[List.getElem?_take,if_pos (by omega)];exact av
theorem lx{l:List Nat}(h:dO l):dO (gh l):=h.take _
theorem pV(l:List Nat)(h:fb l)(eR:l≠[]):B^(l.length-1)≤val l:=by
 have bN:0<l.length:=List.length_pos_iff.2 eR;have ar:=val_succ l (l.length-1) (by omega);rw[show l.length-1+1=l.length by omega,List.take_length] at ar;have av:=h eR;rw[ar]
 have:B^(l.length-1)*1≤B^(l.length-1)*l.getD (l.length-1) 0:=Nat.mul_le_mul_left _ (by omega);omega
theorem tV{l:List Nat}(h:fb l):val l=0↔l=[]:=by
 constructor
 ·intro eS;by_cases eR:l=[]
  ·exact eR
  ·have:=pV l h eR
   have:=Nat.pow_pos (n:=l.length-1) hd;omega
 ·intro e;subst e;rfl
theorem oB{m n:Nat}(h:m≤n):B^m≤B^n:=Nat.pow_le_pow_right hd h
theorem nX{a b:List Nat}(r:dO a)(u:fb b)(h:a.length<b.length):val a<val b:=by have ar:=hV a r;have av:=pV b u (by intro e;subst e;simp at h);have bV:B^a.length≤B^(b.length-1):=oB (by omega);omega
theorem wV{a b:List Nat}(e:dO a)(r:dO b)(u:fb a)(y:fb b)(h:val a=val b):a.length=b.length:=by
 rcases Nat.lt_trichotomy a.length b.length with ar|ar|ar
 ·have:=nX e y ar;omega
 ·exact ar
 ·have:=nX r u ar;omega
theorem qO{l:List Nat}(aY:fb l){n:Nat}(h:val l<B^n):l.length≤n:=by
 by_cases e:l=[]
 ·subst e;simp
 ·have ar:=pV l aY e;by_cases av:l.length≤n
  ·exact av
  ·have bV:B^n≤B^(l.length-1):=oB (by omega);omega
theorem val_inj:∀{a b:List Nat},dO a→dO b→a.length=b.length→val a=val b→a=b
 |[],[],_,_,_,_=>rfl
 |[],y::b,_,_,h,_=>by simp at h
 |x::a,[],_,_,h,_=>by simp at h
 |x::a,y::b,e,r,bN,h=>by
  have a5:=e x (by simp);have eM:=r y (by simp);simp only[val] at h;have ar:x=y:=by
   have dH:(x+B*val a)%B=x:=by rw[Nat.add_mul_mod_self_left,hA a5]
   have u:(y+B*val b)%B=y:=by rw[Nat.add_mul_mod_self_left,hA eM]
   rw[←dH,←u,h]
  subst ar;have av:B*val a=B*val b:=by omega
  have bV:=Nat.eq_of_mul_eq_mul_left hd av;rw[val_inj e.tail r.tail (by simpa using bN) bV]
end Go.hC
namespace Go.hC
theorem tW:B=2^32:=rfl
theorem GU(w r:Nat):B^w*2^r=2^(32*w+r):=by rw[tW,←Nat.pow_mul,←Nat.pow_add]
theorem yQ(x r:Nat)(aU:r<32):∃q,x*2^r%B=q*2^r∧q*2^r+2^r≤B:=by
 refine⟨x%2^(32-r),?_,?_⟩
 ·have:B=2^(32-r)*2^r:=by rw[←Nat.pow_add,tW];congr 1;omega
  rw[this,Nat.mul_mod_mul_right]
 ·have:B=2^(32-r)*2^r:=by rw[←Nat.pow_add,tW];congr 1;omega
  have ar:x%2^(32-r)+1≤2^(32-r):=Nat.mod_lt _ (Nat.two_pow_pos _);have av:=fZ (2^r) ar;rw[e9,Nat.one_mul] at av;rw[this];exact av
theorem yR(x r:Nat)(a5:x<B)(aU:r<32):x*2^r/B<2^r∧x*2^r<18446744073709551616:=by
 have ar:x*2^r<B*2^r:=Nat.mul_lt_mul_of_pos_right a5 (Nat.two_pow_pos _);refine⟨by rw[Nat.div_lt_iff_lt_mul hd,ez (2^r)];exact ar,?_⟩;have av:B*2^r≤B*2^32:=Nat.mul_le_mul_left _ (Nat.pow_le_pow_right (by omega) (by omega));have bV:B*2^32=18446744073709551616:=by decide
 omega
theorem GV(l out:List Nat)(i w r:Nat)(aU:r<32)(bL:i<l.length)(bN:l.length+w<out.length)(h:dO out)(u:dO l)(bM:val (out.take (i+w+1))=val (l.take i)*2^(32*w+r))(aY:out.getD (i+w) 0<2^r)(c:Nat)(EN:c=out.getD (i+w) 0)(y:Nat)(eM:y=c+l.getD i 0*2^r%B):
  let e:=(out.set (i+w) y).set (i+w+1) (l.getD i 0*2^r/B)
  dO e∧e.length=out.length∧val (e.take (i+1+w+1))=val (l.take (i+1))*2^(32*w+r)∧e.getD (i+1+w) 0<2^r:=by
 have a5:=u.getD i;have A:=yR (l.getD i 0) r a5 aU;obtain⟨q,K,M⟩:=yQ (l.getD i 0) r aU;have N:2^r≤2^32:=Nat.pow_le_pow_right (by omega) (by omega);have F:y<B:=by omega
 have O:(2:Nat)^32=B:=rfl;have dH:i+1+w=i+w+1:=by omega
 refine⟨(h.set _ _ F).set _ _ (by omega),by simp,?_,?_⟩
 ·have s1:=val_succ ((out.set (i+w) y).set (i+w+1) (l.getD i 0*2^r/B)) (i+w+1) (by simp;omega);have s2:=val_succ (out.set (i+w) y) (i+w) (by simp;omega);have H:=val_succ out (i+w) (by omega);have hj:((out.set (i+w) y).set (i+w+1) (l.getD i 0*2^r/B)).getD (i+w+1) 0=l.getD i 0*2^r/B:=fT (by simp;omega);have g2:(out.set (i+w) y).getD (i+w) 0=y:=fT (by omega);rw[dH,s1,hj,l6 (aD _),s2,g2,l6 (aD _),val_succ l i bL,e9,←bM,H,←EN];have I:B^i*l.getD i 0*2^(32*w+r)=B^(i+w)*(l.getD i 0*2^r):=by
   rw[←GU,Nat.pow_add,gM,gM,Nat.mul_left_comm (l.getD i 0)]
  have J:B^(i+w)*(l.getD i 0*2^r)=B^(i+w)*(l.getD i 0*2^r%B)+B^(i+w)*(B*(l.getD i 0*2^r/B)):=by rw[←fG,Nat.mod_add_div]
  rw[I,J,eM,fG,Nat.pow_succ,gM (B^(i+w)) B];omega
 ·have hj:((out.set (i+w) y).set (i+w+1) (l.getD i 0*2^r/B)).getD (i+w+1) 0=l.getD i 0*2^r/B:=fT (by simp;omega);rw[dH,hj];exact A.1
theorem DB(a out:List Nat)(n d rest:Nat)(cP:d≠0)(dm:n<a.length)(bN:out.length=a.length)(e:dO a)(h:dO out)(aU:rest<d)(bM:val (a.drop (n+1))=val (out.drop (n+1))*d+rest):
  (rest*B+a.getD n 0)/d<B∧dO (out.set n ((rest*B+a.getD n 0)/d))∧(rest*B+a.getD n 0)%d<d∧val (a.drop n)=val ((out.set n ((rest*B+a.getD n 0)/d)).drop n)*d+(rest*B+a.getD n 0)%d:=by
 have a5:=e.getD n;have ar:rest*B+a.getD n 0<d*B:=by have:(rest+1)*B≤d*B:=fZ _ aU;rw[e9,Nat.one_mul] at this;omega
 have fE:(rest*B+a.getD n 0)/d<B:=by rw[Nat.div_lt_iff_lt_mul (by omega),ez B];exact ar
 refine⟨fE,h.set _ _ fE,Nat.mod_lt _ (by omega),?_⟩;have s1:=mi (out.set n ((rest*B+a.getD n 0)/d)) n (by simp;omega);have hj:(out.set n ((rest*B+a.getD n 0)/d)).getD n 0=(rest*B+a.getD n 0)/d:=fT (by omega);rw[mi a n dm,bM,s1,hj,sj (by omega),e9];have hm:=Nat.div_add_mod (rest*B+a.getD n 0) d;have dH:B*(val (out.drop (n+1))*d+rest)=B*val (out.drop (n+1))*d+rest*B:=by rw[fG,gM,ez B rest]
 rw[dH];have r:(rest*B+a.getD n 0)/d*d=d*((rest*B+a.getD n 0)/d):=ez _ _;omega
end Go.hC
end
section
namespace Go.gl
open Go.Ab Go.hC
variable(G:Nat→ae)(X:Nat→List ae→ag→ah)
theorem DC(S:ag)(k:bd)(sz:Nat)(es:List ae)(g:eZ)(ev:IntKind)(i:Nat)(e:ae)(h:es[i]? =some e):(aV aL G X).cc S k sz (.bW sz es g) (.int ev (i:Int))=k (.bh e.cells) S:=k3 sz es g ev i e h
theorem ny(S:ag)(k:bd)(a:Nat)(h:a+1<9223372036854775808):(aV aL G X).aj S k (al .add (.int .i64 (a:Int)) (.int .i64 1))=k (.int .i64 ((a+1:Nat):Int)) S:=hT a h
theorem DD(s:ag)(v:ae)(l:List Nat)(h:l3 s v l)(A:l.length<9223372036854775807)(S:ag)(f4:Child s S):∀n,n≤l.length→rY (aV aL G X) v (.int .i64 (n:Int)) S=.ok (pu v (hf l n)) s:=by
 have u:∀n,n≤l.length→v5 (aV aL G X) v (.int .i64 (n:Int)) S=.ok (pu v n) s:=fun n dm=>by rw[CV,h.slice n dm];exact gv f4 _ _ ((h.cut n dm).same f4)
 intro n
 induction n with
 |zero=>
  intro dm;rw[tI];have eS:¬((0:Int)<((0:Nat):Int)):=by omega
  simp -implicitDefEqProofs only[↓cI,↓cN,↓b0,↓bo,↓aF,↓aC,↓ax,↓aG,↓aO,↓aQ,↓ay,↓aH,↓aB,↓aW,↓a1,↓bg,↓dP,↓aI,↓bw,↓b5,↓c6,↓cd,↓cf,↓b6,↓cg,↓ch,↓ci,↓cj,↓ck,↓cl,↓bB,↓bC,↓bD,↓c7,↓c8,↓c9,↓da,↓db,↓dc,↓dd,↓de,↓df,↓cm,↓cn,↓co,↓bJ,↓cL,↓be,↓c0,↓bZ,↓cJ,↓cT,↓dg,↓a2,↓aR,↓a3,↓aN,↓aJ,↓a4,↓cQ,↓b1,↓b7,↓cp,↓cq,↓cr,↓ct,↓cv,↓cw,↓cx,↓cy,↓dA,↓dB,↓dj,↓dM,↓cE,↓cF,↓cM,↓dn,b9,dT,b8,decide_eq_false_iff_not,ite_not,↓reduceIte,ba,az,bb,bE,bf,bP,cB,Nat.reduceAdd,bz,↓bk,Nat.reduceLeDiff,aD,cY,c3,dJ,dF,b4,eq_false eS];exact u 0 (Nat.zero_le _)
 |succ n y=>
  intro dm;have eS:(0:Int)<((n+1:Nat):Int):=by omega
  have g:=fun(k:bd)=>(h.oV f4.oV).get (T:=aL) (G:=G) (X:=X) .i64 n (by omega) k
  have e:=fun(S:ag) (k:bd)=>ii (T:=aL) (G:=G) (X:=X) (s:=S) (k:=k) (n+1) (by omega) (by omega)
  simp -implicitDefEqProofs only[Nat.add_sub_cancel] at e;rw[tI];by_cases g8:l.getD n 0=0
  ·have r:((l.getD n 0:Nat):Int)=0:=by omega
   simp -implicitDefEqProofs only[↓cI,↓cN,↓b0,↓bo,↓aF,↓aC,↓ax,↓aG,↓aO,↓aQ,↓ay,↓aH,↓aB,↓aW,↓a1,↓bg,↓dP,↓aI,↓bw,↓b5,↓c6,↓cd,↓cf,↓b6,↓cg,↓ch,↓ci,↓cj,↓ck,↓cl,↓bB,↓bC,↓bD,↓c7,↓c8,↓c9,↓da,↓db,↓dc,↓dd,↓de,↓df,↓cm,↓cn,↓co,↓bJ,↓cL,↓be,↓c0,↓bZ,↓cJ,↓cT,↓dg,↓a2,↓aR,↓a3,↓aN,↓aJ,↓a4,↓cQ,↓b1,↓b7,↓cp,↓cq,↓cr,↓ct,↓cv,↓cw,↓cx,↓cy,↓dA,↓dB,↓dj,↓dM,↓cE,↓cF,↓cM,↓dn,b9,dT,b8,decide_eq_false_iff_not,ite_not,↓reduceIte,ba,az,bb,bE,bf,bP,cB,Nat.reduceAdd,bz,↓bk,Nat.reduceLeDiff,aD,cY,c3,dJ,dF,b4,eq_true eS,e,↓g,r,CU,hf,if_pos g8];exact y (by omega)
  ·have r:¬((l.getD n 0:Nat):Int)=0:=by omega
   simp -implicitDefEqProofs only[↓cI,↓cN,↓b0,↓bo,↓aF,↓aC,↓ax,↓aG,↓aO,↓aQ,↓ay,↓aH,↓aB,↓aW,↓a1,↓bg,↓dP,↓aI,↓bw,↓b5,↓c6,↓cd,↓cf,↓b6,↓cg,↓ch,↓ci,↓cj,↓ck,↓cl,↓bB,↓bC,↓bD,↓c7,↓c8,↓c9,↓da,↓db,↓dc,↓dd,↓de,↓df,↓cm,↓cn,↓co,↓bJ,↓cL,↓be,↓c0,↓bZ,↓cJ,↓cT,↓dg,↓a2,↓aR,↓a3,↓aN,↓aJ,↓a4,↓cQ,↓b1,↓b7,↓cp,↓cq,↓cr,↓ct,↓cv,↓cw,↓cx,↓cy,↓dA,↓dB,↓dj,↓dM,↓cE,↓cF,↓cM,↓dn,b9,dT,b8,decide_eq_false_iff_not,ite_not,↓reduceIte,ba,az,bb,bE,bf,bP,cB,Nat.reduceAdd,bz,↓bk,Nat.reduceLeDiff,aD,cY,c3,dJ,dF,b4,eq_true eS,e,↓g,eq_false r,hf,if_neg g8];exact u (n+1) dm
theorem mL(s:ag)(v:ae)(l:List Nat)(h:l3 s v l)(e:l.length<9223372036854775807):aA aL G X 135 [v] s=.ok (pu v (hf l l.length)) s:=by rw[GC,Ri,h.len];exact DD G X s v l h e s.ai (.ai s) l.length (aD _)
theorem LZ{s S:ag}(f4:Child s S){j:Nat}{l:List Nat}(h:gW S j l)(n:Nat)(dm:n=l.length)(e:l.length<9223372036854775807):∃v,jK v (gh l)∧(aV aL G X).bn S (fun v s=>(aV aL G X).a0 false [some v] s) 135 [.cO (.g S.aa j) 0 n n 1]=.ok v s:=by
 subst dm;have aU:=h.rd l.length l.length (aD _) (aD _);rw[List.take_length] at aU;rw[a8 (mL G X S _ l aU e)];have hle:=jC l l.length;obtain⟨v,ar,av⟩:=nb (S:=S) (j:=j) (off:=0) (cap:=l.length) (gh l) (n:=hf l l.length) (ik l).symm h (by rw[b9,ik];simp [gh,List.map_take]) (by rw[ik];simpa using hle)
 exact⟨v,av,gv f4 _ _ ar⟩
theorem wW{s S:ag}(f4:Child s S){j:Nat}{l:List Nat}(h:gW S j l)(n:Nat)(dm:n=l.length)(e:l.length<9223372036854775807)(w:ae)(hw:w.plain=true):∃v,jK v (gh l)∧(aV aL G X).bn S (fun v s=>(aV aL G X).a0 false [some v,some w] s) 135 [.cO (.g S.aa j) 0 n n 1]=.ok (.d0 [v,w]) s:=by
 subst dm;have aU:=h.rd l.length l.length (aD _) (aD _);rw[List.take_length] at aU;rw[a8 (mL G X S _ l aU e)];have hle:=jC l l.length;obtain⟨v,ar,av⟩:=nb (S:=S) (j:=j) (off:=0) (cap:=l.length) (gh l) (n:=hf l l.length) (ik l).symm h (by rw[b9,ik];simp [gh,List.map_take]) (by rw[ik];simpa using hle)
 exact⟨v,av,kC f4 _ _ _ _ ar (yd hw)⟩
def pH(x y:Nat):Int:=if x<y then -1 else if y<x then 1 else 0
theorem DE(s:ag)(J K:ae)(a b:List Nat)(M:l3 s J a)(U:l3 s K b)(V:dO a)(Y:dO b)(bN:a.length=b.length)(gZ:a.length<9223372036854775807)(S:ag)(f4:Child s S):∀n k,k+n=a.length→val (a.drop n)=val (b.drop n)→
  rU (aV aL G X) J K (.int .i64 (a.length:Int)) (.int .i64 (k:Int)) S=.ok (.int .i64 (pH (val a) (val b))) s:=by
 intro n
 induction n with
 |zero=>
  intro k cZ he;have h:¬((k:Int)<(a.length:Int)):=by omega
  rw[tG];simp -implicitDefEqProofs only[↓cI,↓cN,↓b0,↓bo,↓aF,↓aC,↓ax,↓aG,↓aO,↓aQ,↓ay,↓aH,↓aB,↓aW,↓a1,↓bg,↓dP,↓aI,↓bw,↓b5,↓c6,↓cd,↓cf,↓b6,↓cg,↓ch,↓ci,↓cj,↓ck,↓cl,↓bB,↓bC,↓bD,↓c7,↓c8,↓c9,↓da,↓db,↓dc,↓dd,↓de,↓df,↓cm,↓cn,↓co,↓bJ,↓cL,↓be,↓c0,↓bZ,↓cJ,↓cT,↓dg,↓a2,↓aR,↓a3,↓aN,↓aJ,↓a4,↓cQ,↓b1,↓b7,↓cp,↓cq,↓cr,↓ct,↓cv,↓cw,↓cx,↓cy,↓dA,↓dB,↓dj,↓dM,↓cE,↓cF,↓cM,↓dn,b9,dT,b8,decide_eq_false_iff_not,ite_not,↓reduceIte,ba,az,bb,bE,bf,bP,cB,Nat.reduceAdd,bz,↓bk,Nat.reduceLeDiff,aD,cY,c3,dJ,dF,b4,eq_false h,CP];simp -implicitDefEqProofs only[b9] at he;rw[ir f4,he];simp [pH]
 |succ n Z=>
  intro k cZ he;have h:(k:Int)<(a.length:Int):=by omega
  have wX:=fun(k:bd)=>(M.oV f4.oV).get (T:=aL) (G:=G) (X:=X) .i64 n (by omega) k
  have u:=fun(k:bd)=>(U.oV f4.oV).get (T:=aL) (G:=G) (X:=X) .i64 n (by omega) k
  have y:=fun(S:ag) (k:bd)=>M.len (T:=aL) (G:=G) (X:=X) k S
  have A:=fun(S:ag) (k:bd)=>ii (T:=aL) (G:=G) (X:=X) (s:=S) (k:=k) a.length (by omega) (by omega)
  have r:=fun(S:ag) (lN:bd)=>lh (T:=aL) (G:=G) (X:=X) (s:=S) (k:=lN) (a.length-1) k (by omega) (by omega)
  have aa:=fun(S:ag) (lN:bd)=>hT (T:=aL) (G:=G) (X:=X) (s:=S) (k:=lN) k (by omega)
  have ab:a.length-1-k=n:=by omega
  simp -implicitDefEqProofs only[ab] at r;have F:=mi a n (by omega);have H:=mi b n (by omega);have N:=k4 a n (by omega);have O:=k4 b n (by omega);have ac:=hV (a.take n) (V.take n);have ad:=hV (b.take n) (Y.take n);have af:(a.take n).length=n:=by simp;omega
  have ah:(b.take n).length=n:=by simp;omega
  rw[af] at ac;rw[ah] at ad;rw[tG];simp -implicitDefEqProofs only[↓cI,↓cN,↓b0,↓bo,↓aF,↓aC,↓ax,↓aG,↓aO,↓aQ,↓ay,↓aH,↓aB,↓aW,↓a1,↓bg,↓dP,↓aI,↓bw,↓b5,↓c6,↓cd,↓cf,↓b6,↓cg,↓ch,↓ci,↓cj,↓ck,↓cl,↓bB,↓bC,↓bD,↓c7,↓c8,↓c9,↓da,↓db,↓dc,↓dd,↓de,↓df,↓cm,↓cn,↓co,↓bJ,↓cL,↓be,↓c0,↓bZ,↓cJ,↓cT,↓dg,↓a2,↓aR,↓a3,↓aN,↓aJ,↓a4,↓cQ,↓b1,↓b7,↓cp,↓cq,↓cr,↓ct,↓cv,↓cw,↓cx,↓cy,↓dA,↓dB,↓dj,↓dM,↓cE,↓cF,↓cM,↓dn,b9,dT,b8,decide_eq_false_iff_not,ite_not,↓reduceIte,ba,az,bb,bE,bf,bP,cB,Nat.reduceAdd,bz,↓bk,Nat.reduceLeDiff,aD,cY,c3,dJ,dF,b4,eq_true h];rw[CO];by_cases e:a.getD n 0=b.getD n 0
  ·have hX:((a.getD n 0:Nat):Int)=((b.getD n 0:Nat):Int):=by omega
   simp -implicitDefEqProofs only[↓cI,↓cN,↓b0,↓bo,↓aF,↓aC,↓ax,↓aG,↓aO,↓aQ,↓ay,↓aH,↓aB,↓aW,↓a1,↓bg,↓dP,↓aI,↓bw,↓b5,↓c6,↓cd,↓cf,↓b6,↓cg,↓ch,↓ci,↓cj,↓ck,↓cl,↓bB,↓bC,↓bD,↓c7,↓c8,↓c9,↓da,↓db,↓dc,↓dd,↓de,↓df,↓cm,↓cn,↓co,↓bJ,↓cL,↓be,↓c0,↓bZ,↓cJ,↓cT,↓dg,↓a2,↓aR,↓a3,↓aN,↓aJ,↓a4,↓cQ,↓b1,↓b7,↓cp,↓cq,↓cr,↓ct,↓cv,↓cw,↓cx,↓cy,↓dA,↓dB,↓dj,↓dM,↓cE,↓cF,↓cM,↓dn,b9,dT,b8,decide_eq_false_iff_not,ite_not,↓reduceIte,ba,az,bb,bE,bf,bP,cB,Nat.reduceAdd,bz,↓bk,Nat.reduceLeDiff,aD,cY,c3,dJ,dF,b4,↓y,↓A,↓r,↓wX,↓u,hX,not_true_eq_false];rw[CN,aa];exact Z (k+1) (by omega) (by rw[F,H,e,he])
  ·have hX:¬((a.getD n 0:Nat):Int)=((b.getD n 0:Nat):Int):=by omega
   by_cases ai:a.getD n 0<b.getD n 0
   ·have I:((a.getD n 0:Nat):Int)<((b.getD n 0:Nat):Int):=by omega
    simp -implicitDefEqProofs only[↓cI,↓cN,↓b0,↓bo,↓aF,↓aC,↓ax,↓aG,↓aO,↓aQ,↓ay,↓aH,↓aB,↓aW,↓a1,↓bg,↓dP,↓aI,↓bw,↓b5,↓c6,↓cd,↓cf,↓b6,↓cg,↓ch,↓ci,↓cj,↓ck,↓cl,↓bB,↓bC,↓bD,↓c7,↓c8,↓c9,↓da,↓db,↓dc,↓dd,↓de,↓df,↓cm,↓cn,↓co,↓bJ,↓cL,↓be,↓c0,↓bZ,↓cJ,↓cT,↓dg,↓a2,↓aR,↓a3,↓aN,↓aJ,↓a4,↓cQ,↓b1,↓b7,↓cp,↓cq,↓cr,↓ct,↓cv,↓cw,↓cx,↓cy,↓dA,↓dB,↓dj,↓dM,↓cE,↓cF,↓cM,↓dn,b9,dT,b8,decide_eq_false_iff_not,ite_not,↓reduceIte,ba,az,bb,bE,bf,bP,cB,Nat.reduceAdd,bz,↓bk,Nat.reduceLeDiff,aD,cY,c3,dJ,dF,b4,↓y,↓A,↓r,↓wX,↓u,eq_false hX,not_false_eq_true,eq_true I];rw[ir f4]
    have:val a<val b:=by
     rw[N,O];have ar:val (a.drop n)+1≤val (b.drop n):=by rw[F,H,he];omega
     have av:=Nat.mul_le_mul_left (B^n) ar;rw[fG,Nat.mul_one] at av;omega
    simp [pH,this]
   ·have I:¬((a.getD n 0:Nat):Int)<((b.getD n 0:Nat):Int):=by omega
    simp -implicitDefEqProofs only[↓cI,↓cN,↓b0,↓bo,↓aF,↓aC,↓ax,↓aG,↓aO,↓aQ,↓ay,↓aH,↓aB,↓aW,↓a1,↓bg,↓dP,↓aI,↓bw,↓b5,↓c6,↓cd,↓cf,↓b6,↓cg,↓ch,↓ci,↓cj,↓ck,↓cl,↓bB,↓bC,↓bD,↓c7,↓c8,↓c9,↓da,↓db,↓dc,↓dd,↓de,↓df,↓cm,↓cn,↓co,↓bJ,↓cL,↓be,↓c0,↓bZ,↓cJ,↓cT,↓dg,↓a2,↓aR,↓a3,↓aN,↓aJ,↓a4,↓cQ,↓b1,↓b7,↓cp,↓cq,↓cr,↓ct,↓cv,↓cw,↓cx,↓cy,↓dA,↓dB,↓dj,↓dM,↓cE,↓cF,↓cM,↓dn,b9,dT,b8,decide_eq_false_iff_not,ite_not,↓reduceIte,ba,az,bb,bE,bf,bP,cB,Nat.reduceAdd,bz,↓bk,Nat.reduceLeDiff,aD,cY,c3,dJ,dF,b4,↓y,↓A,↓r,↓wX,↓u,eq_false hX,not_false_eq_true,eq_false I,CM];rw[ir f4]
    have:val b<val a:=by
     rw[N,O];have ar:val (b.drop n)+1≤val (a.drop n):=by rw[F,H,he];omega
     have av:=Nat.mul_le_mul_left (B^n) ar;rw[fG,Nat.mul_one] at av;omega
    simp [pH,this,Nat.not_lt.2 (Nat.le_of_lt this)]
theorem RA(s:ag)(r u:ae)(a b:List Nat)(B:l3 s r a)(F:l3 s u b)(H:dO a)(I:dO b)(J:fb a)(K:fb b)(gZ:a.length<9223372036854775807)(N:b.length<9223372036854775807):
  aA aL G X 133 [r,u] s=.ok (.int .i64 (pH (val a) (val b))) s:=by
 rw[GA,Rg];have h:=fun(S:ag) (k:bd)=>B.len (T:=aL) (G:=G) (X:=X) k S
 have y:=fun(S:ag) (k:bd)=>F.len (T:=aL) (G:=G) (X:=X) k S
 by_cases e:a.length=b.length
 ·have hX:(a.length:Int)=(b.length:Int):=by omega
  simp -implicitDefEqProofs only[↓cI,↓cN,↓b0,↓bo,↓aF,↓aC,↓ax,↓aG,↓aO,↓aQ,↓ay,↓aH,↓aB,↓aW,↓a1,↓bg,↓dP,↓aI,↓bw,↓b5,↓c6,↓cd,↓cf,↓b6,↓cg,↓ch,↓ci,↓cj,↓ck,↓cl,↓bB,↓bC,↓bD,↓c7,↓c8,↓c9,↓da,↓db,↓dc,↓dd,↓de,↓df,↓cm,↓cn,↓co,↓bJ,↓cL,↓be,↓c0,↓bZ,↓cJ,↓cT,↓dg,↓a2,↓aR,↓a3,↓aN,↓aJ,↓a4,↓cQ,↓b1,↓b7,↓cp,↓cq,↓cr,↓ct,↓cv,↓cw,↓cx,↓cy,↓dA,↓dB,↓dj,↓dM,↓cE,↓cF,↓cM,↓dn,b9,dT,b8,decide_eq_false_iff_not,ite_not,↓reduceIte,ba,az,bb,bE,bf,bP,cB,Nat.reduceAdd,bz,↓bk,Nat.reduceLeDiff,aD,cY,c3,dJ,dF,b4,↓h,↓y,eq_true hX,not_true_eq_false];rw[CQ,h];exact DE G X s r u a b B F H I e gZ s.ai (.ai s) a.length 0 (by omega) (by rw[List.drop_length,e,List.drop_length])
 ·have hX:¬(a.length:Int)=(b.length:Int):=by omega
  by_cases M:a.length<b.length
  ·have A:(a.length:Int)<(b.length:Int):=by omega
   have:=nX H K M;simp -implicitDefEqProofs only[↓cI,↓cN,↓b0,↓bo,↓aF,↓aC,↓ax,↓aG,↓aO,↓aQ,↓ay,↓aH,↓aB,↓aW,↓a1,↓bg,↓dP,↓aI,↓bw,↓b5,↓c6,↓cd,↓cf,↓b6,↓cg,↓ch,↓ci,↓cj,↓ck,↓cl,↓bB,↓bC,↓bD,↓c7,↓c8,↓c9,↓da,↓db,↓dc,↓dd,↓de,↓df,↓cm,↓cn,↓co,↓bJ,↓cL,↓be,↓c0,↓bZ,↓cJ,↓cT,↓dg,↓a2,↓aR,↓a3,↓aN,↓aJ,↓a4,↓cQ,↓b1,↓b7,↓cp,↓cq,↓cr,↓ct,↓cv,↓cw,↓cx,↓cy,↓dA,↓dB,↓dj,↓dM,↓cE,↓cF,↓cM,↓dn,b9,dT,b8,decide_eq_false_iff_not,ite_not,↓reduceIte,ba,az,bb,bE,bf,bP,cB,Nat.reduceAdd,bz,↓bk,Nat.reduceLeDiff,aD,cY,c3,dJ,dF,b4,↓h,↓y,eq_false hX,not_false_eq_true,eq_true A];simp [pH,this]
  ·have A:¬(a.length:Int)<(b.length:Int):=by omega
   have:=nX I J (by omega:b.length<a.length);simp -implicitDefEqProofs only[↓cI,↓cN,↓b0,↓bo,↓aF,↓aC,↓ax,↓aG,↓aO,↓aQ,↓ay,↓aH,↓aB,↓aW,↓a1,↓bg,↓dP,↓aI,↓bw,↓b5,↓c6,↓cd,↓cf,↓b6,↓cg,↓ch,↓ci,↓cj,↓ck,↓cl,↓bB,↓bC,↓bD,↓c7,↓c8,↓c9,↓da,↓db,↓dc,↓dd,↓de,↓df,↓cm,↓cn,↓co,↓bJ,↓cL,↓be,↓c0,↓bZ,↓cJ,↓cT,↓dg,↓a2,↓aR,↓a3,↓aN,↓aJ,↓a4,↓cQ,↓b1,↓b7,↓cp,↓cq,↓cr,↓ct,↓cv,↓cw,↓cx,↓cy,↓dA,↓dB,↓dj,↓dM,↓cE,↓cF,↓cM,↓dn,b9,dT,b8,decide_eq_false_iff_not,ite_not,↓reduceIte,ba,az,bb,bE,bf,bP,cB,Nat.reduceAdd,bz,↓bk,Nat.reduceLeDiff,aD,cY,c3,dJ,dF,b4,↓h,↓y,eq_false hX,not_false_eq_true,eq_false A,CL];simp [pH,this,Nat.not_lt.2 (Nat.le_of_lt this)]
def mb(x:Nat):Nat:=if x=0 then 0 else x.log2+1
theorem afr:∀x,x<256→mb x≤8∧x<2^mb x∧(x≠0→2^mb x≤2*x):=by decide +kernel
theorem L0{s:ag}{k:bd}(e8:List Nat)(ev:IntKind)(i n:Nat)(h:e8[i]? =some n):(aV aL G X).hz s k (.str e8) (.int ev (i:Int))=k (.int .u8 (n:Int)) s:=by show h6 (gz G (aA aL G X) bQ) s k (.str e8) (.int ev (i:Int))=_;unfold h6;simp -implicitDefEqProofs only[g9,h];rfl
theorem tX(s:ag)(x m:Nat)(a5:x<256)(hm:m≤24):∃n:Nat,pB (aV aL G X) (.int .u32 (x:Int)) (.int .i64 (m:Int)) s.ai=.ok (.int .i64 ((m+n:Nat):Int)) s∧n≤8∧x<2^n∧(x≠0→2^n≤2*x):=by
 obtain⟨av,bV⟩:=afr x a5;refine⟨mb x,?_,av,bV⟩;have e:∀(S:ag) (k:bd),(aV aL G X).bY S k .u8 (.int .u32 (x:Int))=k (.int .u8 (x:Int)) S:=fun S k=>by
  show k (.int .u8 (IntKind.wrap .u8 (x:Int))) S=_
  have:IntKind.wrap .u8 (x:Int)=(x:Int):=by unfold IntKind.wrap;simp -implicitDefEqProofs only[show IntKind.bits .u8=8 from rfl,show IntKind.signed .u8=false from rfl,gb];show(x:Int)%256=x;omega
  rw[this]
 have h:∀(S:ag) (k:bd),(aV aL G X).bY S k .i64 (.int .u8 (mb x:Int))=k (.int .i64 (mb x:Int)) S:=fun S k=>by show k (.int .i64 (IntKind.wrap .i64 (mb x:Int))) S=_;rw[eP _ (by omega) (by omega)]
 have r:=fun(S:ag) (k:bd)=>iw (T:=aL) (G:=G) (X:=X) (s:=S) (k:=k) m (mb x) (by omega)
 rw[Dd,e];refine(L0 G X _ _ x (mb x) ?_).trans ?_
 ·clear r h e bV av
  revert x
  decide +kernel
 ·rw[h,r,aN]
theorem RB(s:ag)(x:Nat)(a5:x<4294967296):∃n:Nat,aA aL G X 111 [U x] s=.ok (.int .i64 (n:Int)) s∧n≤32∧x<2^n∧(x≠0→2^n≤2*x):=by
 rw[GJ,Ro];have h:=fun(S:ag) (k:bd)=>vR (T:=aL) (G:=G) (X:=X) (s:=S) (k:=k) .u64 x 16 (by omega)
 have e:∀y m:Nat,y<65536→m≤16→∃n:Nat,nU (aV aL G X) (.int .u32 (y:Int)) (.int .i64 (m:Int)) s.ai=.ok (.int .i64 ((m+n:Nat):Int)) s∧n≤16∧y<2^n∧(y≠0→2^n≤2*y):=fun y m eM hm=>by
  have r:=fun(S:ag) (k:bd)=>vR (T:=aL) (G:=G) (X:=X) (s:=S) (k:=k) .u64 y 8 (by omega)
  have u:=fun(S:ag) (k:bd)=>iw (T:=aL) (G:=G) (X:=X) (s:=S) (k:=k) m 8 (by omega)
  rw[De];by_cases c:256≤y
  ·have n2:(256:Int)≤(y:Int):=by omega
   obtain⟨n,ar,av,bV,dD⟩:=tX G X s (y/2^8) (m+8) (by omega) (by omega);refine⟨n+8,?_,by omega,?_,fun eS=>?_⟩
   ·have dH:(aV aL G X).aj s.ai (fun v10 s=>(aV aL G X).aj s (fun A s=>pB (aV aL G X) v10 A s) (al .add (.int .i64 (m:Int)) (.int .i64 8))) (al .shr (.int .u32 (y:Int)) (.int .u64 8))=.ok (.int .i64 ((m+(n+8):Nat):Int)) s:=by
     refine(r _ _).trans ?_;refine(u _ _).trans ?_;rw[ar];congr 3;omega
    simp -implicitDefEqProofs only[↓cI,↓cN,↓b0,↓bo,↓aF,↓aC,↓ax,↓aG,↓aO,↓aQ,↓ay,↓aH,↓aB,↓aW,↓a1,↓bg,↓dP,↓aI,↓bw,↓b5,↓c6,↓cd,↓cf,↓b6,↓cg,↓ch,↓ci,↓cj,↓ck,↓cl,↓bB,↓bC,↓bD,↓c7,↓c8,↓c9,↓da,↓db,↓dc,↓dd,↓de,↓df,↓cm,↓cn,↓co,↓bJ,↓cL,↓be,↓c0,↓bZ,↓cJ,↓cT,↓dg,↓a2,↓aR,↓a3,↓aN,↓aJ,↓a4,↓cQ,↓b1,↓b7,↓cp,↓cq,↓cr,↓ct,↓cv,↓cw,↓cx,↓cy,↓dA,↓dB,↓dj,↓dM,↓cE,↓cF,↓cM,↓dn,b9,dT,b8,decide_eq_false_iff_not,ite_not,↓reduceIte,ba,az,bb,bE,bf,bP,cB,Nat.reduceAdd,bz,↓bk,Nat.reduceLeDiff,aD,cY,c3,dJ,dF,b4,eq_true n2,dH]
   ·rw[Nat.pow_add];omega
   ·rw[Nat.pow_add];omega
  ·have n2:¬(256:Int)≤(y:Int):=by omega
   obtain⟨n,ar,av,bV,dD⟩:=tX G X s y m (by omega) (by omega);refine⟨n,?_,by omega,bV,dD⟩;simp -implicitDefEqProofs only[↓cI,↓cN,↓b0,↓bo,↓aF,↓aC,↓ax,↓aG,↓aO,↓aQ,↓ay,↓aH,↓aB,↓aW,↓a1,↓bg,↓dP,↓aI,↓bw,↓b5,↓c6,↓cd,↓cf,↓b6,↓cg,↓ch,↓ci,↓cj,↓ck,↓cl,↓bB,↓bC,↓bD,↓c7,↓c8,↓c9,↓da,↓db,↓dc,↓dd,↓de,↓df,↓cm,↓cn,↓co,↓bJ,↓cL,↓be,↓c0,↓bZ,↓cJ,↓cT,↓dg,↓a2,↓aR,↓a3,↓aN,↓aJ,↓a4,↓cQ,↓b1,↓b7,↓cp,↓cq,↓cr,↓ct,↓cv,↓cw,↓cx,↓cy,↓dA,↓dB,↓dj,↓dM,↓cE,↓cF,↓cM,↓dn,b9,dT,b8,decide_eq_false_iff_not,ite_not,↓reduceIte,ba,az,bb,bE,bf,bP,cB,Nat.reduceAdd,bz,↓bk,Nat.reduceLeDiff,aD,cY,c3,dJ,dF,b4,eq_false n2,ar]
 by_cases c:65536≤x
 ·have n2:(65536:Int)≤(x:Int):=by omega
  obtain⟨n,ar,av,bV,dD⟩:=e (x/2^16) 16 (by omega) (by omega);refine⟨16+n,?_,by omega,?_,fun eS=>?_⟩
  ·have dH:(aV aL G X).aj s.ai (fun v6 s=>nU (aV aL G X) v6 (.int .i64 16) s) (al .shr (.int .u32 (x:Int)) (.int .u64 16))=.ok (.int .i64 ((16+n:Nat):Int)) s:=by
    refine(h _ _).trans ?_;exact ar
   simp -implicitDefEqProofs only[↓cI,↓cN,↓b0,↓bo,↓aF,↓aC,↓ax,↓aG,↓aO,↓aQ,↓ay,↓aH,↓aB,↓aW,↓a1,↓bg,↓dP,↓aI,↓bw,↓b5,↓c6,↓cd,↓cf,↓b6,↓cg,↓ch,↓ci,↓cj,↓ck,↓cl,↓bB,↓bC,↓bD,↓c7,↓c8,↓c9,↓da,↓db,↓dc,↓dd,↓de,↓df,↓cm,↓cn,↓co,↓bJ,↓cL,↓be,↓c0,↓bZ,↓cJ,↓cT,↓dg,↓a2,↓aR,↓a3,↓aN,↓aJ,↓a4,↓cQ,↓b1,↓b7,↓cp,↓cq,↓cr,↓ct,↓cv,↓cw,↓cx,↓cy,↓dA,↓dB,↓dj,↓dM,↓cE,↓cF,↓cM,↓dn,b9,dT,b8,decide_eq_false_iff_not,ite_not,↓reduceIte,ba,az,bb,bE,bf,bP,cB,Nat.reduceAdd,bz,↓bk,Nat.reduceLeDiff,aD,cY,c3,dJ,dF,b4,eq_true n2,dH]
   try rfl
  ·rw[Nat.pow_add];omega
  ·rw[Nat.pow_add];omega
 ·have n2:¬(65536:Int)≤(x:Int):=by omega
  obtain⟨n,ar,av,bV,dD⟩:=e x 0 (by omega) (by omega);refine⟨n,?_,by omega,bV,dD⟩;rw[bf] at ar;have B:nU (aV aL G X) (.int .u32 (x:Int)) (.int .i64 0) s.ai=.ok (.int .i64 (n:Int)) s:=ar;simp -implicitDefEqProofs only[↓cI,↓cN,↓b0,↓bo,↓aF,↓aC,↓ax,↓aG,↓aO,↓aQ,↓ay,↓aH,↓aB,↓aW,↓a1,↓bg,↓dP,↓aI,↓bw,↓b5,↓c6,↓cd,↓cf,↓b6,↓cg,↓ch,↓ci,↓cj,↓ck,↓cl,↓bB,↓bC,↓bD,↓c7,↓c8,↓c9,↓da,↓db,↓dc,↓dd,↓de,↓df,↓cm,↓cn,↓co,↓bJ,↓cL,↓be,↓c0,↓bZ,↓cJ,↓cT,↓dg,↓a2,↓aR,↓a3,↓aN,↓aJ,↓a4,↓cQ,↓b1,↓b7,↓cp,↓cq,↓cr,↓ct,↓cv,↓cw,↓cx,↓cy,↓dA,↓dB,↓dj,↓dM,↓cE,↓cF,↓cM,↓dn,b9,dT,b8,decide_eq_false_iff_not,ite_not,↓reduceIte,ba,az,bb,bE,bf,bP,cB,Nat.reduceAdd,bz,↓bk,Nat.reduceLeDiff,aD,cY,c3,dJ,dF,b4,eq_false n2,B]
theorem RC(s:ag)(x:Nat)(a5:x<4294967296)(eS:x≠0):∃c:Nat,aA aL G X 136 [U x] s=.ok (.int .i64 (c:Int)) s∧c<32∧2147483648≤x*2^c∧x*2^c<4294967296:=by
 obtain⟨n,ar,av,bV,dD⟩:=RB G X s.ai x a5;have h:=dD eS;have dm:n≠0:=fun e=>by subst e;omega
 have u:2^n*2^(32-n)=4294967296:=by rw[←Nat.pow_add,show n+(32-n)=32 by omega]
 refine⟨32-n,?_,by omega,?_,?_⟩
 ·have r:=fun(S:ag) (k:bd)=>lh (T:=aL) (G:=G) (X:=X) (s:=S) (k:=k) 32 n av (by omega)
  rw[GD,Rj,az,a8 ar];refine(r _ _).trans ?_;rw[aN]
 ·have:=fZ (2^(32-n)) h;rw[gM] at this;omega
 ·have:=Nat.mul_lt_mul_of_pos_right bV (Nat.two_pow_pos (32-n));omega
theorem DF(s:ag)(r:ae)(a:List Nat)(d:Nat)(u:l3 s r a)(y:dO a)(cP:d≠0)(K:d<4294967296)(gZ:a.length<9223372036854775807)(j:Nat):∀n k rest out S,k+n=a.length→Child s S→gW S j out→out.length=a.length→dO out→rest<d→val (a.drop n)=val (out.drop n)*d+rest→
  ∃v q,rW (aV aL G X) r (.int .u32 (d:Int)) (.cO (.l j) 0 a.length a.length 1) (.int .u64 (rest:Int)) (.int .i64 (a.length:Int)) (.int .i64 (k:Int)) S=.ok (.d0 [v,.int .u32 ((val a%d:Nat):Int)]) s∧jK v q∧dO q∧fb q∧val q=val a/d:=by
 intro n
 induction n with
 |zero=>
  intro k rest out S cZ f4 cX bN e aU bM;have h:¬((k:Int)<(a.length:Int)):=by omega
  have M:rest%4294967296=rest:=by omega
  rw[tH];simp -implicitDefEqProofs only[↓cI,↓cN,↓b0,↓bo,↓aF,↓aC,↓ax,↓aG,↓aO,↓aQ,↓ay,↓aH,↓aB,↓aW,↓a1,↓bg,↓dP,↓aI,↓bw,↓b5,↓c6,↓cd,↓cf,↓b6,↓cg,↓ch,↓ci,↓cj,↓ck,↓cl,↓bB,↓bC,↓bD,↓c7,↓c8,↓c9,↓da,↓db,↓dc,↓dd,↓de,↓df,↓cm,↓cn,↓co,↓bJ,↓cL,↓be,↓c0,↓bZ,↓cJ,↓cT,↓dg,↓a2,↓aR,↓a3,↓aN,↓aJ,↓a4,↓cQ,↓b1,↓b7,↓cp,↓cq,↓cr,↓ct,↓cv,↓cw,↓cx,↓cy,↓dA,↓dB,↓dj,↓dM,↓cE,↓cF,↓cM,↓dn,b9,dT,b8,decide_eq_false_iff_not,ite_not,↓reduceIte,ba,az,bb,bE,bf,bP,cB,Nat.reduceAdd,bz,↓bk,Nat.reduceLeDiff,aD,cY,c3,dJ,dF,b4,eq_false h,CT,ix,M];obtain⟨v,f1,f2⟩:=wW G X f4 cX a.length bN.symm (by omega) (.int .u32 (rest:Int)) rfl;simp -implicitDefEqProofs only[b9] at bM;refine⟨v,gh out,?_,f1,lx e,jq out,?_⟩
  ·rw[f2,bM,ez,Nat.mul_add_mod,hA aU]
  ·rw[kk,bM,ez,Nat.mul_add_div (by omega),Nat.div_eq_of_lt aU,Nat.add_zero]
 |succ n N=>
  intro k rest out S cZ f4 cX bN e aU bM;have h:(k:Int)<(a.length:Int):=by omega
  obtain⟨A,B,F,H⟩:=DB a out n d rest cP (by omega) bN y e aU bM;have a5:=y.getD n;rw[kO] at A B F H a5;have wX:=fun(k:bd)=>(u.oV f4.oV).get (T:=aL) (G:=G) (X:=X) .i64 n (by omega) k
  have gH:=fun x (k:bd)=>cX.gH (T:=aL) (G:=G) (X:=X) n a.length a.length x (by omega) (by omega) k
  have O:=fun(S:ag) (k:bd)=>u.len (T:=aL) (G:=G) (X:=X) k S
  have U:=fun(S:ag) (k:bd)=>ii (T:=aL) (G:=G) (X:=X) (s:=S) (k:=k) a.length (by omega) (by omega)
  have I:=fun(S:ag) (lN:bd)=>lh (T:=aL) (G:=G) (X:=X) (s:=S) (k:=lN) (a.length-1) k (by omega) (by omega)
  have V:=fun(S:ag) (lN:bd)=>hT (T:=aL) (G:=G) (X:=X) (s:=S) (k:=lN) k (by omega)
  have Y:a.length-1-k=n:=by omega
  simp -implicitDefEqProofs only[Y] at I;have Z:rest*4294967296%18446744073709551616=rest*4294967296:=by omega
  have aa:=fun(S:ag) (k:bd)=>hS (T:=aL) (G:=G) (X:=X) (s:=S) (k:=k) (a.getD n 0) a5
  have J:=fun(S:ag) (k:bd)=>hS (T:=aL) (G:=G) (X:=X) (s:=S) (k:=k) d K
  have gU:=fun(S:ag) (k:bd)=>vS (T:=aL) (G:=G) (X:=X) (s:=S) (k:=k) rest (a.getD n 0) a5 (by omega)
  have d1:=fun(S:ag) (k:bd)=>HE (T:=aL) (G:=G) (X:=X) (s:=S) (k:=k) (rest*4294967296+a.getD n 0) d cP (by omega)
  have d2:=fun(S:ag) (k:bd)=>zN (T:=aL) (G:=G) (X:=X) (s:=S) (k:=k) (rest*4294967296+a.getD n 0) d cP
  have em:(rest*4294967296+a.getD n 0)/d%4294967296=(rest*4294967296+a.getD n 0)/d:=hA A;rw[tH];simp -implicitDefEqProofs only[↓cI,↓cN,↓b0,↓bo,↓aF,↓aC,↓ax,↓aG,↓aO,↓aQ,↓ay,↓aH,↓aB,↓aW,↓a1,↓bg,↓dP,↓aI,↓bw,↓b5,↓c6,↓cd,↓cf,↓b6,↓cg,↓ch,↓ci,↓cj,↓ck,↓cl,↓bB,↓bC,↓bD,↓c7,↓c8,↓c9,↓da,↓db,↓dc,↓dd,↓de,↓df,↓cm,↓cn,↓co,↓bJ,↓cL,↓be,↓c0,↓bZ,↓cJ,↓cT,↓dg,↓a2,↓aR,↓a3,↓aN,↓aJ,↓a4,↓cQ,↓b1,↓b7,↓cp,↓cq,↓cr,↓ct,↓cv,↓cw,↓cx,↓cy,↓dA,↓dB,↓dj,↓dM,↓cE,↓cF,↓cM,↓dn,b9,dT,b8,decide_eq_false_iff_not,ite_not,↓reduceIte,ba,az,bb,bE,bf,bP,cB,Nat.reduceAdd,bz,↓bk,Nat.reduceLeDiff,aD,cY,c3,dJ,dF,b4,eq_true h];rw[CS,O,U,I,cE,Z,wX,aa,gU,J,d1,dn,em];simp -implicitDefEqProofs only[az];rw[gH,J,d2,CR,V];exact N (k+1) _ _ _ (by omega) (f4.put _ _) (cX.put _) (by simp [bN]) B F H
theorem RD(s:ag)(e:ae)(a:List Nat)(d:Nat)(r:l3 s e a)(y:dO a)(cP:d≠0)(A:d<4294967296)(gZ:a.length<4294967296):
  ∃v q,aA aL G X 134 [e,U d] s=.ok (.d0 [v,.int .u32 ((val a%d:Nat):Int)]) s∧jK v q∧dO q∧fb q∧val q=val a/d:=by
 rw[GB,Rh];have u:=fun(S:ag) (k:bd)=>r.len (T:=aL) (G:=G) (X:=X) k S
 have B:=fun(S:ag) (k:bd)=>pS (T:=aL) (G:=G) (X:=X) (s:=S) (k:=k) (U 0) 4 a.length a.length (aD _) (by omega)
 rw[u];refine Exists.imp (fun v h=>Exists.imp (fun q h=>?_) h) (DF G X s e a d r y cP A (by omega) _ a.length 0 0 _ _ (by omega) ((Child.ai s).new (.cells (List.replicate a.length (U 0)))) (gW.make _ _) (by simp) (pG _) (by omega) (by rw[List.drop_length,mm (by simp)];simp [val]));refine⟨?_,h.2⟩;refine(B _ _).trans ?_;rw[u];exact h.1
theorem RE(a b:Nat)(e:a<4294967296)(h:b<4294967296):((BitVec.ofInt 32 (a:Int) ||| BitVec.ofInt 32 (b:Int)).toNat:Int)=((a ||| b:Nat):Int):=by
 rw[BitVec.toNat_or];simp -implicitDefEqProofs only[BitVec.toNat_ofInt];congr 1;have ar:(((a:Int)%((2^32:Nat):Int))).toNat=a:=by omega
 have av:(((b:Int)%((2^32:Nat):Int))).toNat=b:=by omega
 rw[ar,av]
theorem Yn{s:ag}{k:bd}(c y q p:Nat)(aY:c<2^p)(eM:y=q*2^p)(fE:q*2^p+c<4294967296):(aV aL G X).aj s k (al .or (.int .u32 (c:Int)) (.int .u32 (y:Int)))=k (.int .u32 ((c+y:Nat):Int)) s:=by
 subst eM;have e:al .or (.int .u32 (c:Int)) (.int .u32 ((q*2^p:Nat):Int))=some (.int .u32 (IntKind.wrap .u32 ((BitVec.ofInt 32 (c:Int) ||| BitVec.ofInt 32 ((q*2^p:Nat):Int)).toNat:Int))):=by simp -implicitDefEqProofs only[al,gr,↓reduceIte];rfl
 rw[e,RE _ _ (by omega) (by omega),cN,wrap_u32];congr 2
 have:c ||| q*2^p=c+q*2^p:=by rw[Nat.or_comm,ez,←Nat.two_pow_add_eq_or_of_lt aY,Nat.add_comm]
 rw[this];omega
theorem DG(s:ag)(A:ae)(l:List Nat)(n:Nat)(M:l3 s A l)(r:dO l)(dm:n<4294967296)(gZ:l.length<4294967296)(j N:Nat)(qk:N=l.length+n/32+1):∀m i out S,i+m=l.length→Child s S→gW S j out→out.length=N→dO out→val (out.take (i+n/32+1))=val (l.take i)*2^(32*(n/32)+n%32)→out.getD (i+n/32) 0<2^(n%32)→
  ∃v q,r0 (aV aL G X) A (.int .i64 (n:Int)) (.cO (.l j) 0 N N 1) (.int .i64 (l.length:Int)) (.int .i64 (i:Int)) S=.ok v s∧jK v q∧dO q∧fb q∧val q=val l*2^n:=by
 intro m
 induction m with
 |zero=>
  intro i out S bL f4 cX bN u bM aY;have h:¬((i:Int)<(l.length:Int)):=by omega
  rw[tJ];simp -implicitDefEqProofs only[↓cI,↓cN,↓b0,↓bo,↓aF,↓aC,↓ax,↓aG,↓aO,↓aQ,↓ay,↓aH,↓aB,↓aW,↓a1,↓bg,↓dP,↓aI,↓bw,↓b5,↓c6,↓cd,↓cf,↓b6,↓cg,↓ch,↓ci,↓cj,↓ck,↓cl,↓bB,↓bC,↓bD,↓c7,↓c8,↓c9,↓da,↓db,↓dc,↓dd,↓de,↓df,↓cm,↓cn,↓co,↓bJ,↓cL,↓be,↓c0,↓bZ,↓cJ,↓cT,↓dg,↓a2,↓aR,↓a3,↓aN,↓aJ,↓a4,↓cQ,↓b1,↓b7,↓cp,↓cq,↓cr,↓ct,↓cv,↓cw,↓cx,↓cy,↓dA,↓dB,↓dj,↓dM,↓cE,↓cF,↓cM,↓dn,b9,dT,b8,decide_eq_false_iff_not,ite_not,↓reduceIte,ba,az,bb,bE,bf,bP,cB,Nat.reduceAdd,bz,↓bk,Nat.reduceLeDiff,aD,cY,c3,dJ,dF,b4,eq_false h,CY,ix];obtain⟨v,f1,f2⟩:=LZ G X f4 cX N bN.symm (by omega);refine⟨v,gh out,f2,f1,lx u,jq out,?_⟩;have dH:i=l.length:=by omega
  rw[dH] at bM;rw[kk,←List.take_length (l:=out),bN,qk,bM,List.take_length,Nat.div_add_mod]
 |succ m O=>
  intro i out S bL f4 cX bN u bM aY;have h:(i:Int)<(l.length:Int):=by omega
  have aU:n%32<32:=Nat.mod_lt _ (by omega);obtain⟨q,F,U⟩:=yQ (l.getD i 0) (n%32) aU;have H:=yR (l.getD i 0) (n%32) (r.getD i) aU;have e:=GV l out i (n/32) (n%32) aU (by omega) (by omega) u r bM aY _ rfl _ rfl;simp -implicitDefEqProofs only[] at e;have a5:=r.getD i;have V:B=4294967296:=rfl;have ai:2^(n%32)≤2^32:=Nat.pow_le_pow_right (by omega) (by omega);rw[V] at F U H e a5;generalize Y:l.getD i 0=x at *;have wX:=fun(k:bd)=>(M.oV f4.oV).get (T:=aL) (G:=G) (X:=X) .i64 i (by omega) k
  rw[Y] at wX;have Z:=fun(S:ag) (k:bd)=>hS (T:=aL) (G:=G) (X:=X) (s:=S) (k:=k) x a5
  have pY:=fun(S:ag) (k:bd)=>sZ (T:=aL) (G:=G) (X:=X) (s:=S) (k:=k) n
  have I:=fun(S:ag) (k:bd)=>sY (T:=aL) (G:=G) (X:=X) (s:=S) (k:=k) n (by omega)
  have s1:=fun(S:ag) (k:bd)=>zO (T:=aL) (G:=G) (X:=X) (s:=S) (k:=k) .i64 x (n%32) (by omega)
  have es:x*2^(n%32)%18446744073709551616=x*2^(n%32):=hA H.2;have J:=fun(S:ag) (k:bd)=>iw (T:=aL) (G:=G) (X:=X) (s:=S) (k:=k) i (n/32) (by omega)
  have aa:=fun S k=>ny G X S k (i+n/32) (by omega)
  have ab:=fun S k=>ny G X S k i (by omega)
  have hj:=fun(k:bd)=>cX.get (T:=aL) (G:=G) (X:=X) (i+n/32) N N (by omega) (by omega) k
  have gU:=fun(S:ag) (k:bd)=>Yn G X (s:=S) (k:=k) (out.getD (i+n/32) 0) (x*2^(n%32)%4294967296) q (n%32) aY F (by omega)
  have ac:=fun y (k:bd)=>cX.gH (T:=aL) (G:=G) (X:=X) (i+n/32) N N y (by omega) (by omega) k
  have K:=cX.put (out.set (i+n/32) (out.getD (i+n/32) 0+x*2^(n%32)%4294967296));have ad:=fun y (k:bd)=>K.gH (T:=aL) (G:=G) (X:=X) (i+n/32+1) N N y (by simp;omega) (by omega) k
  have af:x*2^(n%32)/4294967296%4294967296=x*2^(n%32)/4294967296:=hA (by omega);have ah:=K.put ((out.set (i+n/32) (out.getD (i+n/32) 0+x*2^(n%32)%4294967296)).set (i+n/32+1) (x*2^(n%32)/4294967296))
  have:=O (i+1) _ _ (by omega) ((f4.put _ _).put _ _) ah (by simp [bN]) e.1 e.2.2.1 e.2.2.2;refine Exists.imp (fun v av=>Exists.imp (fun q bV=>⟨?_,bV.2⟩) av) this;rw[tJ];simp -implicitDefEqProofs only[↓cI,↓cN,↓b0,↓bo,↓aF,↓aC,↓ax,↓aG,↓aO,↓aQ,↓ay,↓aH,↓aB,↓aW,↓a1,↓bg,↓dP,↓aI,↓bw,↓b5,↓c6,↓cd,↓cf,↓b6,↓cg,↓ch,↓ci,↓cj,↓ck,↓cl,↓bB,↓bC,↓bD,↓c7,↓c8,↓c9,↓da,↓db,↓dc,↓dd,↓de,↓df,↓cm,↓cn,↓co,↓bJ,↓cL,↓be,↓c0,↓bZ,↓cJ,↓cT,↓dg,↓a2,↓aR,↓a3,↓aN,↓aJ,↓a4,↓cQ,↓b1,↓b7,↓cp,↓cq,↓cr,↓ct,↓cv,↓cw,↓cx,↓cy,↓dA,↓dB,↓dj,↓dM,↓cE,↓cF,↓cM,↓dn,b9,dT,b8,decide_eq_false_iff_not,ite_not,↓reduceIte,ba,az,bb,bE,bf,bP,cB,Nat.reduceAdd,bz,↓bk,Nat.reduceLeDiff,aD,cY,c3,dJ,dF,b4,eq_true h];rw[CX,wX,Z,pY,s1,es,I,J,hj,dn,gU];simp -implicitDefEqProofs only[az];rw[ac,I,J,aa,cF,dn,af];simp -implicitDefEqProofs only[az];rw[ad,CW,ab];exact bV.1
theorem DH(s:ag)(e:ae)(l:List Nat)(n:Nat)(h:l3 s e l)(u:dO l)(dm:n<4294967296)(gZ:l.length<4294967296):
  ∃v q,aA aL G X 137 [e,.int .i64 (n:Int)] s=.ok v s∧jK v q∧dO q∧fb q∧val q=val l*2^n:=by
 rw[GF,Rk];have r:=fun(S:ag) (k:bd)=>h.len (T:=aL) (G:=G) (X:=X) k S
 have y:=fun(S:ag) (k:bd)=>sY (T:=aL) (G:=G) (X:=X) (s:=S) (k:=k) n (by omega)
 have A:=fun(S:ag) (k:bd)=>iw (T:=aL) (G:=G) (X:=X) (s:=S) (k:=k) l.length (n/32) (by omega)
 have B:=fun S k=>ny G X S k (l.length+n/32) (by omega)
 have F:=fun(S:ag) (k:bd)=>pS (T:=aL) (G:=G) (X:=X) (s:=S) (k:=k) (U 0) 4 (l.length+n/32+1) (l.length+n/32+1) (aD _) (by omega)
 have H:∀m i,(List.replicate m 0).getD i 0=0:=fun m i=>by simp -implicitDefEqProofs only[List.getD,List.getElem?_replicate];split<;> rfl
 have I:=DG G X s e l n h u dm gZ s.ai.own.length _ rfl l.length 0 _ _ (by omega) ((Child.ai s).new (.cells (List.replicate (l.length+n/32+1) (U 0)))) (gW.make _ _) (by simp) (pG _) (by rw[List.take_replicate,DA];simp [val]) (by rw[H];exact Nat.two_pow_pos _);refine Exists.imp (fun v av=>Exists.imp (fun q bV=>⟨?_,bV.2⟩) av) I;rw[r,y,A,B];refine(F _ _).trans ?_;rw[r];exact bV.1
end Go.gl
end
section
namespace Go.hC
def k5(a b:Nat):Nat:=(((a:Int)-(b:Int))%18446744073709551616).toNat
theorem yS(u p c:Nat)(hu:u<4294967296)(fz:p<4294967296)(aY:c≤4294967296)(e:p+c≤4294967296):k5 (k5 u p) c%4294967296+p+c=u+4294967296*(k5 (k5 u p) c/9223372036854775808)∧k5 (k5 u p) c/9223372036854775808≤1:=by unfold k5;omega
theorem wY(l:List Nat)(j i:Nat):(l.drop j).getD i 0=l.getD (j+i) 0:=by simp [List.getD,List.getElem?_drop]
def e5(l:List Nat)(j i:Nat):Nat:=val ((l.drop j).take i)
theorem yT(l:List Nat)(j:Nat):e5 l j 0=0:=by simp [e5,val]
theorem f9(l:List Nat)(j i:Nat)(h:j+i<l.length):e5 l j (i+1)=e5 l j i+B^i*l.getD (j+i) 0:=by unfold e5;rw[val_succ _ i (by simp;omega),wY]
theorem sl(l:List Nat)(j i k x:Nat)(h:j+i≤k):e5 (l.set k x) j i=e5 l j i:=by
 unfold e5;rw[List.drop_set];split
 ·rfl
 ·rw[l6 (by omega)]
theorem Az(vs:List Nat)(i:Nat):e5 vs 0 i=val (vs.take i):=by simp [e5]
theorem sm(l:List Nat)(j n:Nat)(h:j+n≤l.length):val (l.drop j)=e5 l j n+B^n*val (l.drop (j+n)):=by have:=k4 (l.drop j) n (by simp;omega);rw[this,List.drop_drop];rfl
theorem sn(l:List Nat)(j i:Nat)(h:dO l):e5 l j i<B^i:=by
 have:=hV ((l.drop j).take i) ((h.drop j).take i);have av:((l.drop j).take i).length≤i:=by simp;omega
 exact gd this (oB av)
theorem GW(dp gJ vs:List Nat)(j i q carry e:Nat)(fE:q<B)(bL:i<vs.length)(cX:j+i<dp.length)(lE:dO vs)(A:dO dp)(aY:carry<B)(J:e≤1)(H:dp.getD (j+i) 0=gJ.getD (j+i) 0)(bN:dp.length=gJ.length)
  (bM:e5 dp j i+q*e5 vs 0 i=e5 gJ j i+(carry+e)*B^i):
  let p:=q*vs.getD i 0+carry
  let t:=k5 (k5 (dp.getD (j+i) 0) (p%B)) e
  p<18446744073709551616∧p/B<B∧t/9223372036854775808≤1∧t%B<B∧dO (dp.set (j+i) (t%B))∧e5 (dp.set (j+i) (t%B)) j (i+1)+q*e5 vs 0 (i+1)=e5 gJ j (i+1)+(p/B+t/9223372036854775808)*B^(i+1):=by
 have K:=lE.getD i;have fz:q*vs.getD i 0+carry<B*B:=by
  have ar:q*vs.getD i 0≤(B-1)*(B-1):=Nat.mul_le_mul (by omega) (by omega);have av:(B-1)*(B-1)+B≤B*B:=by decide
  omega
 have M:B*B=18446744073709551616:=by decide
 have cP:=yS (dp.getD (j+i) 0) ((q*vs.getD i 0+carry)%B) e (A.getD _) (Nat.mod_lt _ hd) (by have:=kO;omega) (by have:=Nat.mod_lt (q*vs.getD i 0+carry) hd;rw[kO] at this ⊢;omega);have F:k5 (k5 (dp.getD (j+i) 0) ((q*vs.getD i 0+carry)%B)) e%B<B:=Nat.mod_lt _ hd;refine⟨by omega,by rw[Nat.div_lt_iff_lt_mul hd];exact fz,cP.2,F,A.set _ _ F,?_⟩;rw[f9 _ _ _ (by simpa using cX),sl _ _ _ _ _ (aD _),fT cX,f9 vs 0 i (by omega),f9 gJ j i (by omega),bf,←H];have hm:=Nat.mod_add_div (q*vs.getD i 0+carry) B;rw[←kO] at cP;generalize k5 (k5 (dp.getD (j+i) 0) ((q*vs.getD i 0+carry)%B)) e=t at *;generalize t/9223372036854775808=h at *;generalize t%B=y at *;generalize N:(q*vs.getD i 0+carry)%B=pl at *;generalize (q*vs.getD i 0+carry)/B=r at *;generalize dp.getD (j+i) 0=u at *;have key:y+q*vs.getD i 0+carry+e=u+(r+h)*B:=by rw[e9,ez r B,ez h B];omega
 have qb:B^i*(y+q*vs.getD i 0+carry+e)=B^i*(u+(r+h)*B):=by rw[key]
 have dH:B^i*(y+q*vs.getD i 0+carry+e)=B^i*y+q*(B^i*vs.getD i 0)+(carry+e)*B^i:=by rw[show y+q*vs.getD i 0+carry+e=y+(q*vs.getD i 0+(carry+e)) from by omega,fG,fG,Nat.mul_left_comm,ez (B^i) (carry+e)];omega
 have I:B^i*(u+(r+h)*B)=B^i*u+(r+h)*B^(i+1):=by rw[fG,Nat.pow_succ,Nat.mul_left_comm]
 rw[dH,I] at qb;rw[fG];generalize (r+h)*B^(i+1)=O at *;generalize (carry+e)*B^i=U at *;generalize q*(B^i*vs.getD i 0)=V at *;generalize q*e5 vs 0 i=Y at *;omega
theorem GX(dp gJ vs:List Nat)(j i carry:Nat)(bL:i<vs.length)(cX:j+i<dp.length)(lE:dO vs)(h:dO dp)(aY:carry≤1)(r:dp.getD (j+i) 0=gJ.getD (j+i) 0)(bN:dp.length=gJ.length)
  (bM:e5 dp j i+carry*B^i=e5 gJ j i+e5 vs 0 i):
  let t:=dp.getD (j+i) 0+vs.getD i 0+carry
  t<18446744073709551616∧t/B≤1∧dO (dp.set (j+i) (t%B))∧e5 (dp.set (j+i) (t%B)) j (i+1)+t/B*B^(i+1)=e5 gJ j (i+1)+e5 vs 0 (i+1):=by
 have H:=lE.getD i;have I:=h.getD (j+i);have J:=kO;have A:(dp.getD (j+i) 0+vs.getD i 0+carry)%B<B:=Nat.mod_lt _ hd;refine⟨by omega,?_,h.set _ _ A,?_⟩
 ·have:(dp.getD (j+i) 0+vs.getD i 0+carry)/B<2:=by rw[Nat.div_lt_iff_lt_mul hd];omega
  omega
 rw[f9 _ _ _ (by simpa using cX),sl _ _ _ _ _ (aD _),fT cX,f9 vs 0 i (by omega),f9 gJ j i (by omega),bf,←r];have hm:=Nat.mod_add_div (dp.getD (j+i) 0+vs.getD i 0+carry) B;generalize (dp.getD (j+i) 0+vs.getD i 0+carry)%B=y at *;generalize (dp.getD (j+i) 0+vs.getD i 0+carry)/B=e at *;generalize dp.getD (j+i) 0=u at *;generalize vs.getD i 0=v at *;have qb:B^i*(y+B*e)=B^i*(u+v+carry):=by rw[hm]
 have dH:B^i*(y+B*e)=B^i*y+e*B^(i+1):=by rw[fG,Nat.pow_succ,ez e,gM]
 have F:B^i*(u+v+carry)=B^i*u+B^i*v+carry*B^i:=by rw[fG,fG,ez carry]
 rw[dH,F] at qb;generalize e*B^(i+1)=K at *;generalize carry*B^i=M at *;omega
theorem DI(U V q n I h r u y v1 v2:Nat)(Y:U=(r*B*B+u*B+y)*B^n+I)(A:V=(v1*B+v2)*B^n+h)(Z:I<B^n)(J:h<B^n)(aa:B≤2*v1)(fE:q<B)(ar:q*(v1*B+v2)≤r*B*B+u*B+y)(av:∀qx,qx<B→qx*(v1*B+v2)≤r*B*B+u*B+y→qx≤q)(K:U<B*V):
  U/V≤q∧q≤U/V+1:=by
 have F:0<V:=by
  have:1≤v1:=by have:=hd;omega
  have bV:1*B≤v1*B:=fZ _ this;have dD:1*B^n≤(v1*B+v2)*B^n:=fZ _ (by have:=hd;omega)
  have:=Nat.pow_pos (n:=n) hd;omega
 constructor
 ·refine av _ (by rw[Nat.div_lt_iff_lt_mul F];exact K) ?_;have bV:U/V*V≤U:=Nat.div_mul_le_self U V;have dD:U/V*(v1*B+v2)*B^n≤U/V*V:=by
   rw[gM];exact Nat.mul_le_mul_left _ (by omega)
  have H:U/V*(v1*B+v2)*B^n<(r*B*B+u*B+y+1)*B^n:=by rw[e9 _ 1,Nat.one_mul];omega
  have:=Nat.lt_of_mul_lt_mul_right H;omega
 ·have bV:q*V≤U+V:=by
   rw[A,fG,←gM];have dD:q*(v1*B+v2)*B^n≤(r*B*B+u*B+y)*B^n:=fZ _ ar;have H:q*h≤B*B^n:=Nat.mul_le_mul (Nat.le_of_lt fE) (Nat.le_of_lt J);have M:B*B^n≤(v1*B+v2)*B^n:=by
    refine fZ _ ?_
    have:1*B≤v1*B:=fZ _ (by have:=hd;omega);omega
   omega
  have ab:q*V≤(U/V+1)*V+V:=by have:=Nat.div_add_mod U V;have N:=Nat.mod_lt U F;rw[e9,Nat.one_mul,ez (U/V)];omega
  have O:q*V<(U/V+2)*V:=by
   rw[A,fG,←gM];have dD:q*(v1*B+v2)*B^n≤(r*B*B+u*B+y)*B^n:=fZ _ ar;have H:q*h≤B*h:=fZ _ (Nat.le_of_lt fE);have ac:B*h<B*B^n:=Nat.mul_lt_mul_of_pos_left J hd;have M:B*B^n≤(v1*B+v2)*B^n:=by
    refine fZ _ ?_
    have:1*B≤v1*B:=fZ _ (by have:=hd;omega);omega
   have ad:q*(v1*B+v2)*B^n+q*h<U+V:=by omega
   have ae:=Nat.div_add_mod U V;have N:=Nat.mod_lt U F;rw[←A];have e:(U/V+2)*V=V*(U/V)+V+V:=by rw[e9,ez (U/V)];omega
   rw[e];omega
  have:=Nat.lt_of_mul_lt_mul_right O;omega
end Go.hC
namespace Go.hC
theorem L1(n w x R:Nat)(h:w+B^n*x=B^(n+1)+R)(hw:w<B^n)(e:R<B^n):x=B∧w=R:=by
 rw[Nat.pow_succ] at h;have a5:x=B:=by
  have ar:(w+B^n*x)/B^n=x:=by rw[Nat.add_mul_div_left _ _ (Nat.pow_pos hd),Nat.div_eq_of_lt hw,bf]
  have av:(B^n*B+R)/B^n=B:=by rw[Nat.add_comm,Nat.add_mul_div_left _ _ (Nat.pow_pos hd),Nat.div_eq_of_lt e,bf]
  rw[←ar,h,av]
 subst a5;exact⟨rfl,by omega⟩
theorem so(vs:List Nat):val vs=e5 vs 0 vs.length:=by rw[Az,List.take_length]
theorem DJ(x y r:Nat)(aU:r<32)(a5:x<B):x%2^r+(x+B*y)/2^r%B*2^r=x+B*(y%2^r):=by
 have h:=Nat.two_pow_pos r;have e:B=2^r*2^(32-r):=by rw[←Nat.pow_add,tW];congr 1;omega
 generalize H:(2:Nat)^(32-r)=Q at *;generalize (2:Nat)^r=P at *;have dH:(x+B*y)/P=x/P+Q*y:=by rw[e,gM,Nat.add_mul_div_left _ _ h]
 have I:x/P<Q:=by rw[Nat.div_lt_iff_lt_mul h,ez,←e];exact a5
 have u:Q*y=B*(y/P)+Q*(y%P):=by
  conv=>lhs;rw[←Nat.div_add_mod y P]
  rw[fG,e,←gM,ez Q P]
 have A:x/P+Q*(y%P)<B:=by have ar:y%P+1≤P:=Nat.mod_lt _ h;have av:=Nat.mul_le_mul_left Q ar;rw[fG,Nat.mul_one,ez Q P,←e] at av;omega
 have F:(x+B*y)/P%B=x/P+Q*(y%P):=by rw[dH,u,show x/P+(B*(y/P)+Q*(y%P))=x/P+Q*(y%P)+B*(y/P) by omega,Nat.add_mul_mod_self_left,hA A]
 rw[F,e9,e];have dD:=Nat.mod_add_div x P;have J:Q*(y%P)*P=P*Q*(y%P):=by rw[ez,←gM]
 have K:x/P*P=P*(x/P):=ez _ _;omega
theorem DK(l out:List Nat)(w i r:Nat)(aU:r<32)(e:dO l)(h:dO out)(bL:i<out.length)(bN:w+i<l.length)(bM:val (out.take i)*2^r+l.getD w 0%2^r=val ((l.drop w).take i)+B^i*(l.getD (w+i) 0%2^r)):
  dO (out.set i ((l.getD (w+i) 0+B*l.getD (w+i+1) 0)/2^r%B))∧val ((out.set i ((l.getD (w+i) 0+B*l.getD (w+i+1) 0)/2^r%B)).take (i+1))*2^r+l.getD w 0%2^r=val ((l.drop w).take (i+1))+B^(i+1)*(l.getD (w+(i+1)) 0%2^r):=by
 refine⟨h.set _ _ (Nat.mod_lt _ hd),?_⟩;have ar:=DJ (l.getD (w+i) 0) (l.getD (w+i+1) 0) r aU (e.getD _);generalize eM:(l.getD (w+i) 0+B*l.getD (w+i+1) 0)/2^r%B=y at *;have s1:=val_succ (out.set i y) i (by simpa using bL);have s2:=val_succ (l.drop w) i (by simp;omega);have hj:(out.set i y).getD i 0=y:=fT bL;rw[wY] at s2;rw[s1,s2,hj,l6 (aD _),e9,Nat.pow_succ,←Nat.add_assoc w i 1];have av:B^i*(l.getD (w+i) 0%2^r+y*2^r)=B^i*(l.getD (w+i) 0+B*(l.getD (w+i+1) 0%2^r)):=by rw[ar]
 rw[fG,fG,←gM,←gM] at av;omega
theorem yU(l:List Nat)(w:Nat)(e:dO l)(h:w≤l.length):val l/B^w=val (l.drop w):=by
 have ar:=k4 l w h;have bV:=hV (l.take w) (e.take _);have dD:(l.take w).length=w:=by simp;omega
 rw[dD] at bV;rw[ar,Nat.add_mul_div_left _ _ (Nat.pow_pos hd),Nat.div_eq_of_lt bV,bf]
theorem GY(l out:List Nat)(w r n:Nat)(dm:n=32*w+r)(e:dO l)(hw:w<l.length)(bM:val out*2^r+l.getD w 0%2^r=val (l.drop w)):val out=val l/2^n:=by rw[dm,←GU,←Nat.div_div_eq_div_mul,yU l w e (by omega),←bM,ez,Nat.mul_add_div (Nat.two_pow_pos _),Nat.div_eq_of_lt (Nat.mod_lt _ (Nat.two_pow_pos _)),Nat.add_zero]
theorem DL(l:List Nat)(n:Nat)(e:dO l)(h:l.length≤n/32):val l/2^n=0:=by
 apply Nat.div_eq_of_lt;have ar:=hV l e;have av:B^l.length≤B^(n/32):=oB h;have bV:(2:Nat)^n=B^(n/32)*2^(n%32):=by rw[GU,Nat.div_add_mod]
 have dD:B^(n/32)*1≤B^(n/32)*2^(n%32):=Nat.mul_le_mul_left _ (Nat.two_pow_pos _);omega
end Go.hC
end
section
namespace Go.gl
open Go.Ab Go.hC
variable(G:Nat→ae)(X:Nat→List ae→ag→ah)
theorem RF{s:ag}{k:bd}(c q:Nat)(aY:c<4294967296)(fE:q<4294967296):(aV aL G X).aj s k (al .or (.int .u64 (c:Int)) (.int .u64 ((q*4294967296:Nat):Int)))=k (.int .u64 ((c+4294967296*q:Nat):Int)) s:=by
 have e:al .or (.int .u64 (c:Int)) (.int .u64 ((q*4294967296:Nat):Int))=some (.int .u64 (IntKind.wrap .u64 ((BitVec.ofInt 64 (c:Int) ||| BitVec.ofInt 64 ((q*4294967296:Nat):Int)).toNat:Int))):=by simp -implicitDefEqProofs only[al,gr,↓reduceIte];rfl
 rw[e,EL _ _ (by omega) (by omega),cN,iO];congr 2
 have:c ||| q*4294967296=c+4294967296*q:=by have h:=Nat.two_pow_add_eq_or_of_lt (i:=32) (b:=c) (by omega) q;rw[Nat.or_comm,ez];rw[show(4294967296:Nat)=2^32 from rfl,←h,Nat.add_comm]
 rw[this];omega
theorem GZ(ev:IntKind)(a b:Int):∃c,∀(s:ag) (k:bd),(aV aL G X).aj s k (al .and (.int ev a) (.int ev b))=k (.int ev c) s:=by refine⟨ev.wrap (BitVec.ofInt ev.bits a &&& BitVec.ofInt ev.bits b).toNat,fun s k=>?_⟩;rw[show al .and (.int ev a) (.int ev b)=some (.int ev (ev.wrap (BitVec.ofInt ev.bits a &&& BitVec.ofInt ev.bits b).toNat)) from by simp [al,gr]];rfl
theorem DM(s:ag)(u:ae)(l:List Nat)(n:Nat)(lost:Bool)(A:l3 s u l)(e:dO l)(dm:n<4294967296)(gZ:l.length<4294967296)(a7:n/32<l.length)(j N:Nat)(qk:N=l.length-n/32):∀m i out S,i+m=N→Child s S→gW S j out→out.length=N→dO out→
  val (out.take i)*2^(n%32)+l.getD (n/32) 0%2^(n%32)=val ((l.drop (n/32)).take i)+B^i*(l.getD (n/32+i) 0%2^(n%32))→
  ∃v q,pA (aV aL G X) u (.int .i64 (n:Int)) (.int .i64 ((n/32:Nat):Int)) (.bool lost) (.cO (.l j) 0 N N 1) (.int .i64 (N:Int)) (.int .i64 (i:Int)) S=.ok (.d0 [v,.bool lost]) s∧jK v q∧dO q∧fb q∧val q=val l/2^n:=by
 intro m
 induction m with
 |zero=>
  intro i out S bL f4 cX bN F bM;have h:¬((i:Int)<(N:Int)):=by omega
  rw[tN];simp -implicitDefEqProofs only[↓cI,↓cN,↓b0,↓bo,↓aF,↓aC,↓ax,↓aG,↓aO,↓aQ,↓ay,↓aH,↓aB,↓aW,↓a1,↓bg,↓dP,↓aI,↓bw,↓b5,↓c6,↓cd,↓cf,↓b6,↓cg,↓ch,↓ci,↓cj,↓ck,↓cl,↓bB,↓bC,↓bD,↓c7,↓c8,↓c9,↓da,↓db,↓dc,↓dd,↓de,↓df,↓cm,↓cn,↓co,↓bJ,↓cL,↓be,↓c0,↓bZ,↓cJ,↓cT,↓dg,↓a2,↓aR,↓a3,↓aN,↓aJ,↓a4,↓cQ,↓b1,↓b7,↓cp,↓cq,↓cr,↓ct,↓cv,↓cw,↓cx,↓cy,↓dA,↓dB,↓dj,↓dM,↓cE,↓cF,↓cM,↓dn,b9,dT,b8,decide_eq_false_iff_not,ite_not,↓reduceIte,ba,az,bb,bE,bf,bP,cB,Nat.reduceAdd,bz,↓bk,Nat.reduceLeDiff,aD,cY,c3,dJ,dF,b4,eq_false h,Db,ix];obtain⟨v,f1,f2⟩:=wW G X f4 cX N bN.symm (by omega) (.bool lost) rfl;refine⟨v,gh out,f2,f1,lx F,jq out,?_⟩;rw[kk];have ma:l.getD (n/32+i) 0=0:=by simp -implicitDefEqProofs only[List.getD];rw[List.getElem?_eq_none (by omega)];rfl
  rw[ma,Nat.zero_mod,Nat.mul_zero,Nat.add_zero,i6 (by omega),i6 (by simp;omega)] at bM;exact GY l out (n/32) (n%32) n (Nat.div_add_mod n 32).symm e a7 bM
 |succ m K=>
  intro i out S bL f4 cX bN F bM;have h:(i:Int)<(N:Int):=by omega
  have aU:n%32<32:=Nat.mod_lt _ (by omega);have J:=DK l out (n/32) i (n%32) aU e F (by omega) (by omega) bM;have a5:=e.getD (n/32+i);have eM:=e.getD (n/32+i+1);have M:B=4294967296:=rfl;rw[M] at a5 eM;have wX:=fun(k:bd)=>(A.oV f4.oV).get (T:=aL) (G:=G) (X:=X) .i64 (n/32+i) (by omega) k
  have O:=fun(S:ag) (k:bd)=>hS (T:=aL) (G:=G) (X:=X) (s:=S) (k:=k) (l.getD (n/32+i) 0) a5
  have U:=fun(S:ag) (k:bd)=>hS (T:=aL) (G:=G) (X:=X) (s:=S) (k:=k) (l.getD (n/32+i+1) 0) eM
  have pY:=fun(S:ag) (k:bd)=>sZ (T:=aL) (G:=G) (X:=X) (s:=S) (k:=k) n
  have V:=fun(S:ag) (k:bd)=>A.len (T:=aL) (G:=G) (X:=X) k S
  have r:=fun(S:ag) (k:bd)=>iw (T:=aL) (G:=G) (X:=X) (s:=S) (k:=k) i (n/32) (by omega)
  have H:=fun S k=>ny G X S k (i+n/32) (by omega)
  have Y:=fun S k=>ny G X S k i (by omega)
  have Z:i+n/32=n/32+i:=Nat.add_comm _ _;simp -implicitDefEqProofs only[Z] at r H;have aa:=fun y (k:bd)=>cX.gH (T:=aL) (G:=G) (X:=X) i N N y (by omega) (by omega) k
  have s1:=fun t (S:ag) (k:bd)=>zP (T:=aL) (G:=G) (X:=X) (s:=S) (k:=k) .i64 t (n%32) (by omega)
  have this:=K (i+1) _ _ (by omega) (f4.put _ _) (cX.put (out.set i ((l.getD (n/32+i) 0+B*l.getD (n/32+i+1) 0)/2^(n%32)%B))) (by simp [bN]) J.1 J.2;refine Exists.imp (fun v av=>Exists.imp (fun q bV=>⟨?_,bV.2⟩) av) this;have I:r5 (aV aL G X) u (.int .i64 (n:Int)) (.int .i64 ((n/32:Nat):Int)) (.bool lost) (.cO (.l j) 0 N N 1) (.int .i64 (i:Int)) (.int .u64 ((l.getD (n/32+i) 0+4294967296*l.getD (n/32+i+1) 0:Nat):Int)) (.int .i64 (N:Int)) (.int .i64 (i:Int)) S=.ok (.d0 [v,.bool lost]) s:=by rw[C9,pY,s1,dn];simp -implicitDefEqProofs only[az];rw[aa,C8,Y];exact bV.1
  rw[tN];simp -implicitDefEqProofs only[↓cI,↓cN,↓b0,↓bo,↓aF,↓aC,↓ax,↓aG,↓aO,↓aQ,↓ay,↓aH,↓aB,↓aW,↓a1,↓bg,↓dP,↓aI,↓bw,↓b5,↓c6,↓cd,↓cf,↓b6,↓cg,↓ch,↓ci,↓cj,↓ck,↓cl,↓bB,↓bC,↓bD,↓c7,↓c8,↓c9,↓da,↓db,↓dc,↓dd,↓de,↓df,↓cm,↓cn,↓co,↓bJ,↓cL,↓be,↓c0,↓bZ,↓cJ,↓cT,↓dg,↓a2,↓aR,↓a3,↓aN,↓aJ,↓a4,↓cQ,↓b1,↓b7,↓cp,↓cq,↓cr,↓ct,↓cv,↓cw,↓cx,↓cy,↓dA,↓dB,↓dj,↓dM,↓cE,↓cF,↓cM,↓dn,b9,dT,b8,decide_eq_false_iff_not,ite_not,↓reduceIte,ba,az,bb,bE,bf,bP,cB,Nat.reduceAdd,bz,↓bk,Nat.reduceLeDiff,aD,cY,c3,dJ,dF,b4,eq_true h];rw[Da,r,wX,O,r,H,V,be,bo];by_cases ab:n/32+i+1<l.length
  ·have ac:=fun(k:bd)=>(A.oV f4.oV).get (T:=aL) (G:=G) (X:=X) .i64 (n/32+i+1) ab k
   have gU:=fun(S:ag) (k:bd)=>RF G X (s:=S) (k:=k) (l.getD (n/32+i) 0) (l.getD (n/32+i+1) 0) a5 eM
   have es:l.getD (n/32+i+1) 0*4294967296%18446744073709551616=l.getD (n/32+i+1) 0*4294967296:=hA (by omega);rw[if_pos (by simp -implicitDefEqProofs only[b8];omega),r,H,ac,U,cE,es,gU];exact I
  ·rw[if_neg (by simp -implicitDefEqProofs only[b8];omega)];have ma:l.getD (n/32+i+1) 0=0:=by simp -implicitDefEqProofs only[List.getD];rw[List.getElem?_eq_none (by omega)];rfl
   rw[ma,Nat.mul_zero,Nat.add_zero] at I;exact I
theorem RG(s:ag)(e:ae)(l:List Nat)(n:Nat)(r:l3 s e l)(A:dO l)(dm:n<4294967296)(gZ:l.length<4294967296):
  ∃v q lost,aA aL G X 140 [e,.int .i64 (n:Int)] s=.ok (.d0 [v,.bool lost]) s∧jK v q∧dO q∧fb q∧val q=val l/2^n:=by
 rw[GI,Rn];have u:=fun(S:ag) (k:bd)=>r.len (T:=aL) (G:=G) (X:=X) k S
 have B:=fun(S:ag) (k:bd)=>sY (T:=aL) (G:=G) (X:=X) (s:=S) (k:=k) n (by omega)
 by_cases a7:n/32<l.length
 ·have h:¬((l.length:Int)≤((n/32:Nat):Int)):=by omega
  rw[B,u,cJ,bo,if_neg (by simpa using h)];have hY:=Child.ai s;have y:=r.cut (n/32) (by omega);have hlen:(l.take (n/32)).length=n/32:=by simp;omega
  have I:=mL G X s.ai (pu e (n/32)) (l.take (n/32)) (y.oV hY.oV) (by rw[hlen];omega);have J:=y.cut (hf (l.take (n/32)) (l.take (n/32)).length) (jC _ _);have K:=fun(S:ag) (k:bd)=>J.len (T:=aL) (G:=G) (X:=X) k S
  have M:=fun(S:ag) (k:bd)=>lh (T:=aL) (G:=G) (X:=X) (s:=S) (k:=k) l.length (n/32) (by omega) (by omega)
  have N:=fun(S:ag) (k:bd)=>pS (T:=aL) (G:=G) (X:=X) (s:=S) (k:=k) (U 0) 4 (l.length-n/32) (l.length-n/32) (aD _) (by omega)
  have fin:∀lost,∃v q,(aV aL G X).cW s.ai (fun O s=>(aV aL G X).aj s (fun F s=>(aV aL G X).lg s (fun H s=>(aV aL G X).cW s (fun V s=>pA (aV aL G X) e (.int .i64 (n:Int)) (.int .i64 ((n/32:Nat):Int)) (.bool lost) H V (.int .i64 0) s) false H) [.int .u32 0] 4 F F) (al .sub O (.int .i64 ((n/32:Nat):Int)))) false e=.ok (.d0 [v,.bool lost]) s∧jK v q∧dO q∧fb q∧val q=val l/2^n:=fun lost=>by have Y:=DM G X s e l n lost r A dm gZ a7 s.ai.own.length _ rfl (l.length-n/32) 0 _ _ (by omega) (hY.new (.cells (List.replicate (l.length-n/32) (U 0)))) (gW.make _ _) (by simp) (pG _) (by simp [val]);refine Exists.imp (fun v av=>Exists.imp (fun q bV=>⟨?_,bV.2⟩) av) Y;rw[u,M];refine(N _ _).trans ?_;rw[aW];exact bV.1
  have wX:=fun(k:bd)=>(r.oV hY.oV).get (T:=aL) (G:=G) (X:=X) .i64 (n/32) a7 k
  have pY:=fun(S:ag) (k:bd)=>sZ (T:=aL) (G:=G) (X:=X) (s:=S) (k:=k) n
  have s1:∀(S:ag) (k:bd),(aV aL G X).aj S k (al .shl (.int .u32 1) (.int .i64 ((n%32:Nat):Int)))=k (.int .u32 ((1*2^(n%32)%4294967296:Nat):Int)) S:=fun S k=>EK .i64 1 (n%32) (by omega)
  obtain⟨c,aY⟩:=GZ G X .u32 ((l.getD (n/32) 0:Nat):Int) (IntKind.wrap .u32 (((1*2^(n%32)%4294967296:Nat):Int)-1));have bW:=fun(k:bd) (S:ag)=>r.slice (T:=aL) (G:=G) (X:=X) (n/32) (by omega) k S
  rw[Dc,bW,(y.ap _),a8 I,K,bZ];by_cases eS:(0:Int)<(((l.take (n/32)).take (hf (l.take (n/32)) (l.take (n/32)).length)).length:Int)
  ·obtain⟨v,q,ar,av⟩:=fin true;refine⟨v,q,true,?_,av⟩;simp -implicitDefEqProofs only[↓cI,↓cN,↓b0,↓bo,↓aF,↓aC,↓ax,↓aG,↓aO,↓aQ,↓ay,↓aH,↓aB,↓aW,↓a1,↓bg,↓dP,↓aI,↓bw,↓b5,↓c6,↓cd,↓cf,↓b6,↓cg,↓ch,↓ci,↓cj,↓ck,↓cl,↓bB,↓bC,↓bD,↓c7,↓c8,↓c9,↓da,↓db,↓dc,↓dd,↓de,↓df,↓cm,↓cn,↓co,↓bJ,↓cL,↓be,↓c0,↓bZ,↓cJ,↓cT,↓dg,↓a2,↓aR,↓a3,↓aN,↓aJ,↓a4,↓cQ,↓b1,↓b7,↓cp,↓cq,↓cr,↓ct,↓cv,↓cw,↓cx,↓cy,↓dA,↓dB,↓dj,↓dM,↓cE,↓cF,↓cM,↓dn,b9,dT,b8,decide_eq_false_iff_not,ite_not,↓reduceIte,ba,az,bb,bE,bf,bP,cB,Nat.reduceAdd,bz,↓bk,Nat.reduceLeDiff,aD,cY,c3,dJ,dF,b4,eq_true eS];simpa only[↓cI,↓cN,↓b0,↓bo,↓aF,↓aC,↓ax,↓aG,↓aO,↓aQ,↓ay,↓aH,↓aB,↓aW,↓a1,↓bg,↓dP,↓aI,↓bw,↓b5,↓c6,↓cd,↓cf,↓b6,↓cg,↓ch,↓ci,↓cj,↓ck,↓cl,↓bB,↓bC,↓bD,↓c7,↓c8,↓c9,↓da,↓db,↓dc,↓dd,↓de,↓df,↓cm,↓cn,↓co,↓bJ,↓cL,↓be,↓c0,↓bZ,↓cJ,↓cT,↓dg,↓a2,↓aR,↓a3,↓aN,↓aJ,↓a4,↓cQ,↓b1,↓b7,↓cp,↓cq,↓cr,↓ct,↓cv,↓cw,↓cx,↓cy,↓dA,↓dB,↓dj,↓dM,↓cE,↓cF,↓cM,↓dn,b9,dT,b8,decide_eq_false_iff_not,ite_not,↓reduceIte,ba,az,bb,bE,bf,bP,cB,Nat.reduceAdd,bz,↓bk,Nat.reduceLeDiff,aD,cY,c3,dJ,dF,b4] using ar
  ·obtain⟨v,q,ar,av⟩:=fin (decide (¬c=0));refine⟨v,q,decide (¬c=0),?_,av⟩;simp -implicitDefEqProofs only[↓cI,↓cN,↓b0,↓bo,↓aF,↓aC,↓ax,↓aG,↓aO,↓aQ,↓ay,↓aH,↓aB,↓aW,↓a1,↓bg,↓dP,↓aI,↓bw,↓b5,↓c6,↓cd,↓cf,↓b6,↓cg,↓ch,↓ci,↓cj,↓ck,↓cl,↓bB,↓bC,↓bD,↓c7,↓c8,↓c9,↓da,↓db,↓dc,↓dd,↓de,↓df,↓cm,↓cn,↓co,↓bJ,↓cL,↓be,↓c0,↓bZ,↓cJ,↓cT,↓dg,↓a2,↓aR,↓a3,↓aN,↓aJ,↓a4,↓cQ,↓b1,↓b7,↓cp,↓cq,↓cr,↓ct,↓cv,↓cw,↓cx,↓cy,↓dA,↓dB,↓dj,↓dM,↓cE,↓cF,↓cM,↓dn,b9,dT,b8,decide_eq_false_iff_not,ite_not,↓reduceIte,ba,az,bb,bE,bf,bP,cB,Nat.reduceAdd,bz,↓bk,Nat.reduceLeDiff,aD,cY,c3,dJ,dF,b4,eq_false eS,↓wX,↓pY,↓s1,↓fK,↓aY];simpa only[↓cI,↓cN,↓b0,↓bo,↓aF,↓aC,↓ax,↓aG,↓aO,↓aQ,↓ay,↓aH,↓aB,↓aW,↓a1,↓bg,↓dP,↓aI,↓bw,↓b5,↓c6,↓cd,↓cf,↓b6,↓cg,↓ch,↓ci,↓cj,↓ck,↓cl,↓bB,↓bC,↓bD,↓c7,↓c8,↓c9,↓da,↓db,↓dc,↓dd,↓de,↓df,↓cm,↓cn,↓co,↓bJ,↓cL,↓be,↓c0,↓bZ,↓cJ,↓cT,↓dg,↓a2,↓aR,↓a3,↓aN,↓aJ,↓a4,↓cQ,↓b1,↓b7,↓cp,↓cq,↓cr,↓ct,↓cv,↓cw,↓cx,↓cy,↓dA,↓dB,↓dj,↓dM,↓cE,↓cF,↓cM,↓dn,b9,dT,b8,decide_eq_false_iff_not,ite_not,↓reduceIte,ba,az,bb,bE,bf,bP,cB,Nat.reduceAdd,bz,↓bk,Nat.reduceLeDiff,aD,cY,c3,dJ,dF,b4] using ar
 ·have h:(l.length:Int)≤((n/32:Nat):Int):=by omega
  refine⟨.bW 1 [] .nil,[],decide ((0:Int)<(l.length:Int)),?_,jK.nil,(fun x (h:x∈[])=>absurd h qv:dO []),(fun h=>absurd rfl h:fb []),?_⟩
  ·rw[B,u,cJ,bo,if_pos (by simpa using h),u,bZ];exact kC (.ai s) _ _ _ _ rfl rfl
  ·rw[DL l n A (by omega)];rfl
structure ad2 (q X Y:Nat):Prop where
 lt:q<B
 le:q*Y≤X
 max:∀qx,qx<B→qx*Y≤X→qx≤q
theorem RH(q:Nat)(h:0<q)(av:q<18446744073709551616):rN q 1=q-1:=by unfold rN;omega
theorem DN(s:ag)(I o8:ae)(dp vs:List Nat)(j:Nat)(hu:l3 s I dp)(bM:l3 s o8 vs)(J:dO dp)(lE:dO vs)(dm:2≤vs.length)(cX:j+vs.length<dp.length)(gZ:dp.length<4294967296)
  (ao:B≤2*vs.getD (vs.length-1) 0)(U:dp.getD (j+vs.length) 0≤vs.getD (vs.length-1) 0)(S:ag)(f4:Child s S):∀(m q r:Nat),r+m=B→0<m→
  q*vs.getD (vs.length-1) 0+r=dp.getD (j+vs.length) 0*B+dp.getD (j+vs.length-1) 0→
  (∀qx,qx<B→qx*(vs.getD (vs.length-1) 0*B+vs.getD (vs.length-2) 0)≤dp.getD (j+vs.length) 0*B*B+dp.getD (j+vs.length-1) 0*B+dp.getD (j+vs.length-2) 0→qx≤q)→
  ∃u:Nat,r3 (aV aL G X) I (.int .i64 (j:Int)) o8 (.int .i64 (vs.length:Int)) (.int .u64 (q:Int)) (.int .u64 (r:Int)) S=.ok (.int .u64 (u:Int)) s∧
   ad2 u (dp.getD (j+vs.length) 0*B*B+dp.getD (j+vs.length-1) 0*B+dp.getD (j+vs.length-2) 0) (vs.getD (vs.length-1) 0*B+vs.getD (vs.length-2) 0):=by
 have ap:=kO;have bT:=J.getD (j+vs.length);have aq:=J.getD (j+vs.length-1);have au:=J.getD (j+vs.length-2);have pU:=lE.getD (vs.length-1);have aw:=lE.getD (vs.length-2);obtain⟨ax,V,Y⟩:=(hu.oV f4.oV).ptr (T:=aL) (G:=G) (X:=X) .i64 (j+vs.length-2) (by omega);obtain⟨ay,Z,aa⟩:=(bM.oV f4.oV).ptr (T:=aL) (G:=G) (X:=X) .i64 (vs.length-2) (by omega);have mW:=fun(k:bd)=>(bM.oV f4.oV).get (T:=aL) (G:=G) (X:=X) .i64 (vs.length-1) (by omega) k
 have i1:=fun(S:ag) (k:bd)=>ii (T:=aL) (G:=G) (X:=X) (s:=S) (k:=k) vs.length (by omega) (by have:=hu.len (T:=aL) (G:=G) (X:=X);omega)
 have i2:=fun(S:ag) (k:bd)=>BA (T:=aL) (G:=G) (X:=X) (s:=S) (k:=k) vs.length (by omega) (by omega)
 have i3:=fun(S:ag) (k:bd)=>iw (T:=aL) (G:=G) (X:=X) (s:=S) (k:=k) j vs.length (by omega)
 have i4:=fun(S:ag) (k:bd)=>BA (T:=aL) (G:=G) (X:=X) (s:=S) (k:=k) (j+vs.length) (by omega) (by omega)
 generalize dp.getD (j+vs.length) 0=A at *;generalize dp.getD (j+vs.length-1) 0=H at *;generalize dp.getD (j+vs.length-2) 0=y at *;generalize vs.getD (vs.length-1) 0=v1 at *;generalize vs.getD (vs.length-2) 0=v2 at *;have cu:=fun(S:ag) (k:bd)=>hS (T:=aL) (G:=G) (X:=X) (s:=S) (k:=k) y (by omega)
 have ab:=fun(S:ag) (k:bd)=>hS (T:=aL) (G:=G) (X:=X) (s:=S) (k:=k) v2 (by omega)
 have ac:=fun(S:ag) (k:bd)=>hS (T:=aL) (G:=G) (X:=X) (s:=S) (k:=k) v1 (by omega)
 intro m
 induction m using Nat.strongRecOn with
 |ind m al=>
  intro q r hm lo fE ad;have az:r<B:=by omega
  have kL:A*B*B+H*B+y=q*v1*B+r*B+y:=by rw[←e9,←e9,fE]
  have aA:q≤B+1:=by
   have ar:A*B≤v1*B:=fZ _ U;have av:q*v1<(B+2)*v1:=by rw[e9,ez B v1];omega
   have:=Nat.lt_of_mul_lt_mul_right av;omega
  have down:0<q→(∀qx,qx<B→qx*(v1*B+v2)≤A*B*B+H*B+y→qx≤q-1)→∃u:Nat,v9 (aV aL G X) I (.int .i64 (j:Int)) o8 (.int .i64 (vs.length:Int)) (.int .u64 (q:Int)) (.int .u64 (r:Int)) S=.ok (.int .u64 (u:Int)) s∧ad2 u (A*B*B+H*B+y) (v1*B+v2):=fun eS af=>by
   have ah:(q-1)*v1+(r+v1)=A*B+H:=by
    have:(q-1)*v1+v1=q*v1:=by rw[←Nat.succ_mul];congr 1;omega
    omega
   have ai:(r+v1)%18446744073709551616=r+v1:=hA (by omega);have dH:=RH q eS (by omega);rw[C6];by_cases am:B≤r+v1
   ·have K:(4294967296:Int)≤((r+v1:Nat):Int):=by omega
    refine⟨q-1,?_,?_,?_,af⟩
    ·rw[dj,dH,i1,mW,ac,dA,ai,cJ,bo,if_pos (by simpa using K),tM];exact ir f4 _ _
    ·
     by_cases F:q≤B
     ·omega
     ·exfalso;have M:q=B+1:=by omega
      rw[M,e9,Nat.one_mul] at fE;have ar:A*B≤v1*B:=fZ _ U;rw[ez v1 B] at ar;omega
    ·rw[kL];have F:q-1≤B:=by omega
     have M:(q-1)*v2≤B*B:=Nat.mul_le_mul F (by omega);have aj:B*B≤(r+v1)*B:=fZ _ am;have aB:(q-1)*(v1*B+v2)=(q-1)*v1*B+(q-1)*v2:=by rw[fG,gM]
     have aC:(q-1)*v1*B+(r+v1)*B=q*v1*B+r*B:=by rw[←e9,ah,←fE,e9]
     omega
   ·have K:¬(4294967296:Int)≤((r+v1:Nat):Int):=by omega
    have aD:0<v1:=by omega
    obtain⟨u,ar,av⟩:=al (B-(r+v1)) (by omega) (q-1) (r+v1) (by omega) (by omega) ah af;refine⟨u,?_,av⟩;rw[dj,dH,i1,mW,ac,dA,ai,cJ,bo,if_neg (by simpa using K)];exact ar
  rw[C7];by_cases c:B≤q
  ·have n2:(4294967296:Int)≤(q:Int):=by omega
   obtain⟨u,ar,av⟩:=down (by omega) (fun qx h _=>by omega);refine⟨u,?_,av⟩;simp -implicitDefEqProofs only[↓cJ,↓bo,↓b0,↓vP,eq_true n2,dJ,Bool.true_eq_false,if_false,↓reduceIte,ar]
  ·have n2:¬(4294967296:Int)≤(q:Int):=by omega
   have an:q*v2<18446744073709551616:=by
    have:q*v2≤B*B:=Nat.mul_le_mul (by omega) (by omega);have bV:q*v2≤(B-1)*(B-1):=Nat.mul_le_mul (by omega) (by omega);have dD:(B-1)*(B-1)<18446744073709551616:=by decide
    omega
   have em:q*v2%18446744073709551616=q*v2:=hA an;have es:r*4294967296%18446744073709551616=r*4294967296:=hA (by omega);have gU:=fun(S:ag) (k:bd)=>vS (T:=aL) (G:=G) (X:=X) (s:=S) (k:=k) r y (by omega) (by omega)
   have ak:q*(v1*B+v2)=q*v1*B+q*v2:=by rw[fG,gM]
   have N:=fun(S:ag) (k:bd)=>cE (T:=aL) (G:=G) (X:=X) (s:=S) (k:=k) r
   rw[es] at N;have O:=fun(S:ag) (k:bd)=>dM (T:=aL) (G:=G) (X:=X) (s:=S) (k:=k) q v2
   rw[em] at O;by_cases d:r*4294967296+y<q*v2
   ·have fQ:((r*4294967296+y:Nat):Int)<((q*v2:Nat):Int):=by omega
    have eS:0<q:=by
     rcases Nat.eq_zero_or_pos q with e|e
     ·subst e;omega
     ·exact e
    obtain⟨u,ar,av⟩:=down eS (fun qx h F=>by
     have M:=ad qx h F;rcases Nat.lt_or_ge qx q with aj|aj
     ·omega
     ·have:qx=q:=by omega
      subst this;rw[kL,ak,kO] at F;rw[kO] at *;omega)
    refine⟨u,?_,av⟩;simp -implicitDefEqProofs only[↓cJ,↓bZ,↓bo,↓b0,↓vP,eq_false n2,dF,↓reduceIte,b4,↓i2,↓Z,↓aa,↓ab,↓O,↓N,↓i3,↓i4,↓V,↓Y,↓cu,↓gU,b8,dJ,eq_true fQ,ar]
   ·have fQ:¬((r*4294967296+y:Nat):Int)<((q*v2:Nat):Int):=by omega
    refine⟨q,?_,by omega,?_,ad⟩
    ·simp -implicitDefEqProofs only[↓cJ,↓bZ,↓bo,↓b0,↓vP,eq_false n2,dF,↓reduceIte,b4,↓i2,↓Z,↓aa,↓ab,↓O,↓N,↓i3,↓i4,↓V,↓Y,↓cu,↓gU,b8,dJ,eq_false fQ,tM];exact ir f4 _ _
    ·rw[kL,ak,kO] at *;omega
theorem RI(s:ag)(A o8:ae)(dp vs:List Nat)(j:Nat)(hu:l3 s A dp)(bM:l3 s o8 vs)(u:dO dp)(lE:dO vs)(dm:2≤vs.length)(cX:j+vs.length<dp.length)(gZ:dp.length<4294967296)
  (J:B≤2*vs.getD (vs.length-1) 0)(K:dp.getD (j+vs.length) 0≤vs.getD (vs.length-1) 0):
  ∃F:Nat,aA aL G X 139 [A,.int .i64 (j:Int),o8] s=.ok (.int .u64 (F:Int)) s∧
   ad2 F (dp.getD (j+vs.length) 0*B*B+dp.getD (j+vs.length-1) 0*B+dp.getD (j+vs.length-2) 0) (vs.getD (vs.length-1) 0*B+vs.getD (vs.length-2) 0):=by
 have M:=kO;have f4:=Child.ai s;have bT:=u.getD (j+vs.length);have aa:=u.getD (j+vs.length-1);have pU:=lE.getD (vs.length-1);have ab:=lE.getD (vs.length-2);have ac:=u.getD (j+vs.length-2);have r:vs.getD (vs.length-1) 0≠0:=by omega
 have H:dp.getD (j+vs.length) 0*B+dp.getD (j+vs.length-1) 0<18446744073709551616:=by rw[M] at *;omega
 have N:=DN G X s A o8 dp vs j hu bM u lE dm cX gZ J K s.ai f4
  (B-(dp.getD (j+vs.length) 0*B+dp.getD (j+vs.length-1) 0)%vs.getD (vs.length-1) 0) ((dp.getD (j+vs.length) 0*B+dp.getD (j+vs.length-1) 0)/vs.getD (vs.length-1) 0) ((dp.getD (j+vs.length) 0*B+dp.getD (j+vs.length-1) 0)%vs.getD (vs.length-1) 0)
  (by have:=Nat.mod_lt (dp.getD (j+vs.length) 0*B+dp.getD (j+vs.length-1) 0) (Nat.pos_of_ne_zero r);omega) (by have:=Nat.mod_lt (dp.getD (j+vs.length) 0*B+dp.getD (j+vs.length-1) 0) (Nat.pos_of_ne_zero r);omega)
  (by rw[ez];exact Nat.div_add_mod _ _) (fun qx ad h=>by
   rw[Nat.le_div_iff_mul_le (Nat.pos_of_ne_zero r)];have ar:qx*vs.getD (vs.length-1) 0*B≤qx*(vs.getD (vs.length-1) 0*B+vs.getD (vs.length-2) 0):=by rw[fG,gM];omega
   have av:qx*vs.getD (vs.length-1) 0*B<(dp.getD (j+vs.length) 0*B+dp.getD (j+vs.length-1) 0+1)*B:=by rw[e9,e9,Nat.one_mul];omega
   have:=Nat.lt_of_mul_lt_mul_right av;omega)
 refine Exists.imp (fun F av=>⟨?_,av.2⟩) N;have ar:=av.1;have O:=fun(k:bd)=>(hu.oV f4.oV).get (T:=aL) (G:=G) (X:=X) .i64 (j+vs.length) (by omega) k
 have U:=fun(k:bd)=>(hu.oV f4.oV).get (T:=aL) (G:=G) (X:=X) .i64 (j+vs.length-1) (by omega) k
 have mW:=fun(k:bd)=>(bM.oV f4.oV).get (T:=aL) (G:=G) (X:=X) .i64 (vs.length-1) (by omega) k
 have V:=fun(S:ag) (k:bd)=>bM.len (T:=aL) (G:=G) (X:=X) k S
 have i1:=fun(S:ag) (k:bd)=>ii (T:=aL) (G:=G) (X:=X) (s:=S) (k:=k) vs.length (by omega) (by omega)
 have i3:=fun(S:ag) (k:bd)=>iw (T:=aL) (G:=G) (X:=X) (s:=S) (k:=k) j vs.length (by omega)
 have i4:=fun(S:ag) (k:bd)=>ii (T:=aL) (G:=G) (X:=X) (s:=S) (k:=k) (j+vs.length) (by omega) (by omega)
 rw[M] at H ar bT aa pU;clear J K N av ac ab;generalize dp.getD (j+vs.length) 0=e at *;generalize dp.getD (j+vs.length-1) 0=y at *;generalize vs.getD (vs.length-1) 0=v1 at *;have Y:=fun(S:ag) (k:bd)=>hS (T:=aL) (G:=G) (X:=X) (s:=S) (k:=k) e (by omega)
 have Z:=fun(S:ag) (k:bd)=>hS (T:=aL) (G:=G) (X:=X) (s:=S) (k:=k) y (by omega)
 have I:=fun(S:ag) (k:bd)=>hS (T:=aL) (G:=G) (X:=X) (s:=S) (k:=k) v1 (by omega)
 have es:e*4294967296%18446744073709551616=e*4294967296:=by clear ar H O U mW V i1 i3 i4 Y Z I;omega
 have gU:=fun(S:ag) (k:bd)=>vS (T:=aL) (G:=G) (X:=X) (s:=S) (k:=k) e y (by omega) (by omega)
 have d1:=fun(S:ag) (k:bd)=>HE (T:=aL) (G:=G) (X:=X) (s:=S) (k:=k) (e*4294967296+y) v1 r H
 have d2:=fun(S:ag) (k:bd)=>zN (T:=aL) (G:=G) (X:=X) (s:=S) (k:=k) (e*4294967296+y) v1 r
 rw[GH,Rm,V,i3,O,Y,cE,es,i3,i4,U,Z,gU,i1,mW,I,d1,i1,mW,I,d2];exact ar
theorem sp(s:ag)(j:Nat)(a b:List Nat):(s.put j a).put j b=s.put j b:=by simp [ag.put]
theorem mM(s:ag)(j:Nat)(a:List Nat):(s.put j a).aa=s.aa:=rfl
theorem AA{s:ag}{nz:Nat}{dp:List Nat}(h:gW s nz dp)(i N x:Nat)(bL:i<dp.length)(qk:i<N)(k:bd):(aV aL G X).cc s.ai (fun v S=>(aV aL G X).bX S k 1 v (U x)) 1 (.cO (.g s.aa nz) 0 N N 1) (.int .i64 (i:Int))=k .dead (s.put nz (dp.set i x)).ai:=by
 rw[hb _ _ _ _ _ _ _ qk,kj];have e:(U x).fa=true:=rfl;have cP:s.ai.aa=s.aa+1:=(Child.ai s).aa;have r:s.ai.get (.g s.aa nz)=some (.cells (dp.map U)):=(Child.ai s).oV.2 _ _ _ (aD _) (by simpa [ag.get,gW] using h);simp -implicitDefEqProofs only[fe,e,ae.cells,bP,cB,bf,ft,bz,bH];unfold h1;rw[r];simp -implicitDefEqProofs only[Nat.mul_one,bP,cB,bf,show Nat.ble (i+1) (dp.map U).length=true from et (by simp;omega),show s.ai.gO (.g s.aa nz) [U x]=true from by simp [ag.gO,ae.aZ,ae.bc],List.all_cons,show(U x).eB=true from rfl,List.all_nil,bz,bH];have u:s.ro.length≤s.aa:=by unfold ag.aa;omega
 have y:s.ai.set (.g s.aa nz) (.cells ((dp.map U).set i (U x)))=some (s.put nz (dp.set i x)).ai:=by simp -implicitDefEqProofs only[ag.set,cP];rw[if_neg (by omega),if_pos ⟨by omega,u⟩];simp [ag.ai,ag.put,List.map_set]
 show(match s.ai.set (.g s.aa nz) (.cells ((dp.map U).set i (U x))) with |some s=>k .dead s|none=>.fail)=_;rw[y]
section
variable(s:ag)(nz j N q:Nat)(gJ vs:List Nat)(o8:ae)(eS:gW s nz gJ)(qk:gJ.length=N)(bM:jK o8 vs)(lE:dO vs)(cX:j+vs.length<N)(gZ:N<4294967296)
include eS qk bM lE cX gZ
theorem uO(dp:List Nat)(bN:dp.length=N)(i:Nat)(bL:i<N)(k:bd):(aV aL G X).cc (s.put nz dp).ai (fun v S=>(aV aL G X).aw S k none v) 1 (.cO (.g s.aa nz) 0 N N 1) (.int .i64 (i:Int))=k (U (dp.getD i 0)) (s.put nz dp).ai:=by have ar:=(eS.put dp).rd N N (by omega) (aD _);rw[i6 (by omega)] at ar;exact(ar.oV (Child.ai _).oV).get .i64 i (by omega) k
theorem DO(U:Nat)(e:List Nat)(al:dO e)(fE:0<q)(am:q<B)(O:U%val vs<val vs)(an:e5 e j (vs.length+1)+val vs=B^(vs.length+1)+U%val vs):∀(m i:Nat) (dp:List Nat) (carry:Nat),i+m=vs.length→dp.length=N→dO dp→e.length=N→carry≤1→(∀k,(k<j∨j+i≤k)→dp.getD k 0=e.getD k 0)→e5 dp j i+carry*B^i=e5 e j i+e5 vs 0 i→
  ∃r,r2 (aV aL G X) (.cO (.g s.aa nz) 0 N N 1) (.int .i64 (j:Int)) o8 (.int .u64 (q:Int)) (.int .u64 (carry:Int)) (.int .i64 (vs.length:Int)) (.int .i64 (i:Int)) (s.put nz dp).ai=.ok (.int .u32 ((q-1:Nat):Int)) (s.put nz r)∧r.length=N∧dO r∧(∀k,(k<j∨j+vs.length<k)→r.getD k 0=e.getD k 0)∧e5 r j (vs.length+1)=U%val vs:=by
 have H:=kO;have V:=fun(S:ag) (k:bd)=>(bM.rd s).len (T:=aL) (G:=G) (X:=X) k S
 intro m
 induction m with
 |zero=>
  intro i dp carry bL bN u K aY y hw;have Y:i=vs.length:=by omega
  subst Y;have h:¬((vs.length:Int)<(vs.length:Int)):=by omega
  have Z:dp.getD (j+vs.length) 0=e.getD (j+vs.length) 0:=y _ (.inr (aD _));have F:=fun(S:ag) (k:bd)=>iw (T:=aL) (G:=G) (X:=X) (s:=S) (k:=k) j vs.length (by omega)
  have I:=fun(k:bd)=>uO G X s nz j N gJ vs o8 eS qk bM lE cX gZ dp bN (j+vs.length) (by omega) k
  have gH:=fun x (k:bd)=>AA G X (eS.put dp) (j+vs.length) N x (by omega) (by omega) k
  simp -implicitDefEqProofs only[mM,sp] at gH;have dH:=RH q fE (by omega);have J:(q-1)%4294967296=q-1:=hA (by omega);have ab:carry%4294967296=carry:=hA (by omega);rw[←so,f9 e j vs.length (by omega)] at *;have key:=L1 vs.length (e5 dp j vs.length) (dp.getD (j+vs.length) 0+carry) (U%val vs) (by rw[fG,Z,ez _ carry];omega) (sn dp j vs.length u) (Nat.lt_trans O (by have:=hV vs lE;exact this))
  refine⟨dp.set (j+vs.length) ((dp.getD (j+vs.length) 0+carry)%4294967296),?_,by simpa using bN,u.set _ _ (Nat.mod_lt _ (by decide)),fun k cZ=>?_,?_⟩
  ·rw[tK,be,bo,if_neg (by simp),C3,V,F,I,dn,ab,K7];simp -implicitDefEqProofs only[az];rw[gH,dj,dH,dn,J,aN]
  ·exact(hC.getD_set_ne (by omega)).trans (y k (by omega))
  ·have ac:=f9 (dp.set (j+vs.length) ((dp.getD (j+vs.length) 0+carry)%4294967296)) j vs.length (by simp;omega);have ad:(dp.set (j+vs.length) ((dp.getD (j+vs.length) 0+carry)%4294967296)).getD (j+vs.length) 0=(dp.getD (j+vs.length) 0+carry)%4294967296:=hC.fT (by omega);rw[ac,ad,sl _ _ _ _ _ (aD _),key.1,key.2,←H,Nat.mod_self,Nat.mul_zero,Nat.add_zero]
 |succ m ae=>
  intro i dp carry bL bN u K aY y hw;have h:(i:Int)<(vs.length:Int):=by omega
  have A:=GX dp e vs j i carry (by omega) (by omega) lE u aY (y _ (.inr (aD _))) (by omega) hw;simp -implicitDefEqProofs only[] at A;have bT:=u.getD (j+i);have M:=lE.getD i;rw[H] at bT M A;have F:=fun(S:ag) (k:bd)=>iw (T:=aL) (G:=G) (X:=X) (s:=S) (k:=k) j i (by omega)
  have af:=fun S k=>ny G X S k i (by omega)
  have I:=fun(k:bd)=>uO G X s nz j N gJ vs o8 eS qk bM lE cX gZ dp bN (j+i) (by omega) k
  have ah:=fun(k:bd)=>(bM.rd (s.put nz dp).ai).get (T:=aL) (G:=G) (X:=X) .i64 i (by omega) k
  have aj:=fun(S:ag) (k:bd)=>hS (T:=aL) (G:=G) (X:=X) (s:=S) (k:=k) (dp.getD (j+i) 0) bT
  have ak:=fun(S:ag) (k:bd)=>hS (T:=aL) (G:=G) (X:=X) (s:=S) (k:=k) (vs.getD i 0) M
  have gH:=fun x (k:bd)=>AA G X (eS.put dp) (j+i) N x (by omega) (by omega) k
  simp -implicitDefEqProofs only[mM,sp] at gH;have dH:(dp.getD (j+i) 0+vs.getD i 0)%18446744073709551616=dp.getD (j+i) 0+vs.getD i 0:=hA (by omega);have J:(dp.getD (j+i) 0+vs.getD i 0+carry)%18446744073709551616=dp.getD (j+i) 0+vs.getD i 0+carry:=hA (by omega)
  have:=ae (i+1) (dp.set (j+i) ((dp.getD (j+i) 0+vs.getD i 0+carry)%4294967296)) ((dp.getD (j+i) 0+vs.getD i 0+carry)/4294967296) (by omega) (by simpa using bN) A.2.2.1 K A.2.1 (fun k cZ=>(hC.getD_set_ne (by omega)).trans (y k (by omega))) (by rw[H];exact A.2.2.2);refine Exists.imp (fun r av=>⟨?_,av.2⟩) this;rw[tK,be,bo,if_pos (by simpa using h),C2,F,I,aj,ah,ak,dA,dH,dA,J,F,dn];simp -implicitDefEqProofs only[az];rw[gH,cF,C1,af];exact av.1
theorem DP(aJ:0<vs.length)(BN:dO gJ)(ac:q<B)(ad:0<val vs)(aK:e5 gJ j (vs.length+1)/val vs≤q)(aM:q≤e5 gJ j (vs.length+1)/val vs+1):∀(m i:Nat) (dp:List Nat) (carry e:Nat),i+m=vs.length→dp.length=N→dO dp→carry<B→e≤1→(∀k,(k<j∨j+i≤k)→dp.getD k 0=gJ.getD k 0)→e5 dp j i+q*e5 vs 0 i=e5 gJ j i+(carry+e)*B^i→
  ∃r,pz (aV aL G X) (.cO (.g s.aa nz) 0 N N 1) (.int .i64 (j:Int)) o8 (.int .u64 (q:Int)) (.int .u64 (carry:Int)) (.int .u64 (e:Int)) (.int .i64 (vs.length:Int)) (.int .i64 (i:Int)) (s.put nz dp).ai=.ok (.int .u32 ((e5 gJ j (vs.length+1)/val vs:Nat):Int)) (s.put nz r)∧r.length=N∧dO r∧(∀k,(k<j∨j+vs.length<k)→r.getD k 0=gJ.getD k 0)∧e5 r j (vs.length+1)=e5 gJ j (vs.length+1)%val vs:=by
 have H:=kO;have U:=fun(S:ag) (k:bd)=>(bM.rd s).len (T:=aL) (G:=G) (X:=X) k S
 intro m
 induction m with
 |zero=>
  intro i dp carry e bL bN I aY ae J hw;have ak:i=vs.length:=by omega
  subst ak;have h:¬((vs.length:Int)<(vs.length:Int)):=by omega
  have al:dp.getD (j+vs.length) 0=gJ.getD (j+vs.length) 0:=J _ (.inr (aD _));have bT:=I.getD (j+vs.length);rw[H] at bT aY;have K:=fun(S:ag) (k:bd)=>iw (T:=aL) (G:=G) (X:=X) (s:=S) (k:=k) j vs.length (by omega)
  have V:=fun(k:bd)=>uO G X s nz j N gJ vs o8 eS qk bM lE cX gZ dp bN (j+vs.length) (by omega) k
  have Y:=fun(S:ag) (k:bd)=>hS (T:=aL) (G:=G) (X:=X) (s:=S) (k:=k) (dp.getD (j+vs.length) 0) bT
  have gH:=fun x (k:bd)=>AA G X (eS.put dp) (j+vs.length) N x (by omega) (by omega) k
  simp -implicitDefEqProofs only[mM,sp] at gH;have cP:=yS (dp.getD (j+vs.length) 0) carry e bT aY (by omega) (by omega);have Z:rN (rN (dp.getD (j+vs.length) 0) carry) e=k5 (k5 (dp.getD (j+vs.length) 0) carry) e:=rfl;rw[←so] at hw;have an:=f9 gJ j vs.length (by omega);have gs:∀x,e5 (dp.set (j+vs.length) x) j (vs.length+1)=e5 dp j vs.length+B^vs.length*x:=fun x=>by have ao:=f9 (dp.set (j+vs.length) x) j vs.length (by simp;omega);have ap:(dp.set (j+vs.length) x).getD (j+vs.length) 0=x:=hC.fT (by omega);rw[ao,ap,sl _ _ _ _ _ (aD _)]
  have O:dO (dp.set (j+vs.length) (k5 (k5 (dp.getD (j+vs.length) 0) carry) e%4294967296)):=I.set _ _ (by rw[H];exact Nat.mod_lt _ (by decide));have af:∀x k,(k<j∨j+vs.length<k)→(dp.set (j+vs.length) x).getD k 0=gJ.getD k 0:=fun x k cZ=>(hC.getD_set_ne (by omega)).trans (J k (by omega))
  have pre:pz (aV aL G X) (.cO (.g s.aa nz) 0 N N 1) (.int .i64 (j:Int)) o8 (.int .u64 (q:Int)) (.int .u64 (carry:Int)) (.int .u64 (e:Int)) (.int .i64 (vs.length:Int)) (.int .i64 (vs.length:Int)) (s.put nz dp).ai
    = (aV aL G X).aP (.bool (decide (((k5 (k5 (dp.getD (j+vs.length) 0) carry) e/9223372036854775808:Nat):Int)=0))) ((aV aL G X).bY (s.put nz (dp.set (j+vs.length) (k5 (k5 (dp.getD (j+vs.length) 0) carry) e%4294967296))).ai (fun aq s=>(aV aL G X).a0 false [some aq] s) .u32 (.int .u64 (q:Int)))
     (v7 (aV aL G X) (.cO (.g s.aa nz) 0 N N 1) (.int .i64 (j:Int)) o8 (.int .u64 (q:Int)) (s.put nz (dp.set (j+vs.length) (k5 (k5 (dp.getD (j+vs.length) 0) carry) e%4294967296))).ai):=by
   rw[tL,be,bo,if_neg (by simp),C5,U,K,V,Y,dB,dB,Z,U,K,dn];simp -implicitDefEqProofs only[az];rw[gH,cM,bJ]
  rw[pre,bo];generalize k5 (k5 (dp.getD (j+vs.length) 0) carry) e=t at *;have aO:=cP.2;generalize lW:t/9223372036854775808=A at *;generalize aQ:t%4294967296=y at *;have M:e5 dp j vs.length+B^vs.length*y+q*val vs=e5 gJ j (vs.length+1)+A*B^(vs.length+1):=by
   rw[an,←al];have k1:B^vs.length*(y+carry+e)=B^vs.length*(dp.getD (j+vs.length) 0+B*A):=by rw[H,cP.1]
   have dH:B^vs.length*(y+carry+e)=B^vs.length*y+(carry+e)*B^vs.length:=by rw[Nat.add_assoc,fG,ez _ (carry+e)]
   have ar:B^vs.length*(dp.getD (j+vs.length) 0+B*A)=B^vs.length*dp.getD (j+vs.length) 0+A*B^(vs.length+1):=by rw[fG,Nat.pow_succ,←gM,ez _ A]
   rw[dH,ar] at k1;omega
  rw[←gs] at M;have aR:=Nat.div_add_mod (e5 gJ j (vs.length+1)) (val vs);have au:=Nat.mod_lt (e5 gJ j (vs.length+1)) ad;have aS:=sn (dp.set (j+vs.length) y) j (vs.length+1) O;by_cases ab:A=0
  ·have aw:q*val vs≤e5 gJ j (vs.length+1):=by rw[ab] at M;omega
   have F:q=e5 gJ j (vs.length+1)/val vs:=by have:=(Nat.le_div_iff_mul_le ad).2 aw;omega
   have ax:q%4294967296=q:=hA (by omega);refine⟨dp.set (j+vs.length) y,?_,by simpa using bN,O,af y,?_⟩
   ·rw[if_pos (by rw[ab];decide),dn,ax,aN,←F]
   ·rw[ab,F,ez] at M;omega
  ·have ah:A=1:=by omega
   rw[ah,Nat.one_mul] at M;have F:q=e5 gJ j (vs.length+1)/val vs+1:=by
    have:¬q≤e5 gJ j (vs.length+1)/val vs:=fun hle=>by
     have aT:q*val vs≤e5 gJ j (vs.length+1):=by have:=fZ (val vs) hle;rw[ez (e5 gJ j (vs.length+1)/val vs)] at this;omega
     omega
    omega
   have ay:=DO G X s nz j N q gJ vs o8 eS qk bM lE cX gZ (e5 gJ j (vs.length+1)) (dp.set (j+vs.length) y) O (by rw[F];exact Nat.succ_pos _) ac au (by rw[F,e9,Nat.one_mul,ez (e5 gJ j (vs.length+1)/val vs)] at M;omega) vs.length 0 (dp.set (j+vs.length) y) 0 (by omega) (by simpa using bN) O (by simpa using bN) (by omega) (fun k _=>rfl) (by simp [yT])
   obtain⟨r,hj,g2,aA,ns,im⟩:=ay;refine⟨r,?_,g2,aA,fun k cZ=>(ns k cZ).trans (af y k cZ),im⟩;rw[if_neg (by rw[ah];decide),C4,U];have aB:q-1=e5 gJ j (vs.length+1)/val vs:=by rw[F];rfl
   rw[aB] at hj;exact hj
 |succ m aC=>
  intro i dp carry e bL bN I aY ae J hw;have h:(i:Int)<(vs.length:Int):=by omega
  have u:=GW dp gJ vs j i q carry e ac (by omega) (by omega) lE I aY ae (J _ (.inr (aD _))) (by omega) hw;simp -implicitDefEqProofs only[] at u;have bT:=I.getD (j+i);have aj:=lE.getD i;have K:=fun(S:ag) (k:bd)=>iw (T:=aL) (G:=G) (X:=X) (s:=S) (k:=k) j i (by omega)
  have aE:=fun S k=>ny G X S k i (by omega)
  have V:=fun(k:bd)=>uO G X s nz j N gJ vs o8 eS qk bM lE cX gZ dp bN (j+i) (by omega) k
  have aF:=fun(k:bd)=>(bM.rd (s.put nz dp).ai).get (T:=aL) (G:=G) (X:=X) .i64 i (by omega) k
  rw[H] at bT aj;have Y:=fun(S:ag) (k:bd)=>hS (T:=aL) (G:=G) (X:=X) (s:=S) (k:=k) (dp.getD (j+i) 0) bT
  have aG:=fun(S:ag) (k:bd)=>hS (T:=aL) (G:=G) (X:=X) (s:=S) (k:=k) (vs.getD i 0) aj
  have gH:=fun x (k:bd)=>AA G X (eS.put dp) (j+i) N x (by omega) (by omega) k
  simp -implicitDefEqProofs only[mM,sp] at gH;have aH:q*vs.getD i 0%18446744073709551616=q*vs.getD i 0:=hA (by have:=u.1;omega);have aI:(q*vs.getD i 0+carry)%18446744073709551616=q*vs.getD i 0+carry:=hA u.1;have am:=fun(S:ag) (k:bd)=>K8 (T:=aL) (G:=G) (X:=X) (s:=S) (k:=k) (q*vs.getD i 0+carry) u.1
  have Z:∀a b c,rN (rN a b) c=k5 (k5 a b) c:=fun _ _ _=>rfl
  have:=aC (i+1) _ _ _ (by omega) (by simpa using bN) u.2.2.2.2.1 u.2.1 u.2.2.1 (fun k cZ=>(hC.getD_set_ne (by omega)).trans (J k (by omega))) u.2.2.2.2.2;refine Exists.imp (fun r av=>⟨?_,av.2⟩) this;have bV:=av.1;rw[H] at bV;rw[tL,be,bo,if_pos (by simpa using h),C0,aF,aG,dM,aH,dA,aI,cF,K,V,Y,am,dB,dB,Z,K,dn];simp -implicitDefEqProofs only[az];rw[gH,cM,CZ,aE];exact bV
end
end Go.gl
end
section
namespace Go.hC
theorem getD_eq{a b:List Nat}(bN:a.length=b.length)(k:Nat)(h:a.getD k 0=b.getD k 0):a[k]? =b[k]?:=by
 by_cases cZ:k<a.length
 ·have e:k<b.length:=by omega
  simp only[List.getD,ei cZ,ei e,Option.getD_some] at h;rw[ei cZ,ei e,h]
 ·rw[List.getElem?_eq_none (by omega),List.getElem?_eq_none (by omega)]
theorem DQ{a b:List Nat}(bN:a.length=b.length)(j:Nat)(h:∀k,k<j→a.getD k 0=b.getD k 0):a.take j=b.take j:=by
 apply List.ext_getElem?;intro k;rw[List.getElem?_take,List.getElem?_take];split
 ·exact getD_eq bN k (h k (by assumption))
 ·rfl
theorem DR{a b:List Nat}(bN:a.length=b.length)(j:Nat)(h:∀k,j≤k→a.getD k 0=b.getD k 0):a.drop j=b.drop j:=by apply List.ext_getElem?;intro k;rw[List.getElem?_drop,List.getElem?_drop];exact getD_eq bN _ (h _ (by omega))
theorem sq{dp vs:List Nat}{j:Nat}(cX:j+vs.length<dp.length)(lE:dO vs)(r:val (dp.drop (j+1))<val vs):
  val (dp.drop (j+vs.length+1))=0∧e5 dp (j+1) vs.length<val vs∧e5 dp j (vs.length+1)=dp.getD j 0+B*e5 dp (j+1) vs.length:=by
 have ar:=sm dp (j+1) vs.length (by omega);have av:=hV vs lE;have eS:val (dp.drop (j+1+vs.length))=0:=by
  rcases Nat.eq_zero_or_pos (val (dp.drop (j+1+vs.length))) with h|h
  ·exact h
  ·have:B^vs.length*1≤B^vs.length*val (dp.drop (j+1+vs.length)):=Nat.mul_le_mul_left _ h;omega
 have e:j+vs.length+1=j+1+vs.length:=by omega
 refine⟨by rw[e];exact eS,by omega,?_⟩;have bV:=sm dp j (vs.length+1) (by omega);have dD:=mi dp j (by omega);rw[show j+(vs.length+1)=j+1+vs.length by omega,eS] at bV;rw[eS,Nat.mul_zero,Nat.add_zero] at ar;rw[Nat.mul_zero,Nat.add_zero,dD,ar] at bV;exact bV.symm
theorem Yo{dp vs:List Nat}{j:Nat}(cX:j+vs.length<dp.length)(lE:dO vs)(dm:0<vs.length)(r:val (dp.drop (j+1))<val vs):dp.getD (j+vs.length) 0≤vs.getD (vs.length-1) 0:=by
 obtain⟨_,av,_⟩:=sq cX lE r;have bV:=f9 dp (j+1) (vs.length-1) (by omega);have dD:=f9 vs 0 (vs.length-1) (by omega);have A:=sn vs 0 (vs.length-1) lE;have e:vs.length-1+1=vs.length:=by omega
 rw[e] at bV dD;rw[←so] at dD;rw[show j+1+(vs.length-1)=j+vs.length by omega] at bV;rw[bf] at dD;by_cases h:dp.getD (j+vs.length) 0≤vs.getD (vs.length-1) 0
 ·exact h
 ·have u:vs.getD (vs.length-1) 0+1≤dp.getD (j+vs.length) 0:=by omega
  have y:=Nat.mul_le_mul_left (B^(vs.length-1)) u;rw[fG,Nat.mul_one] at y;omega
theorem RJ{dp vs:List Nat}{j q:Nat}(cX:j+vs.length<dp.length)(e:dO dp)(lE:dO vs)(dm:2≤vs.length)(h:B≤2*vs.getD (vs.length-1) 0)(r:val (dp.drop (j+1))<val vs)(fE:q<B)
  (ar:q*(vs.getD (vs.length-1) 0*B+vs.getD (vs.length-2) 0)≤dp.getD (j+vs.length) 0*B*B+dp.getD (j+vs.length-1) 0*B+dp.getD (j+vs.length-2) 0)
  (av:∀qx,qx<B→qx*(vs.getD (vs.length-1) 0*B+vs.getD (vs.length-2) 0)≤dp.getD (j+vs.length) 0*B*B+dp.getD (j+vs.length-1) 0*B+dp.getD (j+vs.length-2) 0→qx≤q):
  e5 dp j (vs.length+1)/val vs≤q∧q≤e5 dp j (vs.length+1)/val vs+1:=by
 obtain⟨m,hm⟩:∃m,vs.length=m+2:=⟨vs.length-2,by omega⟩;obtain⟨_,t2,t3⟩:=sq cX lE r;refine DI (e5 dp j (vs.length+1)) (val vs) q m (e5 dp j m) (e5 vs 0 m) _ _ _ _ _ ?_ ?_ (sn _ _ _ e) (sn _ _ _ lE) h fE ar av ?_
 ·rw[hm,f9 dp j (m+2) (by omega),f9 dp j (m+1) (by omega),f9 dp j m (by omega),show B^(m+2)=B^m*B*B by rw[Nat.pow_succ,Nat.pow_succ],show B^(m+1)=B^m*B from Nat.pow_succ ..,show j+(m+2)-1=j+(m+1) by omega,show j+(m+2)-2=j+m by omega];generalize dp.getD (j+(m+2)) 0=a;generalize dp.getD (j+(m+1)) 0=b;generalize dp.getD (j+m) 0=c;generalize B^m=P;rw[e9,e9];have dH:P*B*B*a=a*B*B*P:=by ac_rfl
  have u:P*B*b=b*B*P:=by ac_rfl
  have y:P*c=c*P:=ez _ _;omega
 ·have:=so vs;rw[hm] at this ⊢;rw[this,f9 vs 0 (m+1) (by omega),f9 vs 0 m (by omega),Nat.pow_succ,bf,bf,show m+2-1=m+1 by omega,show m+2-2=m by omega,e9];generalize vs.getD (m+1) 0=b;generalize vs.getD m 0=c;generalize B^m=P;have u:P*B*b=b*B*P:=by ac_rfl
  have y:P*c=c*P:=ez _ _;omega
 ·rw[t3];have bV:=e.getD j;have dD:=Nat.mul_le_mul_left B t2;rw[Nat.succ_eq_add_one,fG,Nat.mul_one] at dD;omega
theorem G0(T P C D W q V r:Nat)(hm:V*q+r=W):T+P*r+P*((q+C*D)*V)=T+P*W+P*C*(D*V):=by subst hm;rw[e9,fG,fG,ez q V,gM P C,gM C D];omega
theorem Yp{dp vs:List Nat}{j:Nat}(cX:j+vs.length<dp.length)(e:dO dp)(lE:dO vs)(h:val (dp.drop (j+1))<val vs):e5 dp j (vs.length+1)/val vs<B:=by
 obtain⟨t1,t2,t3⟩:=sq cX lE h;have r:0<val vs:=by omega
 rw[Nat.div_lt_iff_lt_mul r,t3];have bV:=e.getD j;have dD:=Nat.mul_le_mul_left B t2;rw[Nat.succ_eq_add_one,fG,Nat.mul_one] at dD;omega
theorem L2{dp e os vs:List Nat}{U0 j:Nat}(bN:e.length=dp.length)(cX:j+vs.length<dp.length)(y:dO dp)(lE:dO vs)(h:j<os.length)
  (hinv:val dp+B^(j+1)*(val (os.drop (j+1))*val vs)=U0)(r:val (dp.drop (j+1))<val vs)
  (u:∀k,(k<j∨j+vs.length<k)→e.getD k 0=dp.getD k 0)(hw:e5 e j (vs.length+1)=e5 dp j (vs.length+1)%val vs):
  e5 dp j (vs.length+1)/val vs<B∧val e+B^j*(val ((os.set j (e5 dp j (vs.length+1)/val vs)).drop j)*val vs)=U0∧val (e.drop j)<val vs:=by
 obtain⟨t1,t2,t3⟩:=sq cX lE r;have A:0<val vs:=by omega
 have fE:=Yp cX y lE r;have F:e.drop (j+vs.length+1)=dp.drop (j+vs.length+1):=DR bN _ (fun k cZ=>u k (by omega));have H:e.take j=dp.take j:=DQ bN _ (fun k cZ=>u k (by omega));have d1:=sm dp j (vs.length+1) (by omega);have d2:=sm e j (vs.length+1) (by omega);rw[show j+(vs.length+1)=j+vs.length+1 by omega] at d1 d2;rw[F,t1,hw] at d2;rw[t1] at d1;have s1:=k4 dp j (by omega);have s2:=k4 e j (by omega);rw[H] at s2;have hm:=Nat.div_add_mod (e5 dp j (vs.length+1)) (val vs);have gU:=mi (os.set j (e5 dp j (vs.length+1)/val vs)) j (by simpa using h);rw[fT h,sj (i:=j+1) (j:=j) (by omega)] at gU;generalize e5 dp j (vs.length+1)=W at *;refine⟨fE,?_,by rw[d2,Nat.mul_zero,Nat.add_zero];exact Nat.mod_lt W A⟩;rw[Nat.mul_zero,Nat.add_zero] at d1 d2;rw[gU,←hinv,s2,s1,d1,d2,Nat.pow_succ];exact G0 _ _ _ _ _ _ _ _ hm
theorem L3{b vs:List Nat}{c:Nat}(A:dO b)(V:fb b)(F:b≠[])(lE:dO vs)(H:fb vs)(bM:val vs=val b*2^c)(ar:2147483648≤b.getD (b.length-1) 0*2^c)(av:b.getD (b.length-1) 0*2^c<4294967296):
  vs.length=b.length∧B≤2*vs.getD (vs.length-1) 0:=by
 have bN:0<b.length:=List.length_pos_iff.2 F;have I:=Nat.two_pow_pos c;have e:=val_succ b (b.length-1) (by omega);rw[show b.length-1+1=b.length by omega,List.take_length] at e;have J:=hV (b.take (b.length-1)) (A.take _);rw[show(b.take (b.length-1)).length=b.length-1 by simp] at J;have K:B=4294967296:=rfl;have Y:2^c≤2147483648*2:=by
  by_cases h:b.getD (b.length-1) 0=0
  ·rw[h] at ar;omega
  ·have:=fZ (2^c) (show 1≤b.getD (b.length-1) 0 by omega);omega
 have M:val vs<B^b.length:=by
  rw[bM,e,show B^b.length=B^(b.length-1)*B by rw[←Nat.pow_succ];congr 1;omega];have N:(b.getD (b.length-1) 0+1)*2^c≤B:=by
   have Z:c≤32:=by
    by_cases aY:c≤32
    ·exact aY
    ·have:2^33≤2^c:=Nat.pow_le_pow_right (by omega) (by omega);omega
   have r:B=2^(32-c)*2^c:=by rw[←Nat.pow_add,tW];congr 1;omega
   have:b.getD (b.length-1) 0<2^(32-c):=by rw[←K,r] at av;exact Nat.lt_of_mul_lt_mul_right av
   rw[r];exact fZ _ this
  have O:(val (b.take (b.length-1))+B^(b.length-1)*b.getD (b.length-1) 0)*2^c<B^(b.length-1)*((b.getD (b.length-1) 0+1)*2^c):=by rw[←gM];apply Nat.mul_lt_mul_of_pos_right _ I;rw[fG,Nat.mul_one];omega
  exact gd O (Nat.mul_le_mul_left _ N)
 have U:B^(b.length-1)*2147483648≤val vs:=by
  rw[bM,e,e9,gM]
  have:=Nat.mul_le_mul_left (B^(b.length-1)) ar;omega
 have aa:=Nat.pow_pos (n:=b.length-1) hd;have eR:vs≠[]:=fun h=>by subst h;simp [val] at U;omega
 have ab:vs.length≤b.length:=qO H M;have ac:b.length≤vs.length:=by
  have ad:=hV vs lE;by_cases h:b.length≤vs.length
  ·exact h
  ·have:B^vs.length≤B^(b.length-1):=oB (by omega);omega
 have hlen:vs.length=b.length:=by omega
 refine⟨hlen,?_⟩;have u:=val_succ vs (vs.length-1) (by omega);rw[show vs.length-1+1=vs.length by omega,List.take_length] at u;have y:=hV (vs.take (vs.length-1)) (lE.take _);rw[show(vs.take (vs.length-1)).length=vs.length-1 by simp] at y;rw[hlen] at u y ⊢;by_cases h:B≤2*vs.getD (b.length-1) 0
 ·exact h
 ·have bV:vs.getD (b.length-1) 0+1≤2147483648:=by omega
  have dD:=Nat.mul_le_mul_left (B^(b.length-1)) bV;rw[fG,Nat.mul_one] at dD;omega
theorem L4{a b dp:List Nat}{c V:Nat}(h:dO a)(r:fb b)(e:b≠[])(u:dO dp)(hle:b.length≤a.length)(bN:dp.length=a.length+1)(hu:val dp=val a*2^c)(y:V=val b*2^c):val (dp.drop (a.length-b.length+1))<V:=by have A:0<b.length:=List.length_pos_iff.2 e;rw[←yU dp _ u (by omega),Nat.div_lt_iff_lt_mul (Nat.pow_pos hd),hu,y];have ar:=hV a h;have av:=pV b r e;have bV:=fZ (B^(a.length-b.length+1)) av;rw[←Nat.pow_add,show b.length-1+(a.length-b.length+1)=a.length by omega] at bV;rw[gM,ez (2^c),←gM];exact Nat.mul_lt_mul_of_pos_right (gd ar bV) (Nat.two_pow_pos c)
end Go.hC
end
section
namespace Go.gl
open Go.Ab Go.hC
variable(G:Nat→ae)(X:Nat→List ae→ag→ah)
theorem RK(s:ag)(nz j N q:Nat)(gJ vs:List Nat)(o8:ae)(eS:gW s nz gJ)(qk:gJ.length=N)(bM:jK o8 vs)(lE:dO vs)(cX:j+vs.length<N)(gZ:N<4294967296)(h:0<vs.length)(BN:dO gJ)(r:q<B)(u:0<val vs)(y:e5 gJ j (vs.length+1)/val vs≤q)(A:q≤e5 gJ j (vs.length+1)/val vs+1):
  ∃e,aA aL G X 138 [.cO (.g s.aa nz) 0 N N 1,.int .i64 (j:Int),o8,.int .u64 (q:Int)] s=.ok (.int .u32 ((e5 gJ j (vs.length+1)/val vs:Nat):Int)) (s.put nz e)∧e.length=N∧dO e∧(∀k,(k<j∨j+vs.length<k)→e.getD k 0=gJ.getD k 0)∧e5 e j (vs.length+1)=e5 gJ j (vs.length+1)%val vs:=by
 rw[GG,Rl,(bM.rd s).len]
 have:=DP G X s nz j N q gJ vs o8 eS qk bM lE cX gZ h BN r u y A vs.length 0 gJ 0 0 (by omega) qk BN hd (by omega) (fun _ _=>rfl) (by simp [yT]);rw[La eS] at this;exact this
theorem DS(s:ag)(c U0 N M nz e:Nat)(o8:ae)(vs:List Nat)(bM:jK o8 vs)(lE:dO vs)(dm:2≤vs.length)(K:B≤2*vs.getD (vs.length-1) 0)(ax:N=M-1+vs.length+1)(ay:0<M)(gZ:N<4294967296)(eR:nz≠e)(aY:c<4294967296):
  ∀(m k:Nat) (dp os:List Nat) (S:ag),k+m=M→Child s S→gW S nz dp→gW S e os→dp.length=N→os.length=M→dO dp→dO os→val dp+B^m*(val (os.drop m)*val vs)=U0→val (dp.drop m)<val vs→
  ∃v w q r,r7 (aV aL G X) (.int .i64 (c:Int)) o8 (.cO (.l nz) 0 N N 1) (.cO (.l e) 0 M M 1) (.int .i64 (M:Int)) (.int .i64 (k:Int)) S=.ok (.d0 [v,w]) s∧jK v q∧dO q∧fb q∧jK w r∧dO r∧fb r∧val q=U0/val vs∧val r=U0%val vs/2^c:=by
 intro m
 induction m with
 |zero=>
  intro k dp os S cZ f4 hu F lu gg y I hinv u;have h:¬((k:Int)<(M:Int)):=by omega
  have A:=hu.rd N N (by omega) (aD _);rw[i6 (by omega)] at A;have ab:=mL G X S _ dp A (by omega);have O:=A.cut (hf dp dp.length) (jC _ _);obtain⟨w,r,lost,ac,U,ad,af,Sv⟩:=RG G X S _ (dp.take (hf dp dp.length)) c O (y.take _) aY (by have:=jC dp dp.length;simp;omega);obtain⟨v,ah,bV⟩:∃v,jK v (gh os)∧(aV aL G X).bn S (fun v s=>(aV aL G X).a0 false [some v,some w] s) 135 [.cO (.g S.aa e) 0 M M 1]=.ok (.d0 [v,w]) s:=by
   have aU:=F.rd M M (by omega) (aD _);rw[i6 (by omega)] at aU;rw[a8 (mL G X S _ os aU (by omega))];have hle:=jC os os.length;obtain⟨v,ar,av⟩:=nb (S:=S) (j:=e) (off:=0) (cap:=M) (gh os) (n:=hf os os.length) (ik os).symm F (by rw[b9,ik];simp [gh,List.map_take]) (by rw[ik];simpa using hle)
   exact⟨v,av,kC f4 _ _ _ _ ar (U.freeze S)⟩
  rw[Nat.pow_zero,Nat.one_mul,b9] at hinv;rw[b9] at u;have J:0<val vs:=by omega
  have ai:val (dp.take (hf dp dp.length))=val dp:=kk dp;refine⟨v,w,gh os,r,?_,ah,lx I,jq os,U,ad,af,?_,?_⟩
  ·rw[tO,be,bo,if_neg (by simpa using h),Dh,ix,a8 ab,O.ap,az,a8 ac,gA 0 _ w rfl,gA 1 _ _ rfl,ix];exact bV
  ·rw[kk,←hinv,Nat.add_mul_div_right _ _ J,Nat.div_eq_of_lt u,bf]
  ·rw[Sv,ai,←hinv,Nat.add_mul_mod_self_right,hA u]
 |succ m aj=>
  intro k dp os S cZ f4 hu F lu gg y I hinv u;have h:(k:Int)<(M:Int):=by omega
  have cX:m+vs.length<dp.length:=by omega
  have A:=hu.rd N N (by omega) (aD _);rw[i6 (by omega)] at A;obtain⟨ak,al,he⟩:=RI G X S _ o8 dp vs m A (bM.rd S) y lE dm cX (by omega) K (Yo cX lE (by omega) u);have V:=RJ cX y lE dm K u he.lt he.le he.max;have J:0<val vs:=by omega
  obtain⟨H,am,an,ao,aq,hw⟩:=RK G X S nz m N ak dp vs o8 hu lu bM lE (by omega) gZ (by omega) y he.lt J V.1 V.2;obtain⟨d1,d2,d3⟩:=L2 (U0:=U0) (j:=m) (os:=os) (by omega) cX y lE (by omega) hinv u aq hw;have Y:gW (S.put nz H) e os:=F.HF eR _;have gH:=fun x (k:bd)=>Y.gH (T:=aL) (G:=G) (X:=X) m M M x (by omega) (by omega) k
  have au:=fun(S:ag) (k:bd)=>ii (T:=aL) (G:=G) (X:=X) (s:=S) (k:=k) M (by omega) (by omega)
  have Z:=fun(S:ag) (lN:bd)=>lh (T:=aL) (G:=G) (X:=X) (s:=S) (k:=lN) (M-1) k (by omega) (by omega)
  have aw:=fun(S:ag) (lN:bd)=>hT (T:=aL) (G:=G) (X:=X) (s:=S) (k:=lN) k (by omega)
  rw[show M-1-k=m by omega] at Z
  have:=aj (k+1) H _ _ (by omega) ((f4.put nz H).put e _) ((hu.put H).HF (Ne.symm eR) _) (Y.put (os.set m (e5 dp m (vs.length+1)/val vs))) an (by simpa using gg) ao (I.set _ _ d1) d2 d3;refine Exists.imp (fun v ar=>Exists.imp (fun w av=>Exists.imp (fun q bV=>Exists.imp (fun r dD=>⟨?_,dD.2⟩) bV) av) ar) this;rw[tO,be,bo,if_pos (by simpa using h),Dg,aW,au,Z,ix,az,bM.ap,a8 al];simp -implicitDefEqProofs only[az,ix,bM.ap];rw[na am (mM _ _ _)];simp -implicitDefEqProofs only[az];rw[gH,Df,aw];exact dD.1
theorem RL(s:ag)(H N:ae)(a b:List Nat)(u:jK H a)(A:jK N b)(F:dO a)(J:dO b)(ad:fb a)(I:fb b)(K:b≠[])(gZ:a.length<2147483648)(a2:b.length<2147483648):
  ∃v w q r,aA aL G X 114 [H,N] s=.ok (.d0 [v,w]) s∧jK v q∧dO q∧fb q∧jK w r∧dO r∧fb r∧val q=val a/val b∧val r=val a%val b:=by
 have f4:=Child.ai s;have a3:0<b.length:=List.length_pos_iff.2 K;have am:=RA G X s.ai H N a b (u.rd _) (A.rd _) F J ad I (by omega) (by omega);have af:=fun(S:ag) (k:bd)=>(u.rd S).len (T:=aL) (G:=G) (X:=X) k S
 have Z:=fun(S:ag) (k:bd)=>(A.rd S).len (T:=aL) (G:=G) (X:=X) k S
 rw[GL,Rq,u.ap,A.ap,a8 am];by_cases M:val a<val b
 ·refine⟨.bW 1 [] .nil,H,[],a,?_,jK.nil,(fun x (h:x∈[])=>absurd h qv:dO []),(fun h=>absurd rfl h:fb []),u,F,ad,?_,?_⟩
  ·have:pH (val a) (val b)<0:=by simp [pH,M]
   rw[be,bo,if_pos (by simpa using this)];exact kC f4 _ _ _ _ rfl (u.freeze _)
  ·rw[Nat.div_eq_of_lt M];rfl
  ·rw[hA M]
 have hle:val b≤val a:=Nat.not_lt.1 M;have hlen:b.length≤a.length:=by
  by_cases h:b.length≤a.length
  ·exact h
  ·have:=nX F I (Nat.not_le.1 h);omega
 have an:¬pH (val a) (val b)<0:=by simp -implicitDefEqProofs only[pH,if_neg M];split<;> decide
 rw[be,bo,if_neg (by simpa using an),Dj,Z,bJ,bo];by_cases ar:b.length=1
 ·rw[if_pos (by simp [ar])];have aa:=fun(k:bd)=>(A.rd s.ai).get (T:=aL) (G:=G) (X:=X) .i64 0 (by omega) k
  have ab:val b=b.getD 0 0:=by
   match b,ar with
   |[x],_=>simp [val]
  have cP:b.getD 0 0≠0:=by rw[←ab];intro e;exact K ((tV I).1 e)
  have ah:=J.getD 0;obtain⟨v,q,aq,O,au,av,aw⟩:=RD G X s.ai H a (b.getD 0 0) (u.rd _) F cP ah (by omega);have ao:=jK.e8 [val a%b.getD 0 0];have ax:=mL G X s.ai _ _ (ao.rd s.ai) (by simp);have ay:val a%b.getD 0 0<B:=Nat.lt_trans (Nat.mod_lt _ (by omega)) ah;have or:dO [val a%b.getD 0 0]:=fun x a5=>by rw[List.mem_singleton.1 a5];exact ay
  refine⟨v,_,q,gh [val a%b.getD 0 0],?_,O,au,av,ao.cut _,lx or,jq _,by rw[aw,ab],by rw[kk,ab];simp [val]⟩;refine(aa _).trans ?_;rw[u.ap,az,a8 aq,gA 0 _ v rfl,gA 1 _ _ rfl];have e8:=fun(k:bd)=>tD (T:=aL) (G:=G) (X:=X) (s:=s.ai) (k:=k) [val a%b.getD 0 0]
  refine(e8 _).trans ?_;rw[ao.ap,a8 ax];exact kC f4 _ _ _ _ (O.freeze _) ((ao.cut _).freeze _)
 ·rw[if_neg (by simp;omega),Di];have aa:=fun(k:bd)=>(A.rd s.ai).get (T:=aL) (G:=G) (X:=X) .i64 (b.length-1) (by omega) k
  have aB:=fun(S:ag) (k:bd)=>ii (T:=aL) (G:=G) (X:=X) (s:=S) (k:=k) b.length (by omega) (by omega)
  have a4:=kO;have bT:=J.getD (b.length-1);have iC:=I K;obtain⟨c,aC,a6,aE,lz⟩:=RC G X s.ai (b.getD (b.length-1) 0) (by omega) iC;obtain⟨o8,vs,aF,O,lE,aG,V⟩:=DH G X s.ai N b c (A.rd _) J (by omega) (by omega);obtain⟨a7,fV⟩:=L3 J I K lE aG V aE lz;have aH:=fun S k=>ny G X S k a.length (by omega)
  have aI:=fun(S:ag) (k:bd)=>lh (T:=aL) (G:=G) (X:=X) (s:=S) (k:=k) a.length b.length hlen (by omega)
  have aJ:=fun S k=>ny G X S k (a.length-b.length) (by omega)
  have aK:=fun(S:ag) (k:bd)=>pS (T:=aL) (G:=G) (X:=X) (s:=S) (k:=k) (U 0) 4 (a.length+1) (a.length+1) (aD _) (by omega)
  have aM:=fun(S:ag) (k:bd)=>pS (T:=aL) (G:=G) (X:=X) (s:=S) (k:=k) (U 0) 4 (a.length-b.length+1) (a.length-b.length+1) (aD _) (by omega)
  let y:=s.ai.new (.cells (List.replicate (a.length+1) (U 0)))
  have A1:gW y s.ai.own.length (List.replicate (a.length+1) 0):=gW.make _ _;obtain⟨a9,ac,aN,sJ,aO,aP,el⟩:=DH G X y H a c (u.rd _) F (by omega) (by omega);have aQ:ac.length≤a.length+1:=by
   apply qO aP;rw[el,Nat.pow_succ];have aR:=hV a F;have aS:2^c≤B:=by have:2^c≤2^32:=Nat.pow_le_pow_right (by omega) (by omega);rw[tW];exact this
   exact gd (Nat.mul_lt_mul_of_pos_right aR (Nat.two_pow_pos c)) (Nat.mul_le_mul_left _ aS)
  let dp:=ac++(List.replicate (a.length+1) 0).drop ac.length
  have aj:dp.length=a.length+1:=by simp [dp];omega
  have ak:val dp=val a*2^c:=by simp -implicitDefEqProofs only[dp,ng,List.drop_replicate,DA,Nat.mul_zero,Nat.add_zero,el]
  have al:dO dp:=fun x a5=>by
   rcases List.mem_append.1 a5 with h|h
   ·exact aO x h
   ·exact pG _ x (List.mem_of_mem_drop h)
  have aT:=fun(k:bd)=>A1.copy (T:=aL) (G:=G) (X:=X) (n:=a.length+1) (sJ.rd y) (by simpa using aQ) (by simp) k
  have A2:gW (y.put s.ai.own.length dp) s.ai.own.length dp:=A1.put dp
  let Y:=(y.put s.ai.own.length dp).new (.cells (List.replicate (a.length-b.length+1) (U 0)))
  have A3:gW Y s.ai.own.length dp:=A2.new _;have A4:gW Y (y.put s.ai.own.length dp).own.length (List.replicate (a.length-b.length+1) 0):=gW.make _ _;have aU:Child s Y:=(((Child.ai s).new _).put _ _).new _;have eR:s.ai.own.length≠(y.put s.ai.own.length dp).own.length:=by have:=A2.lt;omega
  have aV:=DS G X s c (val a*2^c) (a.length+1) (a.length-b.length+1) s.ai.own.length (y.put s.ai.own.length dp).own.length o8 vs O lE (by omega) fV (by omega) (by omega) (by omega) eR (by omega) (a.length-b.length+1) 0 dp _ Y (by omega) aU A3 A4 aj (by simp) al (pG _)
   (by rw[ak,mm (by simp)];simp [val]) (L4 F I K al hlen aj ak V)
  obtain⟨v,w,q,r,hj,g2,aX,ns,im,aY,aZ,a0,a1⟩:=aV;refine⟨v,w,q,r,?_,g2,aX,ns,im,aY,aZ,?_,?_⟩
  ·rw[Z,aB];refine(aa _).trans ?_;rw[az,a8 aC,A.ap,az,a8 aF,af,aH];refine(aK _ _).trans ?_;rw[u.ap];refine(a8 aN).trans ?_;refine(aT _).trans ?_;rw[af,Z,aI,aJ];refine(aM _ _).trans ?_;rw[aW];exact hj
  ·rw[a0,V,Nat.mul_div_mul_right _ _ (Nat.two_pow_pos c)]
  ·rw[a1,V,Nat.mul_mod_mul_right,Nat.mul_div_cancel _ (Nat.two_pow_pos c)]
def iz(neg:Bool)(l:List Nat):Bool:=if l.length=0 then !neg else decide (l.length≤128)&&decide (l.getD (l.length-1) 0≠0)
abbrev mN(neg:Bool)(v:ae):ae:=.agg [.bool neg,v]
theorem uP(s:ag)(neg:Bool)(v:ae)(l:List Nat)(h:jK v l)(u:l.length<9223372036854775807):aA aL G X 87 [mN neg v] s=.ok (.bool (iz neg l)) s:=by
 have f4:=Child.ai s;have e:=fun(S:ag) (k:bd)=>(h.rd S).len (T:=aL) (G:=G) (X:=X) k S
 rw[Lm,XM];by_cases eS:l.length=0
 ·have ma:(l.length:Int)=0:=by omega
  simp -implicitDefEqProofs only[↓cI,↓cN,↓b0,↓bo,↓aF,↓aC,↓ax,↓aG,↓aO,↓aQ,↓ay,↓aH,↓aB,↓aW,↓a1,↓bg,↓dP,↓aI,↓bw,↓b5,↓c6,↓cd,↓cf,↓b6,↓cg,↓ch,↓ci,↓cj,↓ck,↓cl,↓bB,↓bC,↓bD,↓c7,↓c8,↓c9,↓da,↓db,↓dc,↓dd,↓de,↓df,↓cm,↓cn,↓co,↓bJ,↓cL,↓be,↓c0,↓bZ,↓cJ,↓cT,↓dg,↓a2,↓aR,↓a3,↓aN,↓aJ,↓a4,↓cQ,↓b1,↓b7,↓cp,↓cq,↓cr,↓ct,↓cv,↓cw,↓cx,↓cy,↓dA,↓dB,↓dj,↓dM,↓cE,↓cF,↓cM,↓dn,b9,dT,b8,decide_eq_false_iff_not,ite_not,↓reduceIte,ba,az,bb,bE,bf,bP,cB,Nat.reduceAdd,bz,↓bk,Nat.reduceLeDiff,aD,cY,c3,dJ,dF,b4,↓e,eq_true ma,iz,if_pos eS]
 ·have ma:¬(l.length:Int)=0:=by omega
  by_cases ar:l.length≤128
  ·have dH:(l.length:Int)≤128:=by omega
   have g:=fun(k:bd)=>(h.rd s.ai).get (T:=aL) (G:=G) (X:=X) .i64 (l.length-1) (by omega) k
   have r:=fun(S:ag) (k:bd)=>ii (T:=aL) (G:=G) (X:=X) (s:=S) (k:=k) l.length (by omega) (by omega)
   simp -implicitDefEqProofs only[↓cI,↓cN,↓b0,↓bo,↓aF,↓aC,↓ax,↓aG,↓aO,↓aQ,↓ay,↓aH,↓aB,↓aW,↓a1,↓bg,↓dP,↓aI,↓bw,↓b5,↓c6,↓cd,↓cf,↓b6,↓cg,↓ch,↓ci,↓cj,↓ck,↓cl,↓bB,↓bC,↓bD,↓c7,↓c8,↓c9,↓da,↓db,↓dc,↓dd,↓de,↓df,↓cm,↓cn,↓co,↓bJ,↓cL,↓be,↓c0,↓bZ,↓cJ,↓cT,↓dg,↓a2,↓aR,↓a3,↓aN,↓aJ,↓a4,↓cQ,↓b1,↓b7,↓cp,↓cq,↓cr,↓ct,↓cv,↓cw,↓cx,↓cy,↓dA,↓dB,↓dj,↓dM,↓cE,↓cF,↓cM,↓dn,b9,dT,b8,decide_eq_false_iff_not,ite_not,↓reduceIte,ba,az,bb,bE,bf,bP,cB,Nat.reduceAdd,bz,↓bk,Nat.reduceLeDiff,aD,cY,c3,dJ,dF,b4,↓e,eq_false ma,wx,eq_true dH,↓r,↓g,iz,if_neg eS,dQ ar,eI];congr 3;simp -implicitDefEqProofs only[ne_eq,eq_iff_iff];omega
  ·have dH:¬(l.length:Int)≤128:=by omega
   simp -implicitDefEqProofs only[↓cI,↓cN,↓b0,↓bo,↓aF,↓aC,↓ax,↓aG,↓aO,↓aQ,↓ay,↓aH,↓aB,↓aW,↓a1,↓bg,↓dP,↓aI,↓bw,↓b5,↓c6,↓cd,↓cf,↓b6,↓cg,↓ch,↓ci,↓cj,↓ck,↓cl,↓bB,↓bC,↓bD,↓c7,↓c8,↓c9,↓da,↓db,↓dc,↓dd,↓de,↓df,↓cm,↓cn,↓co,↓bJ,↓cL,↓be,↓c0,↓bZ,↓cJ,↓cT,↓dg,↓a2,↓aR,↓a3,↓aN,↓aJ,↓a4,↓cQ,↓b1,↓b7,↓cp,↓cq,↓cr,↓ct,↓cv,↓cw,↓cx,↓cy,↓dA,↓dB,↓dj,↓dM,↓cE,↓cF,↓cM,↓dn,b9,dT,b8,decide_eq_false_iff_not,ite_not,↓reduceIte,ba,az,bb,bE,bf,bP,cB,Nat.reduceAdd,bz,↓bk,Nat.reduceLeDiff,aD,cY,c3,dJ,dF,b4,↓e,eq_false ma,wx,eq_false dH,iz,if_neg eS,cA ar,gb]
theorem RM(s:ag)(kr y:Bool)(v1 v2:ae)(h r:List Nat)(ar:jK v1 h)(av:jK v2 r)(xI:h.length<9223372036854775807)(A:r.length<9223372036854775807):aA aL G X 113 [mN kr v1,mN y v2] s=.ok (.bool (iz kr h&&iz y r)) s:=by
 rw[GK,Rp];have u:=uP G X s.ai kr v1 h ar xI;have B:=uP G X s.ai y v2 r av A;cases e:iz kr h with
 |false=>rw[e] at u;simp -implicitDefEqProofs only[↓cI,↓cN,↓b0,↓bo,↓aF,↓aC,↓ax,↓aG,↓aO,↓aQ,↓ay,↓aH,↓aB,↓aW,↓a1,↓bg,↓dP,↓aI,↓bw,↓b5,↓c6,↓cd,↓cf,↓b6,↓cg,↓ch,↓ci,↓cj,↓ck,↓cl,↓bB,↓bC,↓bD,↓c7,↓c8,↓c9,↓da,↓db,↓dc,↓dd,↓de,↓df,↓cm,↓cn,↓co,↓bJ,↓cL,↓be,↓c0,↓bZ,↓cJ,↓cT,↓dg,↓a2,↓aR,↓a3,↓aN,↓aJ,↓a4,↓cQ,↓b1,↓b7,↓cp,↓cq,↓cr,↓ct,↓cv,↓cw,↓cx,↓cy,↓dA,↓dB,↓dj,↓dM,↓cE,↓cF,↓cM,↓dn,b9,dT,b8,decide_eq_false_iff_not,ite_not,↓reduceIte,ba,az,bb,bE,bf,bP,cB,Nat.reduceAdd,bz,↓bk,Nat.reduceLeDiff,aD,cY,c3,dJ,dF,b4,↓(a8 u),gb]
 |true=>rw[e] at u;simp -implicitDefEqProofs only[↓cI,↓cN,↓b0,↓bo,↓aF,↓aC,↓ax,↓aG,↓aO,↓aQ,↓ay,↓aH,↓aB,↓aW,↓a1,↓bg,↓dP,↓aI,↓bw,↓b5,↓c6,↓cd,↓cf,↓b6,↓cg,↓ch,↓ci,↓cj,↓ck,↓cl,↓bB,↓bC,↓bD,↓c7,↓c8,↓c9,↓da,↓db,↓dc,↓dd,↓de,↓df,↓cm,↓cn,↓co,↓bJ,↓cL,↓be,↓c0,↓bZ,↓cJ,↓cT,↓dg,↓a2,↓aR,↓a3,↓aN,↓aJ,↓a4,↓cQ,↓b1,↓b7,↓cp,↓cq,↓cr,↓ct,↓cv,↓cw,↓cx,↓cy,↓dA,↓dB,↓dj,↓dM,↓cE,↓cF,↓cM,↓dn,b9,dT,b8,decide_eq_false_iff_not,ite_not,↓reduceIte,ba,az,bb,bE,bf,bP,cB,Nat.reduceAdd,bz,↓bk,Nat.reduceLeDiff,aD,cY,c3,dJ,dF,b4,↓(a8 u),↓(a8 B),eI,if_true]
theorem DT(s:ag)(neg:Bool)(v:ae)(l:List Nat)(h:jK v l)(Y:dO l)(A:l.length<4294967296)(bN:(gh l).length≤128):
  ∃w,aA aL G X 115 [.bool neg,v] s=.ok (.d0 [mN (neg&&decide (gh l≠[])) w,.int .i64 0]) s∧jK w (gh l):=by
 have f4:=Child.ai s;have F:=fun(S:ag)=>mL G X S v l (h.rd _) (by omega)
 have aY:jK (pu v (hf l l.length)) (gh l):=h.cut _;generalize Z:pu v (hf l l.length)=ab at *;generalize hm:gh l=m at *;have y:=fun(S:ag) (k:bd)=>(aY.rd S).len (T:=aL) (G:=G) (X:=X) k S
 have H:¬(128:Int)<(m.length:Int):=by omega
 let e:=s.ai.new (.cells [.bool false,.bW 1 [] .nil])
 let r:=e.new (.cells (List.replicate m.length (U 0)))
 have A1:gW r e.own.length (List.replicate m.length 0):=gW.make _ _;have mk:=fun(k:bd)=>pS (T:=aL) (G:=G) (X:=X) (s:=e) (k:=k) (U 0) 4 m.length m.length (aD _) (by omega)
 have B:=fun(k:bd)=>A1.copy (T:=aL) (G:=G) (X:=X) (n:=m.length) (aY.rd r) (by simp) (by simp) k
 have ma:m++(List.replicate m.length 0).drop m.length=m:=by rw[List.drop_replicate,Nat.sub_self];simp
 rw[ma] at B;have A2:gW (r.put e.own.length m) e.own.length m:=A1.put m;have hY:Child s (r.put e.own.length m):=((f4.new _).new _).put _ _;have I:(r.put e.own.length m).own[0]? =some (.cells [.bool false,.bW 1 [] .nil]):=rfl;have fin:∀b:Bool,∃w,(aV aL G X).ih [.bool false,.bW 1 [] .nil] [(0,1,.bool b),(1,1,.cO (.l e.own.length) 0 m.length m.length 1)] (r.put e.own.length m) (fun J s=>(aV aL G X).bX s (fun ac s=>(aV aL G X).a0 false [k2 s (.ref (.l 0) 0) (some 2),some (.int .i64 0)] s) 2 (.ref (.l 0) 0) (ae.ap s.aa J))=.ok (.d0 [mN b w,.int .i64 0]) s∧jK w m:=fun b=>by
  have K:=fun(k:bd)=>s0 (T:=aL) (G:=G) (X:=X) (S:=r.put e.own.length m) (k:=k) (n:=2) (vs:=[.bool b,.cO (.g (r.put e.own.length m).aa e.own.length) 0 m.length m.length 1]) I rfl rfl rfl
  let u:ag:={r.put e.own.length m with own:=(r.put e.own.length m).own.set 0 (.cells [.bool b,.cO (.g (r.put e.own.length m).aa e.own.length) 0 m.length m.length 1])}
  have A3:gW u e.own.length m:=by have:u.own[1]? =(r.put e.own.length m).own[1]?:=lL (by decide);exact this.trans A2
  have M:Child s u:=⟨hY.up,hY.ro⟩;obtain⟨w,ar,av⟩:=nb (S:=u) (j:=e.own.length) (off:=0) (cap:=m.length) (n:=m.length) m rfl A3 (by rw[b9];exact i6 (by simp)) (by simp);refine⟨w,?_,av⟩;have A:∀k:bd,(aV aL G X).ih [.bool false,.bW 1 [] .nil] [(0,1,.bool b),(1,1,.cO (.l e.own.length) 0 m.length m.length 1)] (r.put e.own.length m) k=k (.agg [.bool b,.cO (.g (r.put e.own.length m).aa e.own.length) 0 m.length m.length 1]) (r.put e.own.length m):=fun k=>rfl
  rw[A,ba];refine(K _).trans ?_;have N:k2 u (.ref (.l 0) 0) (some 2)=some (.agg [.bool b,.cO (.g (r.put e.own.length m).aa e.own.length) 0 m.length m.length 1]):=vU (j:=0) (by rfl) rfl;show(aV aL G X).a0 false [k2 u (.ref (.l 0) 0) (some 2),some (.int .i64 0)] u=_;rw[N];refine kC M _ _ _ _ ?_ rfl;show(fl (eC u) [_,_]).map ae.agg=_;simp -implicitDefEqProofs only[fl];rw[show eC u (.bool b)=some (.bool b) from rfl,show eC u (.cO (.g (r.put e.own.length m).aa e.own.length) 0 m.length m.length 1)=some w from ar];rfl
 have O:decide ((0:Int)<(m.length:Int))=decide (m≠[]):=by
  congr 1;cases m with
  |nil=>simp
  |cons x m=>simp
 obtain⟨w,hw,V⟩:=fin (neg&&decide (m≠[]));refine⟨w,?_,V⟩;rw[GM,Rr,cI,h.ap,a8 (F _),y,bZ,bo,if_neg (by simpa using H),Dk,y];refine(mk _).trans ?_;refine(B _).trans ?_;rw[b6,b5];cases neg with
 |false=>exact hw
 |true=>
  rw[if_pos rfl]
  dsimp only
  rw[y,bZ,O];rw[eI] at hw;rw[eI];exact hw
theorem DU(s:ag)(v:ae)(l:List Nat)(h:jK v l)(r:dO l)(bN:l.length≤2):aA aL G X 116 [v] s=.ok (.int .u64 (val l:Int)) s:=by
 have f4:=Child.ai s;have u:=fun(S:ag) (k:bd)=>(h.rd S).len (T:=aL) (G:=G) (X:=X) k S
 have step:∀(i x:Nat),i<l.length→x=val (l.take i)→nV (aV aL G X) v (.int .u64 (x:Int)) (.int .i64 (l.length:Int)) (.int .i64 (i:Int)) s.ai=nV (aV aL G X) v (.int .u64 ((val (l.take (i+1)):Nat):Int)) (.int .i64 (l.length:Int)) (.int .i64 ((i+1:Nat):Int)) s.ai:=fun i x bL a5=>by
  have ar:(i:Int)<(l.length:Int):=by omega
  have g:=fun(k:bd)=>(h.rd s.ai).get (T:=aL) (G:=G) (X:=X) .i64 i bL k
  have cP:=r.getD i;rw[kO] at cP;have A:=fun(S:ag) (k:bd)=>hS (T:=aL) (G:=G) (X:=X) (s:=S) (k:=k) (l.getD i 0) cP
  have BD:∀(S:ag) (k:bd),(aV aL G X).aj S k (al .mul (.int .i64 32) (.int .i64 (i:Int)))=k (.int .i64 ((32*i:Nat):Int)) S:=fun S k=>by rw[f0,eP _ (by omega) (by omega)];congr 2
  have s1:=fun(S:ag) (k:bd)=>zO (T:=aL) (G:=G) (X:=X) (s:=S) (k:=k) .i64 (l.getD i 0) (32*i) (by omega)
  have B:=fun(S:ag) (lN:bd)=>hT (T:=aL) (G:=G) (X:=X) (s:=S) (k:=lN) i (by omega)
  have F:=hV (l.take i) (r.take i);have hle:(l.take i).length=i:=by simp;omega
  rw[hle,tW,←Nat.pow_mul] at F;have vs:=val_succ l i bL;have gU:∀(S:ag) (k:bd),(aV aL G X).aj S k (al .or (.int .u64 (x:Int)) (.int .u64 ((l.getD i 0*2^(32*i)%18446744073709551616:Nat):Int)))=k (.int .u64 ((val (l.take (i+1)):Nat):Int)) S:=fun S k=>by
   have H:l.getD i 0*2^(32*i)<18446744073709551616-2^(32*i)+1:=by
    have:i=0∨i=1:=by omega
    rcases this with rfl |rfl
    ·show l.getD 0 0*1<18446744073709551616-1+1;omega
    ·show l.getD 1 0*4294967296<18446744073709551616-4294967296+1;omega
   have fz:2^(32*i)≤4294967296:=by
    have:i=0∨i=1:=by omega
    rcases this with rfl |rfl <;> simp
   rw[hA (by omega)];have e:al .or (.int .u64 (x:Int)) (.int .u64 ((l.getD i 0*2^(32*i):Nat):Int))=some (.int .u64 (IntKind.wrap .u64 ((BitVec.ofInt 64 (x:Int) ||| BitVec.ofInt 64 ((l.getD i 0*2^(32*i):Nat):Int)).toNat:Int))):=by simp -implicitDefEqProofs only[al,gr,↓reduceIte];rfl
   rw[e,EL _ _ (by omega) (by omega),cN,iO];congr 2
   have:x ||| l.getD i 0*2^(32*i)=x+l.getD i 0*2^(32*i):=by rw[Nat.or_comm,ez,←Nat.two_pow_add_eq_or_of_lt (by omega),Nat.add_comm]
   rw[this,vs,a5,tW,←Nat.pow_mul,ez (2^(32*i))];omega
  rw[tP,be,bo,if_pos (by simpa using ar),Dm,g,A,BD,s1,gU,Dl,B]
 have last:nV (aV aL G X) v (.int .u64 (val l:Int)) (.int .i64 (l.length:Int)) (.int .i64 (l.length:Int)) s.ai=.ok (.int .u64 (val l:Int)) s:=by rw[tP,be,bo,if_neg (by simp),Dn,aN]
 rw[GN,Rs,u]
 match l,bN with
 |[],_=>exact last
 |[x],_=>exact(step 0 0 (by simp) rfl).trans last
 |[x,y],_=>exact((step 0 0 (by simp) rfl).trans (step 1 _ (by simp) rfl)).trans last
theorem fU{s:ag}{k:bd}(op:bd→ah):(aV aL G X).af (.bool true) true op s k=op k:=rfl
theorem gB{s:ag}{k:bd}(op:bd→ah):(aV aL G X).af (.bool false) true op s k=k (.d0 []) s:=rfl
theorem eV{s:ag}{k:bd}(op:bd→ah):(aV aL G X).af (.bool false) false op s k=op k:=rfl
theorem hg{s:ag}{k:bd}(op:bd→ah):(aV aL G X).af (.bool true) false op s k=k (.d0 []) s:=rfl
theorem fD{s:ag}{k:bd}(a b:ae):(aV aL G X).bS s k (.bool true) a b=k a s:=rfl
theorem eY{s:ag}{k:bd}(a b:ae):(aV aL G X).bS s k (.bool false) a b=k b s:=rfl
theorem ek(a b:ah):(aV aL G X).aP (.bool true) a b=a:=rfl
theorem ee(a b:ah):(aV aL G X).aP (.bool false) a b=b:=rfl
theorem DV{s S:ag}(f4:Child s S){j:Nat}{cs:List ae}(h:S.own[j]? =some (.cells cs))(aY:cs.length=2)(b:Bool){w:ae}{m:List Nat}(hw:jK w m)(n:Int):
  (aV aL G X).bX S (fun e s=>(aV aL G X).a0 false [k2 s (.ref (.l j) 0) (some 2),some (.int .i64 n)] s) 2 (.ref (.l j) 0) (.agg [.bool b,w])=.ok (.d0 [mN b w,.int .i64 n]) s:=by
 rw[s0 (n:=2) h rfl aY (by simp -implicitDefEqProofs only[List.all_cons,hw.eB,List.all_nil];rfl)];have cX:=(ec.1 h).1;rw[vU (n:=2) (cs:=[.bool b,w]) (by simp [cX]) rfl];have hY:Child s {S with own:=S.own.set j (.cells [.bool b,w])}:=⟨f4.up,f4.ro⟩;refine kC hY (.agg [.bool b,w]) (.int .i64 n) (.agg [.bool b,w]) (.int .i64 n) ?_ rfl;show(fl (eC _) [_,_]).map ae.agg=_;simp -implicitDefEqProofs only[fl];rw[hw.eC,show eC _ (.bool b)=some (.bool b) from rfl];rfl
theorem G1(s S:ag)(f4:Child s S)(y:S.own[0]? =some (.cells [.bool false,.bW 1 [] .nil])):∀(b m n:Nat),m<b→n<18446744073709551616→m<18446744073709551616→
  ∃w r,uy (aV aL G X) (.ref (.l 0) 0) (.int .u64 (n:Int)) (.int .u64 (m:Int)) S=.ok (.d0 [mN false w,.int .i64 0]) s∧jK w r∧dO r∧fb r∧val r=Nat.gcd n m:=by
 intro b
 induction b with
 |zero=>intro m n h;omega
 |succ b A=>
  intro m n K dm hm;rw[Fs,bZ];by_cases eS:m=0
  ·subst eS;have B:=fun(S:ag) (k:bd)=>dn (T:=aL) (G:=G) (X:=X) (s:=S) (k:=k) .u64 n
   have F:=fun(S:ag) (k:bd)=>dn (T:=aL) (G:=G) (X:=X) (s:=S) (k:=k) .u64 (n/4294967296)
   have e8:=fun(k:bd)=>tD (T:=aL) (G:=G) (X:=X) (s:=S) (k:=k) [n%4294967296,n/4294967296%4294967296]
   have ao:=jK.e8 [n%4294967296,n/4294967296%4294967296];have e:dO [n%4294967296,n/4294967296%4294967296]:=fun x a5=>by rw[kO];simp at a5;omega
   have bM:val [n%4294967296,n/4294967296%4294967296]=n:=by simp -implicitDefEqProofs only[val,kO];omega
   have bN:(gh [n%4294967296,n/4294967296%4294967296]).length≤128:=by
    rw[ik]
    have:=jC [n%4294967296,n/4294967296%4294967296] 2;exact Nat.le_trans this (by decide)
   obtain⟨w,H,u⟩:=DT G X S false _ _ ao e (by simp) bN;refine⟨w,_,?_,u,lx e,jq _,by rw[kk,bM,Nat.gcd_zero_right]⟩;rw[show decide ((0:Int)<((0:Nat):Int))=false from rfl,ee,Fq,B,cF,F];refine(e8 _).trans ?_;rw[ao.ap,bb,a8 H,gA 0 _ _ rfl,gA 1 _ _ rfl,ba];exact DV G X f4 y rfl _ u 0
  ·have ar:(0:Int)<(m:Int):=by omega
   obtain⟨w,r,av,bV,dD,I,J⟩:=A (n%m) m (by have:=Nat.mod_lt n (Nat.pos_of_ne_zero eS);omega) hm (by have:=Nat.mod_lt n (Nat.pos_of_ne_zero eS);omega);refine⟨w,r,?_,bV,dD,I,by rw[J,Nat.gcd_comm,←Nat.gcd_rec,Nat.gcd_comm]⟩;rw[dQ ar,ek,Fp,zN _ _ eS];exact av
theorem G2(s S:ag)(f4:Child s S)(Z:S.own[0]? =some (.cells [.bool false,.bW 1 [] .nil])):∀(b:Nat) (u A:ae) (x y:List Nat),val y<b→jK u x→jK A y→dO x→dO y→fb x→fb y→x.length≤128→y.length≤128→
  ∃w r,uz (aV aL G X) (.ref (.l 0) 0) u A S=.ok (.d0 [mN false w,.int .i64 0]) s∧jK w r∧dO r∧fb r∧val r=Nat.gcd (val x) (val y):=by
 intro b
 induction b with
 |zero=>intro u A x y h;omega
 |succ b aj=>
  intro u A x y az H I F K O U ak aa;have M:=fun(S:ag) (k:bd)=>(H.rd S).len (T:=aL) (G:=G) (X:=X) k S
  have J:=fun(S:ag) (k:bd)=>(I.rd S).len (T:=aL) (G:=G) (X:=X) k S
  have ab:(y=[]∨(x.length≤2∧y.length≤2))→∃w r,z9 (aV aL G X) (.ref (.l 0) 0) u A S=.ok (.d0 [mN false w,.int .i64 0]) s∧jK w r∧dO r∧fb r∧val r=Nat.gcd (val x) (val y):=fun ac=>by
   by_cases av:x.length≤2
   ·have ad:y.length≤2:=by
     rcases ac with h|h
     ·subst h;simp
     ·exact h.2
    have small:∀l:List Nat,dO l→l.length≤2→val l<18446744073709551616:=fun l al bN=>by
     have bV:=hV l al;have dD:B^l.length≤B^2:=oB bN;have aA:B^2=18446744073709551616:=by decide
     omega
    obtain⟨w,r,hj,g2⟩:=G1 G X s S f4 Z (val y+1) (val y) (val x) (by omega) (small x F av) (small y K ad);refine⟨w,r,?_,g2⟩;have e:¬(2:Int)<(x.length:Int):=by omega
    rw[wy,M,bZ,cA e,ee,Ft,H.ap,a8 (DU G X S u x H F av),I.ap,a8 (DU G X S A y I K ad)];exact hj
   ·have eM:y=[]:=by
     rcases ac with h|h
     ·exact h
     ·exact absurd h.1 av
    subst eM;have e:(2:Int)<(x.length:Int):=by omega
    have af:gh x=x:=by have ar:=kk x;exact val_inj (lx F) F (wV (lx F) F (jq x) O ar) ar
    obtain⟨w,am,V⟩:=DT G X S false u x H F (by omega) (by rw[af];exact ak);rw[af] at V;refine⟨w,x,?_,V,F,O,by simp [val]⟩;rw[wy,M,bZ,dQ e,ek,H.ap,bb,a8 am,gA 0 _ _ rfl,gA 1 _ _ rfl,ba];exact DV G X f4 Z rfl _ V 0
  by_cases eM:y=[]
  ·obtain⟨w,r,hj,g2⟩:=ab (.inl eM);refine⟨w,r,?_,g2⟩;have e:¬(0:Int)<(y.length:Int):=by subst eM;simp
   rw[oA,J,bZ,cA e];simp -implicitDefEqProofs only[gB,eY,ee];exact hj
  ·have e:(0:Int)<(y.length:Int):=by have:=List.length_pos_iff.2 eM;omega
   have an:val y≠0:=fun h=>eM ((tV U).1 h)
   have ah:∃w r,z8 (aV aL G X) (.ref (.l 0) 0) u A S=.ok (.d0 [mN false w,.int .i64 0]) s∧jK w r∧dO r∧fb r∧val r=Nat.gcd (val x) (val y):=by
    obtain⟨v,w,q,r,aq,aB,aC,aD,ao,or,ai,eq,au⟩:=RL G X S u A x y H I F K O U eM (by omega) (by omega);have aE:=Nat.mod_lt (val x) (Nat.pos_of_ne_zero an);have aw:r.length≤128:=by have bV:=hV y K;have dD:B^y.length≤B^128:=oB aa;exact qO ai (by omega)
    obtain⟨ax,q6,hj,g2,ay,ns,im⟩:=aj A w y r (by omega) I ao K or U ai aa aw;refine⟨ax,q6,?_,g2,ay,ns,by rw[im,au,Nat.gcd_comm,←Nat.gcd_rec,Nat.gcd_comm]⟩;rw[Fo,H.ap,I.ap,a8 aq,gA 0 _ v rfl,gA 1 _ w rfl];exact hj
   by_cases av:2<x.length
   ·obtain⟨w,r,hj,g2⟩:=ah;refine⟨w,r,?_,g2⟩;have N:(2:Int)<(x.length:Int):=by omega
    rw[oA,J,bZ,dQ e];simp -implicitDefEqProofs only[fU,hg,fD,ek,↓M,↓bZ,dQ N];exact hj
   ·have N:¬(2:Int)<(x.length:Int):=by omega
    by_cases bV:2<y.length
    ·obtain⟨w,r,hj,g2⟩:=ah;refine⟨w,r,?_,g2⟩;have Y:(2:Int)<(y.length:Int):=by omega
     rw[oA,J,bZ,dQ e];simp -implicitDefEqProofs only[fU,hg,eV,fD,eY,ek,↓M,↓J,↓bZ,cA N,dQ Y];exact hj
    ·obtain⟨w,r,hj,g2⟩:=ab (.inr ⟨by omega,by omega⟩);refine⟨w,r,?_,g2⟩;have Y:¬(2:Int)<(y.length:Int):=by omega
     rw[oA,J,bZ,dQ e];simp -implicitDefEqProofs only[fU,hg,eV,fD,eY,ee,↓M,↓J,↓bZ,cA N,cA Y];exact hj
theorem nA{n:Bool}{l:List Nat}(h:iz n l=true):fb l∧l.length≤128:=by
 unfold iz at h;split at h
 ·rename_i eS;exact⟨fun eR=>absurd (jE eS) eR,by omega⟩
 ·simp -implicitDefEqProofs only[bl,b8] at h;exact⟨fun _=>h.2,h.1⟩
theorem Yq(s:ag)(kr e:Bool)(v1 v2:ae)(x y:List Nat)(h:jK v1 x)(u:jK v2 y)(B:dO x)(F:dO y)(a5:iz kr x=true)(eM:iz e y=true):
  ∃w r,aA aL G X 90 [mN kr v1,mN e v2] s=.ok (.d0 [mN false w,.int .i64 0]) s∧jK w r∧dO r∧fb r∧val r=Nat.gcd (val x) (val y):=by
 obtain⟨H,I⟩:=nA a5;obtain⟨J,K⟩:=nA eM;have f4:Child s (s.ai.new (.cells [.bool false,.bW 1 [] .nil])):=(Child.ai s).new _;obtain⟨w,r,ar,av⟩:=G2 G X s _ f4 (by rfl) (val y+1) v1 v2 x y (by omega) h u B F H J I K;refine⟨w,r,?_,av⟩;have A:=RM G X (s.ai.new (.cells [.bool false,.bW 1 [] .nil])) kr e v1 v2 x y h u (by omega) (by omega);rw[a5,eM,bz] at A;rw[Ln,XN];simp -implicitDefEqProofs only[↓cI,↓cN,↓b0,↓bo,↓aF,↓aC,↓ax,↓aG,↓aO,↓aQ,↓ay,↓aH,↓aB,↓aW,↓a1,↓bg,↓dP,↓aI,↓bw,↓b5,↓c6,↓cd,↓cf,↓b6,↓cg,↓ch,↓ci,↓cj,↓ck,↓cl,↓bB,↓bC,↓bD,↓c7,↓c8,↓c9,↓da,↓db,↓dc,↓dd,↓de,↓df,↓cm,↓cn,↓co,↓bJ,↓cL,↓be,↓c0,↓bZ,↓cJ,↓cT,↓dg,↓a2,↓aR,↓a3,↓aN,↓aJ,↓a4,↓cQ,↓b1,↓b7,↓cp,↓cq,↓cr,↓ct,↓cv,↓cw,↓cx,↓cy,↓dA,↓dB,↓dj,↓dM,↓cE,↓cF,↓cM,↓dn,b9,dT,b8,decide_eq_false_iff_not,ite_not,↓reduceIte,ba,az,bb,bE,bf,bP,cB,Nat.reduceAdd,bz,↓bk,Nat.reduceLeDiff,aD,cY,c3,dJ,dF,b4,↓(a8 A),hk,Fu];exact ar
def s7(n:Bool)(l:List Nat):Bool:= !n&&decide (l=[1])
theorem L5{l:List Nat}(h:l.length=1):l=[1]↔l.getD 0 0=1:=by
 match l,h with
 |[x],_=>simp [List.getD]
theorem KB(s:ag)(n:Bool)(v:ae)(l:List Nat)(h:jK v l):aA aL G X 89 [mN n v] s=.ok (.bool (s7 n l)) s:=by
 have r:=fun(S:ag) (k:bd)=>(h.rd S).len (T:=aL) (G:=G) (X:=X) k S
 rw[Lq,XQ];cases n with
 |true=>simp -implicitDefEqProofs only[↓cI,↓cN,↓b0,↓bo,↓aF,↓aC,↓ax,↓aG,↓aO,↓aQ,↓ay,↓aH,↓aB,↓aW,↓a1,↓bg,↓dP,↓aI,↓bw,↓b5,↓c6,↓cd,↓cf,↓b6,↓cg,↓ch,↓ci,↓cj,↓ck,↓cl,↓bB,↓bC,↓bD,↓c7,↓c8,↓c9,↓da,↓db,↓dc,↓dd,↓de,↓df,↓cm,↓cn,↓co,↓bJ,↓cL,↓be,↓c0,↓bZ,↓cJ,↓cT,↓dg,↓a2,↓aR,↓a3,↓aN,↓aJ,↓a4,↓cQ,↓b1,↓b7,↓cp,↓cq,↓cr,↓ct,↓cv,↓cw,↓cx,↓cy,↓dA,↓dB,↓dj,↓dM,↓cE,↓cF,↓cM,↓dn,b9,dT,b8,decide_eq_false_iff_not,ite_not,↓reduceIte,ba,az,bb,bE,bf,bP,cB,Nat.reduceAdd,bz,↓bk,Nat.reduceLeDiff,aD,cY,c3,dJ,dF,b4,hk,s7,gb]
 |false=>
  by_cases ar:l.length=1
  ·have e:(l.length:Int)=1:=by omega
   have g:=fun(k:bd)=>(h.rd s.ai).get (T:=aL) (G:=G) (X:=X) .i64 0 (by omega) k
   have g':∀k:bd,(aV aL G X).cc s.ai (fun v S=>(aV aL G X).aw S k none v) 1 v (.int .i64 0)=k (U (l.getD 0 0)) s.ai:=g;simp -implicitDefEqProofs only[↓cI,↓cN,↓b0,↓bo,↓aF,↓aC,↓ax,↓aG,↓aO,↓aQ,↓ay,↓aH,↓aB,↓aW,↓a1,↓bg,↓dP,↓aI,↓bw,↓b5,↓c6,↓cd,↓cf,↓b6,↓cg,↓ch,↓ci,↓cj,↓ck,↓cl,↓bB,↓bC,↓bD,↓c7,↓c8,↓c9,↓da,↓db,↓dc,↓dd,↓de,↓df,↓cm,↓cn,↓co,↓bJ,↓cL,↓be,↓c0,↓bZ,↓cJ,↓cT,↓dg,↓a2,↓aR,↓a3,↓aN,↓aJ,↓a4,↓cQ,↓b1,↓b7,↓cp,↓cq,↓cr,↓ct,↓cv,↓cw,↓cx,↓cy,↓dA,↓dB,↓dj,↓dM,↓cE,↓cF,↓cM,↓dn,b9,dT,b8,decide_eq_false_iff_not,ite_not,↓reduceIte,ba,az,bb,bE,bf,bP,cB,Nat.reduceAdd,bz,↓bk,Nat.reduceLeDiff,aD,cY,c3,dJ,dF,b4,g7,s7,eI,↓r,eq_true e,↓g'];congr 3;rw[eq_iff_iff,L5 ar];omega
  ·have e:¬(l.length:Int)=1:=by omega
   have:¬l=[1]:=fun e=>ar (by rw[e];rfl)
   simp -implicitDefEqProofs only[↓cI,↓cN,↓b0,↓bo,↓aF,↓aC,↓ax,↓aG,↓aO,↓aQ,↓ay,↓aH,↓aB,↓aW,↓a1,↓bg,↓dP,↓aI,↓bw,↓b5,↓c6,↓cd,↓cf,↓b6,↓cg,↓ch,↓ci,↓cj,↓ck,↓cl,↓bB,↓bC,↓bD,↓c7,↓c8,↓c9,↓da,↓db,↓dc,↓dd,↓de,↓df,↓cm,↓cn,↓co,↓bJ,↓cL,↓be,↓c0,↓bZ,↓cJ,↓cT,↓dg,↓a2,↓aR,↓a3,↓aN,↓aJ,↓a4,↓cQ,↓b1,↓b7,↓cp,↓cq,↓cr,↓ct,↓cv,↓cw,↓cx,↓cy,↓dA,↓dB,↓dj,↓dM,↓cE,↓cF,↓cM,↓dn,b9,dT,b8,decide_eq_false_iff_not,ite_not,↓reduceIte,ba,az,bb,bE,bf,bP,cB,Nat.reduceAdd,bz,↓bk,Nat.reduceLeDiff,aD,cY,c3,dJ,dF,b4,g7,s7,eI,↓r,eq_false e,eq_false this]
theorem Yr(s:ag)(n:Bool)(v:ae)(l:List Nat)(h:jK v l):aA aL G X 88 [mN n v] s=.ok (.bool (decide (l=[]))) s:=by
 have e:=fun(S:ag) (k:bd)=>(h.rd S).len (T:=aL) (G:=G) (X:=X) k S
 rw[Lp,XP];simp -implicitDefEqProofs only[↓cI,↓cN,↓b0,↓bo,↓aF,↓aC,↓ax,↓aG,↓aO,↓aQ,↓ay,↓aH,↓aB,↓aW,↓a1,↓bg,↓dP,↓aI,↓bw,↓b5,↓c6,↓cd,↓cf,↓b6,↓cg,↓ch,↓ci,↓cj,↓ck,↓cl,↓bB,↓bC,↓bD,↓c7,↓c8,↓c9,↓da,↓db,↓dc,↓dd,↓de,↓df,↓cm,↓cn,↓co,↓bJ,↓cL,↓be,↓c0,↓bZ,↓cJ,↓cT,↓dg,↓a2,↓aR,↓a3,↓aN,↓aJ,↓a4,↓cQ,↓b1,↓b7,↓cp,↓cq,↓cr,↓ct,↓cv,↓cw,↓cx,↓cy,↓dA,↓dB,↓dj,↓dM,↓cE,↓cF,↓cM,↓dn,b9,dT,b8,decide_eq_false_iff_not,ite_not,↓reduceIte,ba,az,bb,bE,bf,bP,cB,Nat.reduceAdd,bz,↓bk,Nat.reduceLeDiff,aD,cY,c3,dJ,dF,b4,↓e];congr 3;rw[eq_iff_iff];cases l<;> simp <;> omega
def nh(kr e:Bool)(x y:List Nat):Bool:=iz kr x&&iz e y&& !e&&decide (y≠[])&&decide (Nat.gcd (val x) (val y)=1)
theorem DW{l:List Nat}(e:dO l)(r:fb l):l=[1]↔val l=1:=by
 constructor
 ·intro h;subst h;simp [val]
 ·intro h;have gU:dO [1]:=fun x a5=>by rw[List.mem_singleton.1 a5,kO];omega
  have u:fb [1]:=fun _=>by simp
  have v1:val [1]=1:=by simp [val]
  exact val_inj e gU (wV e gU r u (by rw[h,v1])) (by rw[h,v1])
theorem Ys(s:ag)(kr h:Bool)(v1 v2:ae)(x y:List Nat)(F:jK v1 x)(B:jK v2 y)(J:dO x)(H:dO y)(K:x.length<9223372036854775807)(M:y.length<9223372036854775807):
  aA aL G X 71 [.agg [.bool kr,v1,.bool h,v2]] s=.ok (.bool (nh kr h x y)) s:=by
 have u:=uP G X s.ai kr v1 x F K;have A:=uP G X s.ai h v2 y B M;have lz:=Yr G X s.ai h v2 y B;have N:=KB G X s.ai h v2 y B;rw[Lo,XO];cases dH:iz kr x with
 |false=>rw[dH] at u;simp -implicitDefEqProofs only[↓cI,↓cN,↓b0,↓bo,↓aF,↓aC,↓ax,↓aG,↓aO,↓aQ,↓ay,↓aH,↓aB,↓aW,↓a1,↓bg,↓dP,↓aI,↓bw,↓b5,↓c6,↓cd,↓cf,↓b6,↓cg,↓ch,↓ci,↓cj,↓ck,↓cl,↓bB,↓bC,↓bD,↓c7,↓c8,↓c9,↓da,↓db,↓dc,↓dd,↓de,↓df,↓cm,↓cn,↓co,↓bJ,↓cL,↓be,↓c0,↓bZ,↓cJ,↓cT,↓dg,↓a2,↓aR,↓a3,↓aN,↓aJ,↓a4,↓cQ,↓b1,↓b7,↓cp,↓cq,↓cr,↓ct,↓cv,↓cw,↓cx,↓cy,↓dA,↓dB,↓dj,↓dM,↓cE,↓cF,↓cM,↓dn,b9,dT,b8,decide_eq_false_iff_not,ite_not,↓reduceIte,ba,az,bb,bE,bf,bP,cB,Nat.reduceAdd,bz,↓bk,Nat.reduceLeDiff,aD,cY,c3,dJ,dF,b4,↓(a8 u),g7,nh,dH,gb]
 |true=>
  rw[dH] at u;cases e:iz h y with
  |false=>rw[e] at A;simp -implicitDefEqProofs only[↓cI,↓cN,↓b0,↓bo,↓aF,↓aC,↓ax,↓aG,↓aO,↓aQ,↓ay,↓aH,↓aB,↓aW,↓a1,↓bg,↓dP,↓aI,↓bw,↓b5,↓c6,↓cd,↓cf,↓b6,↓cg,↓ch,↓ci,↓cj,↓ck,↓cl,↓bB,↓bC,↓bD,↓c7,↓c8,↓c9,↓da,↓db,↓dc,↓dd,↓de,↓df,↓cm,↓cn,↓co,↓bJ,↓cL,↓be,↓c0,↓bZ,↓cJ,↓cT,↓dg,↓a2,↓aR,↓a3,↓aN,↓aJ,↓a4,↓cQ,↓b1,↓b7,↓cp,↓cq,↓cr,↓ct,↓cv,↓cw,↓cx,↓cy,↓dA,↓dB,↓dj,↓dM,↓cE,↓cF,↓cM,↓dn,b9,dT,b8,decide_eq_false_iff_not,ite_not,↓reduceIte,ba,az,bb,bE,bf,bP,cB,Nat.reduceAdd,bz,↓bk,Nat.reduceLeDiff,aD,cY,c3,dJ,dF,b4,↓(a8 u),↓(a8 A),hk,g7,nh,dH,e,gb,Bool.and_false]
  |true=>
   rw[e] at A;cases h with
   |true=>simp -implicitDefEqProofs only[↓cI,↓cN,↓b0,↓bo,↓aF,↓aC,↓ax,↓aG,↓aO,↓aQ,↓ay,↓aH,↓aB,↓aW,↓a1,↓bg,↓dP,↓aI,↓bw,↓b5,↓c6,↓cd,↓cf,↓b6,↓cg,↓ch,↓ci,↓cj,↓ck,↓cl,↓bB,↓bC,↓bD,↓c7,↓c8,↓c9,↓da,↓db,↓dc,↓dd,↓de,↓df,↓cm,↓cn,↓co,↓bJ,↓cL,↓be,↓c0,↓bZ,↓cJ,↓cT,↓dg,↓a2,↓aR,↓a3,↓aN,↓aJ,↓a4,↓cQ,↓b1,↓b7,↓cp,↓cq,↓cr,↓ct,↓cv,↓cw,↓cx,↓cy,↓dA,↓dB,↓dj,↓dM,↓cE,↓cF,↓cM,↓dn,b9,dT,b8,decide_eq_false_iff_not,ite_not,↓reduceIte,ba,az,bb,bE,bf,bP,cB,Nat.reduceAdd,bz,↓bk,Nat.reduceLeDiff,aD,cY,c3,dJ,dF,b4,↓(a8 u),↓(a8 A),hk,nh,dH,e,gb,Bool.and_false]
   |false=>
    by_cases eM:y=[]
    ·simp -implicitDefEqProofs only[↓cI,↓cN,↓b0,↓bo,↓aF,↓aC,↓ax,↓aG,↓aO,↓aQ,↓ay,↓aH,↓aB,↓aW,↓a1,↓bg,↓dP,↓aI,↓bw,↓b5,↓c6,↓cd,↓cf,↓b6,↓cg,↓ch,↓ci,↓cj,↓ck,↓cl,↓bB,↓bC,↓bD,↓c7,↓c8,↓c9,↓da,↓db,↓dc,↓dd,↓de,↓df,↓cm,↓cn,↓co,↓bJ,↓cL,↓be,↓c0,↓bZ,↓cJ,↓cT,↓dg,↓a2,↓aR,↓a3,↓aN,↓aJ,↓a4,↓cQ,↓b1,↓b7,↓cp,↓cq,↓cr,↓ct,↓cv,↓cw,↓cx,↓cy,↓dA,↓dB,↓dj,↓dM,↓cE,↓cF,↓cM,↓dn,b9,dT,b8,decide_eq_false_iff_not,ite_not,↓reduceIte,ba,az,bb,bE,bf,bP,cB,Nat.reduceAdd,bz,↓bk,Nat.reduceLeDiff,aD,cY,c3,dJ,dF,b4,↓(a8 u),↓(a8 A),↓(a8 lz),hk,nh,dH,e,eM,gb,Bool.and_false,ne_eq,not_true_eq_false]
    ·obtain⟨O,ab⟩:=nA e;simp -implicitDefEqProofs only[↓cI,↓cN,↓b0,↓bo,↓aF,↓aC,↓ax,↓aG,↓aO,↓aQ,↓ay,↓aH,↓aB,↓aW,↓a1,↓bg,↓dP,↓aI,↓bw,↓b5,↓c6,↓cd,↓cf,↓b6,↓cg,↓ch,↓ci,↓cj,↓ck,↓cl,↓bB,↓bC,↓bD,↓c7,↓c8,↓c9,↓da,↓db,↓dc,↓dd,↓de,↓df,↓cm,↓cn,↓co,↓bJ,↓cL,↓be,↓c0,↓bZ,↓cJ,↓cT,↓dg,↓a2,↓aR,↓a3,↓aN,↓aJ,↓a4,↓cQ,↓b1,↓b7,↓cp,↓cq,↓cr,↓ct,↓cv,↓cw,↓cx,↓cy,↓dA,↓dB,↓dj,↓dM,↓cE,↓cF,↓cM,↓dn,b9,dT,b8,decide_eq_false_iff_not,ite_not,↓reduceIte,ba,az,bb,bE,bf,bP,cB,Nat.reduceAdd,bz,↓bk,Nat.reduceLeDiff,aD,cY,c3,dJ,dF,b4,↓(a8 u),↓(a8 A),↓(a8 lz),↓(a8 N),hk,nh,dH,e,eq_false eM,g7,eI,ne_eq,not_false_eq_true,Fw];by_cases ar:y=[1]
     ·have:Nat.gcd (val x) (val y)=1:=by rw[(DW H O).1 ar,Nat.gcd_one_right]
      simp -implicitDefEqProofs only[s7,g7,eI,dQ ar,eq_true this,↓cI,↓cN,↓b0,↓bo,↓aF,↓aC,↓ax,↓aG,↓aO,↓aQ,↓ay,↓aH,↓aB,↓aW,↓a1,↓bg,↓dP,↓aI,↓bw,↓b5,↓c6,↓cd,↓cf,↓b6,↓cg,↓ch,↓ci,↓cj,↓ck,↓cl,↓bB,↓bC,↓bD,↓c7,↓c8,↓c9,↓da,↓db,↓dc,↓dd,↓de,↓df,↓cm,↓cn,↓co,↓bJ,↓cL,↓be,↓c0,↓bZ,↓cJ,↓cT,↓dg,↓a2,↓aR,↓a3,↓aN,↓aJ,↓a4,↓cQ,↓b1,↓b7,↓cp,↓cq,↓cr,↓ct,↓cv,↓cw,↓cx,↓cy,↓dA,↓dB,↓dj,↓dM,↓cE,↓cF,↓cM,↓dn,b9,dT,b8,decide_eq_false_iff_not,ite_not,↓reduceIte,ba,az,bb,bE,bf,bP,cB,Nat.reduceAdd,bz,↓bk,Nat.reduceLeDiff,aD,cY,c3,dJ,dF,b4,if_true]
     ·obtain⟨w,r,U,I,or,V,Y⟩:=Yq G X s.ai kr false v1 v2 x y F B J H dH e;have Z:=fun S:ag=>KB G X S false w r I
      have aa:=fun(k:bd)=>cQ (T:=aL) (G:=G) (X:=X) (s:=s.ai) (k:=k) 2 [.bool false,w] [.bool false,.bW 1 [] .nil] rfl rfl (by simp -implicitDefEqProofs only[List.all_cons,I.eB,List.all_nil];rfl)
      simp -implicitDefEqProofs only[s7,g7,eI,cA ar,b4,if_false,Fv,↓cI,↓cN,↓b0,↓bo,↓aF,↓aC,↓ax,↓aG,↓aO,↓aQ,↓ay,↓aH,↓aB,↓aW,↓a1,↓bg,↓dP,↓aI,↓bw,↓b5,↓c6,↓cd,↓cf,↓b6,↓cg,↓ch,↓ci,↓cj,↓ck,↓cl,↓bB,↓bC,↓bD,↓c7,↓c8,↓c9,↓da,↓db,↓dc,↓dd,↓de,↓df,↓cm,↓cn,↓co,↓bJ,↓cL,↓be,↓c0,↓bZ,↓cJ,↓cT,↓dg,↓a2,↓aR,↓a3,↓aN,↓aJ,↓a4,↓cQ,↓b1,↓b7,↓cp,↓cq,↓cr,↓ct,↓cv,↓cw,↓cx,↓cy,↓dA,↓dB,↓dj,↓dM,↓cE,↓cF,↓cM,↓dn,b9,dT,b8,decide_eq_false_iff_not,ite_not,↓reduceIte,ba,az,bb,bE,bf,bP,cB,Nat.reduceAdd,bz,↓bk,Nat.reduceLeDiff,aD,cY,c3,dJ,dF,b4,↓(a8 U),↓ot,↓ou,↓aa,↓(a8 (Z _))];rw[jA ((Child.ai s).new _)];congr 3;rw[eq_iff_iff,DW or V,Y]
end Go.gl
end
section
namespace Go.hC
theorem getD_none(l:List Nat)(i:Nat)(h:l.length≤i):l.getD i 0=0:=by simp only[List.getD];rw[List.getElem?_eq_none h];rfl
end Go.hC
end
section
namespace Go.gl
open Go.Ab Go.hC
variable(G:Nat→ae)(X:Nat→List ae→ag→ah)
abbrev I(n:Int):ae:=.int .i64 n
structure h0 where
 neg:Bool
 p3:List Nat
 g:eZ
def h0.v(n:h0):ae:=.bW 1 (n.p3.map U) n.g
structure oX (n:h0):Prop where
 g:∀a,n.g≠.dx a
 ok:dO n.p3
 len:n.p3.length<9223372036854775807
theorem oX.jG{n:h0}(h:oX n):jK n.v n.p3:=⟨n.g,rfl,h.g⟩
structure aT where
 name:List Nat
 op:Int
 args:List Int
 wX:eZ
 iC:h0
 bT:h0
 qL:h0
 pU:h0
 nD:Int
abbrev iS(l:List Int)(g:eZ):ae:=.bW 1 (l.map I) g
def aT.cs(x:aT):List ae:=[.str x.name,I x.op,iS x.args x.wX,.bool x.iC.neg,x.iC.v,.bool x.bT.neg,x.bT.v,.bool x.qL.neg,x.qL.v,.bool x.pU.neg,x.pU.v,I x.nD]
def aT.enc(x:aT):ae:=.agg x.cs
structure p4 (x:aT):Prop where
 wX:∀a,x.wX≠.dx a
 Sh:x.args.length<9223372036854775807
 iC:oX x.iC
 bT:oX x.bT
 qL:oX x.qL
 pU:oX x.pU
theorem j9{g:eZ}(h:∀a,g≠.dx a)(sz:Nat)(es:List ae):ae.bc (.bW sz es g)=true:=by cases g<;> first|rfl |exact absurd rfl (h _)
theorem qP{g:eZ}(h:∀a,g≠.dx a)(d:Nat):g.ap d=g:=by cases g<;> first|rfl |exact absurd rfl (h _)
theorem pW{g:eZ}(h:∀a,g≠.dx a)(S:ag)(sz:Nat)(es:List ae):Ab.freeze S (.bW sz es g)=some (.bW sz es g):=by show Ab.eC S _=_;cases g<;> first|rfl |exact absurd rfl (h _)
theorem p4.bc{x:aT}(h:p4 x):x.enc.bc=true:=by simp -implicitDefEqProofs only[aT.enc,aT.cs,ae.bc,ae.aZ,h0.v,j9 h.wX,j9 h.iC.g,j9 h.bT.g,j9 h.qL.g,j9 h.pU.g,bz]
theorem aT.cells(x:aT):x.cs.all ae.eB=true:=rfl
def gi(op:Int):List Int:=
 if op=2 then[0] else if op=3 then[1,1] else if op=4 then[2,2] else if op=5 then[1,1] else if op=6∨op=7 then[1,1,1] else if op=8 then[2,3] else if op=9 then[3,3]
 else if op=10∨op=11 then[1,2] else if op=12 then[1,1] else if op=13 then[1,2] else if op=14 then[1,1,1] else if op=15 then[1,3] else if op=16 then[3] else[]
def hi(op:Int):Int:=
 if op=1∨op=2∨op=4∨op=8∨op=9∨op=12∨op=13∨op=16 then 1 else if op=3∨op=10∨op=11∨op=14∨op=15 then 2 else if op=5∨op=6∨op=7 then 3 else 0
def iX(op:Int):Bool:=decide (op=8∨op=9∨op=14∨op=15)
def sr(op:Int):eZ:=if 2≤op∧op≤16 then .exact else .nil
abbrev oS(op:Int):ae:=.d0 [iS (gi op) (sr op),I (hi op),.bool (iX op)]
theorem DX{S:ag}{k:bd}(l:List Int):(aV aL G X).a9 S k 1 (l.map I)=k (iS l .exact) S:=by
 refine jX 1 _ ?_ ?_
 ·induction l with
  |nil=>rfl
  |cons x l e=>simp -implicitDefEqProofs only[fH,ae.aZ,e,Bool.and_true];rfl
 ·induction l with
  |nil=>rfl
  |cons x l e=>simp -implicitDefEqProofs only[fH,List.all_cons,e,Bool.and_true];rfl
theorem Zn{s S:ag}(f4:Child s S)(v:ae)(n:Int)(b:Bool)(bM:Ab.freeze S v=some v):(aV aL G X).a0 false [some v,some (.int .i64 n),some (.bool b)] S=.ok (.d0 [v,.int .i64 n,.bool b]) s:=by obtain⟨ar,av⟩:=f4;show mF false [some v,some (.int .i64 n),some (.bool b)] S=_;unfold mF;simp -implicitDefEqProofs only[fl,fF,ej,cond_false,bM,show Ab.freeze S (.int .i64 n)=some (.int .i64 n) from rfl,show Ab.freeze S (.bool b)=some (.bool b) from rfl,qZ,ar,av]
theorem wZ(op:Int):op=1∨op=2∨op=3∨op=4∨op=5∨op=6∨op=7∨op=8∨op=9∨op=10∨op=11∨op=12∨op=13∨op=14∨op=15∨op=16∨(op≠1∧op≠2∧op≠3∧op≠4∧op≠5∧op≠6∧op≠7∧op≠8∧op≠9∧op≠10∧op≠11∧op≠12∧op≠13∧op≠14∧op≠15∧op≠16):=by omega
theorem AB(op:Int)(s:ag):aA aL G X 21 [I op] s=.ok (oS op) s:=by
 rw[Lz,XZ];rcases wZ op with h|h|h|h|h|h|h|h|h|h|h|h|h|h|h|h|h
 all_goals try (subst h;kernel_rfl)
 obtain⟨ar,av,bV,dD,r,u,y,A,B,F,H,J,K,M,N,O⟩:=h;simp -implicitDefEqProofs only[bJ,ee,cA ar,cA av,cA bV,cA dD,cA r,cA u,cA y,cA A,cA B,cA F,cA H,cA J,cA K,cA M,cA N,cA O,FQ,FP,FO];have e:oS op=.d0 [iS [] .nil,I 0,.bool false]:=by
  unfold oS;have g:sr op=.nil:=by unfold sr;rw[if_neg (by omega)]
  rw[g];simp [gi,hi,iX,ar,av,bV,dD,r,u,y,A,B,F,H,J,K,M,N,O]
 rw[e];exact Zn G X (.ai s) _ _ _ rfl
theorem KC(op:Int)(s:ag):aA aL G X 34 [I op] s=.ok (oS op) s:=by
 rw[Lx,XX];rcases wZ op with h|h|h|h|h|h|h|h|h|h|h|h|h|h|h|h|h
 all_goals try (subst h;kernel_rfl)
 obtain⟨ar,av,bV,dD,r,u,y,A,B,F,H,J,K,M,N,O⟩:=h;simp -implicitDefEqProofs only[bJ,ee,cA ar,cA av,cA bV,cA dD,cA r,cA u,cA y,cA A,cA B,cA F,cA H,cA J,cA K,cA M,cA N,cA O,FN,FM,FL];have e:oS op=.d0 [iS [] .nil,I 0,.bool false]:=by
  unfold oS;have g:sr op=.nil:=by unfold sr;rw[if_neg (by omega)]
  rw[g];simp [gi,hi,iX,ar,av,bV,dD,r,u,y,A,B,F,H,J,K,M,N,O]
 rw[e];exact Zn G X (.ai s) _ _ _ rfl
theorem Yt(x:aT)(s:ag):aA aL G X 48 [x.enc] s=.ok (I (hi x.op)) s:=by rw[Lw,XW];simp -implicitDefEqProofs only[aT.enc,aT.cs,↓cI,↓cN,↓b0,↓bo,↓aF,↓aC,↓ax,↓aG,↓aO,↓aQ,↓ay,↓aH,↓aB,↓aW,↓a1,↓bg,↓dP,↓aI,↓bw,↓b5,↓c6,↓cd,↓cf,↓b6,↓cg,↓ch,↓ci,↓cj,↓ck,↓cl,↓bB,↓bC,↓bD,↓c7,↓c8,↓c9,↓da,↓db,↓dc,↓dd,↓de,↓df,↓cm,↓cn,↓co,↓fp,↓fK,↓f0,↓bJ,↓cL,↓be,↓c0,↓bZ,↓cJ,↓cT,↓dg,↓a2,↓aR,↓a3,↓aN,↓aJ,↓a4,↓cQ,↓b1,↓b7,↓cp,↓cq,↓cr,↓ct,↓cv,↓cw,↓cx,↓cy,b9,dT,List.cons_append,List.nil_append,b8,decide_eq_false_iff_not,ite_not,↓reduceIte,ba,az,bb,bE,eQ,d9,ea,bf,bP,cB,Nat.reduceAdd,List.all_cons,List.all_nil,du,di,dw,dR,bz,↓bk,Nat.reduceLeDiff,aD,cY,c3,↓(a8 (AB G X x.op _)),ot,ou,vV]
theorem Yu(x:aT)(s:ag):aA aL G X 43 [x.enc] s=.ok (.bool (iX x.op)) s:=by rw[Lt,XT];simp -implicitDefEqProofs only[aT.enc,aT.cs,↓cI,↓cN,↓b0,↓bo,↓aF,↓aC,↓ax,↓aG,↓aO,↓aQ,↓ay,↓aH,↓aB,↓aW,↓a1,↓bg,↓dP,↓aI,↓bw,↓b5,↓c6,↓cd,↓cf,↓b6,↓cg,↓ch,↓ci,↓cj,↓ck,↓cl,↓bB,↓bC,↓bD,↓c7,↓c8,↓c9,↓da,↓db,↓dc,↓dd,↓de,↓df,↓cm,↓cn,↓co,↓fp,↓fK,↓f0,↓bJ,↓cL,↓be,↓c0,↓bZ,↓cJ,↓cT,↓dg,↓a2,↓aR,↓a3,↓aN,↓aJ,↓a4,↓cQ,↓b1,↓b7,↓cp,↓cq,↓cr,↓ct,↓cv,↓cw,↓cx,↓cy,b9,dT,List.cons_append,List.nil_append,b8,decide_eq_false_iff_not,ite_not,↓reduceIte,ba,az,bb,bE,eQ,d9,ea,bf,bP,cB,Nat.reduceAdd,List.all_cons,List.all_nil,du,di,dw,dR,bz,↓bk,Nat.reduceLeDiff,aD,cY,c3,↓(a8 (AB G X x.op _)),ot,ou,vV]
def acc(want is:Int):Bool:=decide (is=want)||(decide (want=0)&&(decide (is=2)||decide (is=3)))
theorem Yv(want is:Int)(s:ag):aA aL G X 50 [I want,I is] s=.ok (.bool (acc want is)) s:=by
 rw[Ly,XY,bJ];unfold acc;by_cases ar:is=want
 ·simp -implicitDefEqProofs only[dQ ar,hg,fD,aJ,Bool.true_or,b3]
 ·simp -implicitDefEqProofs only[cA ar,eV,eY,Bool.false_or,bJ];by_cases av:want=0
  ·simp -implicitDefEqProofs only[dQ av,fU,bJ,eI];by_cases bV:is=2
   ·simp -implicitDefEqProofs only[dQ bV,hg,fU,fD,aJ,Bool.true_or]
   ·simp -implicitDefEqProofs only[cA bV,eV,fU,eY,fD,aJ,Bool.false_or,bJ]
  ·simp -implicitDefEqProofs only[cA av,gB,eV,eY,aJ,gb,b3]
def l7(kr e:h0):Bool:= !kr.neg&& !e.neg&&decide (kr.p3=[])&&decide (e.p3=[])
abbrev KD(kr e:h0):ae:=.agg [.bool kr.neg,kr.v,.bool e.neg,e.v]
theorem afs(l:List Nat):decide (((l.map U).length:Int)=0)=decide (l=[]):=by congr 1;rw[eq_iff_iff];cases l<;> simp <;> omega
theorem KE(kr e:h0)(s:ag):aA aL G X 72 [KD kr e] s=.ok (.bool (l7 kr e)) s:=by
 rw[LA,X0];unfold l7;cases ar:kr.neg with
 |true=>simp -implicitDefEqProofs only[h0.v,ar,↓cI,↓cN,↓b0,↓bo,↓aF,↓aC,↓ax,↓aG,↓aO,↓aQ,↓ay,↓aH,↓aB,↓aW,↓a1,↓bg,↓dP,↓aI,↓bw,↓b5,↓c6,↓cd,↓cf,↓b6,↓cg,↓ch,↓ci,↓cj,↓ck,↓cl,↓bB,↓bC,↓bD,↓c7,↓c8,↓c9,↓da,↓db,↓dc,↓dd,↓de,↓df,↓cm,↓cn,↓co,↓bJ,↓cL,↓be,↓c0,↓bZ,↓cJ,↓cT,↓dg,↓a2,↓aR,↓a3,↓aN,↓aJ,↓a4,↓cQ,↓b1,↓b7,↓cp,↓cq,↓cr,↓ct,↓cv,↓cw,↓cx,↓cy,↓dA,↓dB,↓dj,↓dM,↓cE,↓cF,↓cM,↓dn,b9,dT,b8,decide_eq_false_iff_not,ite_not,↓reduceIte,ba,az,bb,bE,bf,bP,cB,Nat.reduceAdd,bz,↓bk,Nat.reduceLeDiff,aD,cY,c3,dJ,dF,b4,hk,gb,b3,gB,eY]
 |false=>
  cases av:e.neg with
  |true=>simp -implicitDefEqProofs only[h0.v,ar,av,↓cI,↓cN,↓b0,↓bo,↓aF,↓aC,↓ax,↓aG,↓aO,↓aQ,↓ay,↓aH,↓aB,↓aW,↓a1,↓bg,↓dP,↓aI,↓bw,↓b5,↓c6,↓cd,↓cf,↓b6,↓cg,↓ch,↓ci,↓cj,↓ck,↓cl,↓bB,↓bC,↓bD,↓c7,↓c8,↓c9,↓da,↓db,↓dc,↓dd,↓de,↓df,↓cm,↓cn,↓co,↓bJ,↓cL,↓be,↓c0,↓bZ,↓cJ,↓cT,↓dg,↓a2,↓aR,↓a3,↓aN,↓aJ,↓a4,↓cQ,↓b1,↓b7,↓cp,↓cq,↓cr,↓ct,↓cv,↓cw,↓cx,↓cy,↓dA,↓dB,↓dj,↓dM,↓cE,↓cF,↓cM,↓dn,b9,dT,b8,decide_eq_false_iff_not,ite_not,↓reduceIte,ba,az,bb,bE,bf,bP,cB,Nat.reduceAdd,bz,↓bk,Nat.reduceLeDiff,aD,cY,c3,dJ,dF,b4,hk,g7,gb,Bool.and_false,b3,gB,fU,eY,fD]
  |false=>
   by_cases bV:kr.p3=[]
   ·simp -implicitDefEqProofs only[h0.v,ar,av,↓cI,↓cN,↓b0,↓bo,↓aF,↓aC,↓ax,↓aG,↓aO,↓aQ,↓ay,↓aH,↓aB,↓aW,↓a1,↓bg,↓dP,↓aI,↓bw,↓b5,↓c6,↓cd,↓cf,↓b6,↓cg,↓ch,↓ci,↓cj,↓ck,↓cl,↓bB,↓bC,↓bD,↓c7,↓c8,↓c9,↓da,↓db,↓dc,↓dd,↓de,↓df,↓cm,↓cn,↓co,↓bJ,↓cL,↓be,↓c0,↓bZ,↓cJ,↓cT,↓dg,↓a2,↓aR,↓a3,↓aN,↓aJ,↓a4,↓cQ,↓b1,↓b7,↓cp,↓cq,↓cr,↓ct,↓cv,↓cw,↓cx,↓cy,↓dA,↓dB,↓dj,↓dM,↓cE,↓cF,↓cM,↓dn,b9,dT,b8,decide_eq_false_iff_not,ite_not,↓reduceIte,ba,az,bb,bE,bf,bP,cB,Nat.reduceAdd,bz,↓bk,Nat.reduceLeDiff,aD,cY,c3,dJ,dF,b4,g7,eI,afs,eq_true bV,if_true]
   ·have h:¬((kr.p3.map U).length:Int)=0:=by
     rw[ep];have:=List.length_pos_iff.2 bV;omega
    simp -implicitDefEqProofs only[h0.v,ar,av,↓cI,↓cN,↓b0,↓bo,↓aF,↓aC,↓ax,↓aG,↓aO,↓aQ,↓ay,↓aH,↓aB,↓aW,↓a1,↓bg,↓dP,↓aI,↓bw,↓b5,↓c6,↓cd,↓cf,↓b6,↓cg,↓ch,↓ci,↓cj,↓ck,↓cl,↓bB,↓bC,↓bD,↓c7,↓c8,↓c9,↓da,↓db,↓dc,↓dd,↓de,↓df,↓cm,↓cn,↓co,↓bJ,↓cL,↓be,↓c0,↓bZ,↓cJ,↓cT,↓dg,↓a2,↓aR,↓a3,↓aN,↓aJ,↓a4,↓cQ,↓b1,↓b7,↓cp,↓cq,↓cr,↓ct,↓cv,↓cw,↓cx,↓cy,↓dA,↓dB,↓dj,↓dM,↓cE,↓cF,↓cM,↓dn,b9,dT,b8,decide_eq_false_iff_not,ite_not,↓reduceIte,ba,az,bb,bE,bf,bP,cB,Nat.reduceAdd,bz,↓bk,Nat.reduceLeDiff,aD,cY,c3,dJ,dF,b4,g7,eI,eq_false h,eq_false bV,gb]
theorem KF{s:ag}{k:bd}(a b:List Nat):(aV aL G X).aj s k (al .eql (.str a) (.str b))=k (.bool (decide (a=b))) s:=by show k (.bool (a==b)) s=_;congr 2;exact(by rw[Bool.eq_iff_iff];simp)
theorem Yw{S:ag}{k:bd}{d j o:Nat}{cs:List ae}{c:ae}(h:S.get (.g d j)=some (.cells cs))(aY:cs[o]? =some c):(aV aL G X).aw S k none (.ref (.g d j) o)=k c S:=by
 rw[hB];simp -implicitDefEqProofs only[dY,h,eU]
 have:cs.drop o=c::cs.drop (o+1):=by have e:=(ec.1 aY);rw[iP e.1,e.2]
 rw[this];rfl
theorem Yx(o x:aT)(s:ag)(d j:Nat)(cP:d≤s.aa)(h:s.get (.g d j)=some (.cells x.cs)):aA aL G X 74 [o.enc,.ref (.g d j) 0] s=.ok (.bool (decide (o.name=x.name))) s:=by
 have av:s.ai.get (.g d j)=some (.cells x.cs):=(Child.ai s).oV.2 d j _ cP h;have l:=fun(k:bd)=>Yw G X (k:=k) (o:=0+0) av (c:=.str x.name) rfl
 rw[LC,X2];simp -implicitDefEqProofs only[aT.enc];rw[aF];simp -implicitDefEqProofs only[aT.cs] at *;rw[dP,b9,bg,aI,l,KF,aJ]
def pI(KG:List Nat):List aT→Nat→Int
 |[],_=> -1
 |o::r,i=>if o.name=KG then(i:Int) else pI KG r (i+1)
theorem qq(KG:List Nat):∀(l:List aT) (i:Nat),decide (0≤pI KG l i)=l.any fun o=>decide (o.name=KG)
 |[],i=>rfl
 |o::r,i=>by
  rw[List.any_cons];by_cases h:o.name=KG
  ·have e:pI KG (o::r) i=(i:Int):=if_pos h;simp [e,h]
  ·have e:pI KG (o::r) i=pI KG r (i+1):=if_neg h;have u:=qq KG r (i+1);simp [e,h] at u ⊢;exact u
abbrev bp(l:List aT)(g:eZ):ae:=.bW 12 (l.map aT.enc) g
theorem AC(x:aT):x.cs.take 12=x.cs:=rfl
theorem Yy(l:List aT)(g:eZ)(x:aT)(s:ag)(d j:Nat)(cP:d≤s.aa)(h:s.get (.g d j)=some (.cells x.cs))(bN:l.length<9223372036854775807):aA aL G X 62 [bp l g,.fn 74 [.ref (.g d j) 0]] s=.ok (I (pI x.name l 0)) s:=by
 have loop:∀n i:Nat,i+n=l.length→uD (aV aL G X) (bp l g) (.fn 74 [.ref (.g d j) 0]) (.int .i64 (l.length:Int)) (.int .i64 (i:Int)) s.ai=.ok (I (pI x.name (l.drop i) i)) s:=by
  intro n
  induction n with
  |zero=>
   intro i bL;have e:¬(i:Int)<(l.length:Int):=by omega
   rw[wE,be,cA e,ee,FU,aN,mm (by omega)];rfl
  |succ n u=>
   intro i bL;have e:(i:Int)<(l.length:Int):=by omega
   have r:i<l.length:=by omega
   have y:(l.map aT.enc)[i]? =some l[i].enc:=by simp [r]
   have c:=Yx G X l[i] x s.ai d j (by have:=(Child.ai s).aa;omega) ((Child.ai s).oV.2 d j _ cP h);have A:=fun S k=>ny G X S k i (by omega)
   rw[wE,be,dQ e,ek,FT,k3 _ _ _ _ _ _ y];simp -implicitDefEqProofs only[aT.enc,ae.cells];rw[bk _ _ (aD 12),AC,ba,bw];simp -implicitDefEqProofs only[aT.enc] at c;simp -implicitDefEqProofs only[List.cons_append,List.nil_append];rw[a8 c,iP r,pI];by_cases dm:l[i].name=x.name
   ·rw[dQ dm,ek,aN,if_pos dm]
   ·rw[cA dm,ee,FR,A,if_neg dm];exact u (i+1) (by omega)
 rw[LD,X3,aB,ep];exact loop l.length 0 (by omega)
theorem Yz(l:List aT)(g:eZ)(cb:∀a,g≠.dx a)(x:aT)(s:ag)(d j:Nat)(cP:d≤s.aa)(h:s.get (.g d j)=some (.cells x.cs))(bN:l.length<9223372036854775807):aA aL G X 73 [bp l g,.fn 74 [.ref (.g d j) 0]] s=.ok (.bool (l.any fun o=>decide (o.name=x.name))) s:=by
 have c:=Yy G X l g x s.ai d j (by have:=(Child.ai s).aa;omega) ((Child.ai s).oV.2 d j _ cP h) bN;rw[LB,X1];have e:ae.ap s.ai.aa (bp l g)=bp l g:=by simp -implicitDefEqProofs only[ae.ap,qP cb]
 rw[e,eQ,a8 c,cJ,qq,aJ]
def w0(pre:List aT)(w a:Int):Bool:=decide (0≤a∧a<(pre.length:Int))&&acc w (match pre[a.toNat]? with |some o=>hi o.op|none=>0)
def jD(pre:List aT):List Int→List Int→Bool
 |w::ws,a::as=>w0 pre w a&&jD pre ws as
 |_,_=>true
def w1(op nD:Int):Bool:=if iX op=true then decide (nD=1∨nD=2) else decide (nD=0)
def iY(kr e:h0):Bool:=nh kr.neg e.neg kr.p3 e.p3
def tY(x:aT):Bool:=
 if x.op=1 then iY x.iC x.bT&&iY x.qL x.pU else if x.op=2 then iY x.iC x.bT&&l7 x.qL x.pU else l7 x.iC x.bT&&l7 x.qL x.pU
def oC(pre:List aT)(x:aT):Bool:=pre.any fun o=>decide (o.name=x.name)
def wf(pre:List aT)(x:aT):Bool:=
 decide (hi x.op≠0)&&decide ((gi x.op).length=x.args.length)&&decide (x.name≠[])&&(jD pre (gi x.op) x.args&&(w1 x.op x.nD&&(tY x&& !oC pre x)))
section
variable(x:aT)(s:ag)(k:bd)
theorem aft:(aV aL G X).aw (s.new (.cells x.cs)) k none (.ref (.l s.own.length) 0)=k (.str x.name) (s.new (.cells x.cs)):=b7 _ _
theorem ad3(o:Nat)(c:ae)(h:x.cs[o]? =some c):(aV aL G X).aw (s.new (.cells x.cs)) k none (.ref (.l s.own.length) o)=k c (s.new (.cells x.cs)):=iN (by simp [ag.new]) h
theorem yV:(aV aL G X).aw (s.new (.cells x.cs)) k none (.ref (.l s.own.length) 1)=k (I x.op) (s.new (.cells x.cs)):=ad3 G X x s k 1 _ rfl
theorem Zo:(aV aL G X).aw (s.new (.cells x.cs)) k none (.ref (.l s.own.length) 2)=k (iS x.args x.wX) (s.new (.cells x.cs)):=ad3 G X x s k 2 _ rfl
theorem s8:(aV aL G X).aw (s.new (.cells x.cs)) k none (.ref (.l s.own.length) 11)=k (I x.nD) (s.new (.cells x.cs)):=ad3 G X x s k 11 _ rfl
theorem Zp(o:Nat)(h:o+4≤12):(aV aL G X).aw (s.new (.cells x.cs)) k (some 4) (.ref (.l s.own.length) o)=k (.agg ((x.cs.drop o).take 4)) (s.new (.cells x.cs)):=by rw[hB];simp -implicitDefEqProofs only[dY,ha,eU];rw[show Nat.ble 4 (x.cs.drop o).length=true from et (by simp;show 4≤12-o;omega)];rfl
theorem RN:(aV aL G X).aw (s.new (.cells x.cs)) k (some 4) (.ref (.l s.own.length) 3)=k (KD x.iC x.bT) (s.new (.cells x.cs)):=Zp G X x s k 3 (by omega)
theorem RO:(aV aL G X).aw (s.new (.cells x.cs)) k (some 4) (.ref (.l s.own.length) 7)=k (KD x.qL x.pU) (s.new (.cells x.cs)):=Zp G X x s k 7 (by omega)
end
theorem DY{kr e:h0}(ar:oX kr)(av:oX e)(s:ag):aA aL G X 71 [KD kr e] s=.ok (.bool (iY kr e)) s:=Ys G X s kr.neg e.neg kr.v e.v kr.p3 e.p3 ar.jG av.jG ar.ok av.ok ar.len av.len
theorem KH(l:List aT){g:eZ}(cb:∀a,g≠.dx a)(n:Nat)(dm:n≤l.length)(S:ag)(k:bd):(aV aL G X).ls 12 (bp l g) none (some (.int .i64 (n:Int))) none S k=k (bp (l.take n) (pt g l.length n)) S:=by show m9 12 (.bW 12 (l.map aT.enc) g) none (some (.int .i64 (n:Int))) none S k=_;unfold m9;simp -implicitDefEqProofs only[p1,g9,ft,Nat.zero_le,et (Nat.zero_le n),show Nat.ble n (l.map aT.enc).length=true from et (by simpa using dm),show pN g 0 n (l.map aT.enc)=true from by cases g<;> first|rfl |exact absurd rfl (cb _),bz,bH,b9,Nat.sub_zero,List.map_take,bp];cases g<;> first|rfl |exact absurd rfl (cb _)|simp [pt]
theorem iA(l:List aT){g:eZ}(cb:∀a,g≠.dx a)(d:Nat):ae.ap d (bp l g)=bp l g:=by simp -implicitDefEqProofs only[ae.ap,qP cb]
theorem AD(d i o:Nat):ae.ap d (.ref (.l i) o)=.ref (.g d i) o:=rfl
theorem G3(s:ag)(o:cU):(s.new o).get (.g (s.new o).aa s.own.length)=some o:=by simp [ag.get,ag.new]
theorem qQ{s:ag}{k:bd}(b:Bool):(aV aL G X).aj s k (kn .not (.bool b))=k (.bool (!b)) s:=cT b
section
variable(pre:List aT)(x:aT)(g:eZ)(cb:∀a,g≠.dx a)(s:ag)(fz:pre.length<9223372036854775806)(a5:p4 x)
include cb fz
theorem G4:Ad (aV aL G X) (bp (pre++[x]) g) (.int .i64 (pre.length:Int)) (.ref (.l s.ai.own.length) 0) (s.ai.new (.cells x.cs))=.ok (.bool (!oC pre x)) s:=by
 have bW:=fun(S:ag) (k:bd)=>KH G X (pre++[x]) cb pre.length (by simp) S k
 rw[List.take_left' rfl] at bW;have e:=vT cb (pre++[x]).length pre.length;have c:=Yz G X pre _ e x (s.ai.new (.cells x.cs)) _ _ (aD _) (G3 s.ai (.cells x.cs)) (by omega);rw[FD,bW,cI,AD,iA _ e,eQ];rw[a8 c,cT,jA ((Child.ai s).new _)];rfl
include a5
theorem G5:Ae (aV aL G X) (bp (pre++[x]) g) (.int .i64 (pre.length:Int)) (.ref (.l s.ai.own.length) 0) (s.ai.new (.cells x.cs))=.ok (.bool (tY x&& !oC pre x)) s:=by
 have e:=G4 G X pre x g cb s fz;have h:=DY G X a5.iC a5.bT (s.ai.new (.cells x.cs));have y:=DY G X a5.qL a5.pU (s.ai.new (.cells x.cs));have dH:=KE G X x.iC x.bT (s.ai.new (.cells x.cs));have r:=KE G X x.qL x.pU (s.ai.new (.cells x.cs));have fin:=fun b=>jA (T:=aL) (G:=G) (X:=X) ((Child.ai s).new (.cells x.cs)) b
 rw[FE,aI,bf,yV,bJ];unfold tY;by_cases ar:x.op=1
 ·simp -implicitDefEqProofs only[dQ ar,hg,fD,aI,bf,↓yV,↓bJ,fU,↓RN,ba,↓(a8 h),qQ,if_pos ar,b3];cases bM:iY x.iC x.bT with
  |false=>simp -implicitDefEqProofs only[g7,hg,fD,eV,gB,fU,eY,ek,fin,gb,b3]
  |true=>
   simp -implicitDefEqProofs only[hk,eV,gB,eY,fU,b3,↓RO,ba,↓(a8 y),qQ];cases u:iY x.qL x.pU with
   |false=>simp -implicitDefEqProofs only[g7,hk,hg,fD,eV,gB,fU,eY,ek,fin,gb,eI,b3]
   |true=>simp -implicitDefEqProofs only[hk,eV,gB,eY,fD,fU,b3,qQ,ee,e,eI]
 ·by_cases av:x.op=2
  ·simp -implicitDefEqProofs only[cA ar,eV,eY,aI,bf,↓yV,↓bJ,dQ av,fU,↓RN,ba,↓(a8 h),qQ,if_neg ar,if_pos av,b3];cases bM:iY x.iC x.bT with
   |false=>simp -implicitDefEqProofs only[g7,hg,fD,eV,gB,fU,eY,ek,fin,gb,b3]
   |true=>
    simp -implicitDefEqProofs only[hk,g7,eV,gB,eY,fD,fU,b3,↓RO,ba,↓(a8 r),qQ];cases u:l7 x.qL x.pU with
    |false=>simp -implicitDefEqProofs only[g7,hk,hg,fD,eV,gB,fU,eY,ek,fin,gb,eI,b3]
    |true=>simp -implicitDefEqProofs only[hk,eV,gB,eY,fD,fU,b3,qQ,ee,e,eI]
  ·simp -implicitDefEqProofs only[cA ar,eV,eY,aI,bf,↓yV,↓bJ,cA av,gB,fU,↓RN,ba,↓(a8 dH),qQ,if_neg ar,if_neg av,b3,g7];cases bM:l7 x.iC x.bT with
   |false=>simp -implicitDefEqProofs only[g7,hg,fD,eV,gB,fU,eY,ek,fin,gb,b3]
   |true=>
    simp -implicitDefEqProofs only[hk,g7,eV,gB,eY,fD,fU,b3,↓RO,ba,↓(a8 r),qQ];cases u:l7 x.qL x.pU with
    |false=>simp -implicitDefEqProofs only[g7,hk,hg,fD,eV,gB,fU,eY,ek,fin,gb,eI,b3]
    |true=>simp -implicitDefEqProofs only[hk,eV,gB,eY,fD,fU,b3,qQ,ee,e,eI]
theorem G6:Af (aV aL G X) (bp (pre++[x]) g) (.int .i64 (pre.length:Int)) (.ref (.l s.ai.own.length) 0) (.bool (iX x.op)) (s.ai.new (.cells x.cs))=.ok (.bool (w1 x.op x.nD&&(tY x&& !oC pre x))) s:=by
 have h:=G5 G X pre x g cb s fz a5;have fin:=fun b=>jA (T:=aL) (G:=G) (X:=X) ((Child.ai s).new (.cells x.cs)) b
 have e:∀(a b:Bool) (k:bd) (S:ag),(aV aL G X).aj S k ((o1 .bool (.bool a) (.bool b)).map fun b=>.bool (bif true then !b else b))=k (.bool (!(a==b))) S:=fun a b k S=>rfl
 rw[FF,aI,bf,s8,bJ];unfold w1;cases r:iX x.op with
 |true=>
  by_cases ar:x.nD=1
  ·simp -implicitDefEqProofs only[dQ ar,hg,fD,e,show(!(true==true))=false from rfl,eV,hk,gB,eY,ee,h,if_true,eq_true (Or.inl ar:x.nD=1∨x.nD=2),dJ,eI,b3,qQ]
  ·by_cases av:x.nD=2
   ·simp -implicitDefEqProofs only[cA ar,eV,eY,aI,bf,↓s8,↓bJ,dQ av,e,show(!(true==true))=false from rfl,hk,gB,ee,h,if_true,eq_true (Or.inr av:x.nD=1∨x.nD=2),dJ,eI,b3,qQ]
   ·have bV:¬(x.nD=1∨x.nD=2):=by omega
    simp -implicitDefEqProofs only[cA ar,eV,eY,aI,bf,↓s8,↓bJ,cA av,e,show(!(true==false))=true from rfl,hg,fD,ek,fin,if_true,eq_false bV,dF,gb,b3,qQ]
 |false=>
  by_cases eS:x.nD=0
  ·have ar:¬x.nD=1:=by omega
   have av:¬x.nD=2:=by omega
   simp -implicitDefEqProofs only[cA ar,eV,eY,aI,bf,↓s8,↓bJ,cA av,e,show(!(false==false))=false from rfl,g7,fU,cL,cA (not_not_intro eS),eY,fD,ee,h,b4,if_false,dQ eS,eI,qQ]
  ·by_cases ar:x.nD=1
   ·simp -implicitDefEqProofs only[dQ ar,hg,fD,e,show(!(false==true))=true from rfl,ek,fin,b4,if_false,cA eS,gb,b3]
   ·by_cases av:x.nD=2
    ·simp -implicitDefEqProofs only[cA ar,eV,eY,aI,bf,↓s8,↓bJ,dQ av,e,show(!(false==true))=true from rfl,hg,fD,ek,fin,b4,if_false,cA eS,gb,b3]
    ·simp -implicitDefEqProofs only[cA ar,eV,eY,aI,bf,↓s8,↓bJ,cA av,e,show(!(false==false))=false from rfl,g7,fU,cL,eq_true eS,not_false_eq_true,dJ,fD,ek,fin,b4,if_false,cA eS,gb,qQ]
theorem G7(ws:List Int)(r:eZ)(ab:ws.length=x.args.length):∀n i:Nat,i+n=x.args.length→(∀o,o∈pre→p4 o)→
  uB (aV aL G X) (bp (pre++[x]) g) (.int .i64 (pre.length:Int)) (.ref (.l s.ai.own.length) 0) (iS ws r) (.bool (iX x.op)) (iS x.args x.wX) (.int .i64 (x.args.length:Int)) (.int .i64 (i:Int)) (s.ai.new (.cells x.cs))=.ok (.bool (jD pre (ws.drop i) (x.args.drop i)&&(w1 x.op x.nD&&(tY x&& !oC pre x)))) s:=by
 have fin:=fun b=>jA (T:=aL) (G:=G) (X:=X) ((Child.ai s).new (.cells x.cs)) b
 intro n
 induction n with
 |zero=>
  intro i bL u;have e:¬(i:Int)<(x.args.length:Int):=by omega
  rw[wB,be,cA e,ee,G6 G X pre x g cb s fz a5,mm (by omega),mm (by omega)];simp -implicitDefEqProofs only[jD,eI]
 |succ n F=>
  intro i bL u;have e:(i:Int)<(x.args.length:Int):=by omega
  have y:i<x.args.length:=by omega
  have A:i<ws.length:=by omega
  have ac:=a5.Sh;have H:(x.args.map I)[i]? =some (I x.args[i]):=by simp [y]
  have J:(ws.map I)[i]? =some (I ws[i]):=by simp [A]
  have K:∀k:bd,(aV aL G X).cc (s.ai.new (.cells x.cs)) k 1 (iS x.args x.wX) (.int .i64 (i:Int))=k (.bh [I x.args[i]]) (s.ai.new (.cells x.cs)):=fun k=>k3 (T:=aL) (G:=G) (X:=X) (s:=s.ai.new (.cells x.cs)) (k:=k) 1 _ x.wX .i64 i _ H
  have M:∀k:bd,(aV aL G X).cc (s.ai.new (.cells x.cs)) k 1 (iS ws r) (.int .i64 (i:Int))=k (.bh [I ws[i]]) (s.ai.new (.cells x.cs)):=fun k=>k3 (T:=aL) (G:=G) (X:=X) (s:=s.ai.new (.cells x.cs)) (k:=k) 1 _ r .i64 i _ J
  have N:=fun S k=>ny G X S k i (by omega)
  rw[wB,be,dQ e,ek,FC,K,bg,be,iP y,iP A,jD];unfold w0;by_cases ar:x.args[i]<0
  ·have av:¬(0≤x.args[i]∧x.args[i]<(pre.length:Int)):=by omega
   simp -implicitDefEqProofs only[dQ ar,hg,fD,ek,fin,cA av,gb,b3]
  ·by_cases av:(pre.length:Int)≤x.args[i]
   ·have bV:¬(0≤x.args[i]∧x.args[i]<(pre.length:Int)):=by omega
    simp -implicitDefEqProofs only[cA ar,eV,eY,cJ,dQ av,hg,fD,ek,fin,cA bV,gb,b3]
   ·have bV:0≤x.args[i]∧x.args[i]<(pre.length:Int):=by omega
    have h:x.args[i].toNat<pre.length:=by omega
    have O:((pre++[x]).map aT.enc)[x.args[i].toNat]? =some pre[x.args[i].toNat].enc:=by rw[g6,gm h,ei h];rfl
    have U:pre[x.args[i].toNat]? =some pre[x.args[i].toNat]:=ei h;have ip:=fun(k:bd)=>HD (T:=aL) (G:=G) (X:=X) (s:=s.ai.new (.cells x.cs)) (k:=k) 12 _ g .i64 x.args[i] _ bV.1 O
    generalize V:pre[x.args[i].toNat]=o at *;have ji:o∈pre:=V ▸ ml h;have OE:=Yt G X o {own:=[],up:=[],ro:=[]};have Y:ae.aZ [o.enc]=true:=by simp -implicitDefEqProofs only[ae.aZ,(u o ji).bc,bz]
    have Pg:=Yv G X ws[i] (hi o.op) (s.ai.new (.cells x.cs));have B:=fun(k:bd)=>bk (T:=aL) (G:=G) (X:=X) (s:=s.ai.new (.cells x.cs)) (k:=k) 12 o.cs (aD 12)
    rw[AC] at B;have Z:∀k:bd,(aV aL G X).aw (s.ai.new (.cells x.cs)) k (some 12) (.bh o.enc.cells)=k o.enc (s.ai.new (.cells x.cs)):=B;have aa:∀d,ae.ap d o.enc=o.enc:=fun d=>rfl
    simp -implicitDefEqProofs only[cA ar,eV,eY,cJ,cA av,M,ae.cells,bg];rw[ip,Z,aa,lv Y OE rfl,az,az,a8 Pg,qQ];simp -implicitDefEqProofs only[U,dQ bV,eI];cases ad:acc ws[i] (hi o.op) with
    |false=>simp -implicitDefEqProofs only[g7,ek,fin,gb]
    |true=>simp -implicitDefEqProofs only[hk,ee,eI,FB,N];exact F (i+1) (by omega) u
theorem YA(y:∀o,o∈pre→p4 o):aA aL G X 42 [bp (pre++[x]) g] s=.ok (.bool (wf pre x)) s:=by
 have fin:=fun b=>jA (T:=aL) (G:=G) (X:=X) ((Child.ai s).new (.cells x.cs)) b
 have A:((pre++[x]).map aT.enc)[pre.length]? =some x.enc:=by rw[g6,i7 (aD _),Nat.sub_self];rfl
 have ip:=fun S k=>DC G X S k 12 _ g .i64 pre.length _ A
 have r:=fun(S:ag) (k:bd)=>ii (T:=aL) (G:=G) (X:=X) (s:=S) (k:=k) (pre.length+1) (by omega) (by omega)
 simp -implicitDefEqProofs only[Nat.add_sub_cancel] at r;have B:∀(S:ag) (k:bd),(aV aL G X).aw S k (some 12) (.bh x.enc.cells)=k x.enc S:=fun S k=>bk (T:=aL) (G:=G) (X:=X) (s:=S) (k:=k) 12 x.cs (aD 12)
 have F:∀d,ae.ap d x.enc=x.enc:=fun d=>rfl
 have gH:=fun(k:bd) (cs:List ae) (h:cs.length=12)=>cQ (T:=aL) (G:=G) (X:=X) (s:=s.ai) (k:=k) 12 x.cs cs rfl h x.cells
 have yI:=AB G X x.op (s.ai.new (.cells x.cs));have K:=a5.Sh;have H:=fun h=>G7 G X pre x g cb s fz a5 (gi x.op) (sr x.op) h x.args.length 0 (by omega) y
 have J:((gi x.op).map I).length=(gi x.op).length:=ep ..;have u:(x.args.map I).length=x.args.length:=ep ..;rw[Ls,XS,aB,ep,gL,List.length_singleton,r,ip,B,cI,F];refine(gH _ _ rfl).trans ?_;rw[aI,bf,yV,az,a8 yI,ot,ou,vV,bJ];unfold wf;by_cases eS:hi x.op=0
 ·simp -implicitDefEqProofs only[dQ eS,hg,fD,ek,fin,cA (not_not_intro eS:¬hi x.op≠0),gb,b3]
 ·simp -implicitDefEqProofs only[cA eS,eV,eY,aB,aI,bf,↓Zo,cL,J,u,dQ (show hi x.op≠0 from eS),eI];by_cases ar:(gi x.op).length=x.args.length
  ·have e:¬¬((gi x.op).length:Int)=(x.args.length:Int):=by omega
   simp -implicitDefEqProofs only[cA e,eV,eY,aI,bf,↓aft,KF,dQ ar,eI];by_cases av:x.name=[]
   ·simp -implicitDefEqProofs only[dQ av,eY,ek,fin,cA (not_not_intro av:¬x.name≠[]),gb]
   ·simp -implicitDefEqProofs only[cA av,eY,ee,FG,aI,bf,↓Zo,aB,u,dQ (show x.name≠[] from av),eI]
    have:=H ar;simp -implicitDefEqProofs only[b9] at this;exact this
  ·have e:¬((gi x.op).length:Int)=(x.args.length:Int):=by omega
   simp -implicitDefEqProofs only[dQ e,hg,fD,ek,fin,cA ar,gb,b3]
end
end Go.gl
end
