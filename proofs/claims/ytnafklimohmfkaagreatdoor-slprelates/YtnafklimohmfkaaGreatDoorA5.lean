/- A part of the proof: no condition. -/
import Derived.Test.YtnafklimohmfkaaGreatDoorA4
import Derived.Test.YtnafklimohmfkaaGreatDoorA2
set_option linter.unusedSectionVars false
set_option linter.unusedVariables false
section
namespace Go.hd
def B:Nat:=4294967296
theorem jU:B=4294967296:=rfl
theorem gp:0<B:=by decide
def val:List Nat→Nat
 |[]=>0
 |x::xs=>x+B*val xs
def ci(l:List Nat):Prop:=∀x,x∈l→x<B
theorem ci.tail{x:Nat}{l:List Nat}(h:ci (x::l)):ci l:=fun y dX=>h y (by simp [dX])
theorem ci.take{l:List Nat}(h:ci l)(n:Nat):ci (l.take n):=fun y dX=>h y (List.mem_of_mem_take dX)
theorem ci.drop{l:List Nat}(h:ci l)(n:Nat):ci (l.drop n):=fun y dX=>h y (List.mem_of_mem_drop dX)
theorem ci.getD{l:List Nat}(h:ci l)(i:Nat):l.getD i 0<B:=by
 by_cases bk:i<l.length
 ·have:l.getD i 0=l[i]:=by simp [List.getD,bk]
  rw[this];exact h _ (h4 bk)
 ·have:l.getD i 0=0:=by simp [List.getD,Nat.not_lt.1 bk]
  rw[this];exact gp
theorem ci.set{l:List Nat}(h:ci l)(i x:Nat)(aT:x<B):ci (l.set i x):=fun y dX=>by
 rcases List.mem_or_eq_of_mem_set dX with aD|aD
 ·exact h y aD
 ·exact aD ▸ aT
theorem la(n:Nat):ci (List.replicate n 0):=fun y dX=>by rw[(List.mem_replicate.1 dX).2];exact gp
theorem nQ:∀(a b:List Nat),val (a++b)=val a+B^a.length*val b
 |[],b=>by simp [val]
 |x::a,b=>by simp only[List.cons_append,val,nQ a b,c0,Nat.pow_succ,eg];rw[dE (B^a.length) B,e6];omega
theorem eI:∀(l:List Nat),ci l→val l<B^l.length
 |[],_=>by simp [val]
 |x::l,h=>by have aD:=eI l h.tail;have aG:=h x (by simp);simp only[val,c0,Nat.pow_succ];have bz:B*(val l+1)≤B*B^l.length:=Nat.mul_le_mul_left _ aD;rw[eg,Nat.mul_one] at bz;rw[dE (B^l.length)];omega
theorem AD(n:Nat):val (List.replicate n 0)=0:=by
 induction n with
 |zero=>rfl
 |succ n e=>simp [List.replicate_succ,val,e]
theorem val_succ(l:List Nat)(i:Nat)(h:i<l.length):val (l.take (i+1))=val (l.take i)+B^i*l.getD i 0:=by
 rw[List.take_succ_eq_append_getElem h,nQ]
 have:(l.take i).length=i:=by simp;omega
 rw[this];simp [val,List.getD,h]
theorem iH(l:List Nat)(i:Nat)(h:i≤l.length):val l=val (l.take i)+B^i*val (l.drop i):=by
 have:=nQ (l.take i) (l.drop i);rw[List.take_append_drop] at this;rw[this]
 have:(l.take i).length=i:=by simp;omega
 rw[this]
theorem jP(l:List Nat)(i:Nat)(h:i<l.length):val (l.drop i)=l.getD i 0+B*val (l.drop (i+1)):=by rw[gl h];simp [val,List.getD,h]
theorem lb{l:List Nat}{i j x:Nat}(h:i≤j):(l.set j x).take i=l.take i:=by
 apply List.ext_getElem?;intro n;rw[List.getElem?_take,List.getElem?_take];split
 ·rw[ew (by omega)]
 ·rfl
theorem uf{l:List Nat}{i j x:Nat}(h:j<i):(l.set j x).drop i=l.drop i:=by apply List.ext_getElem?;intro n;rw[List.getElem?_drop,List.getElem?_drop,ew (by omega)]
theorem fb{l:List Nat}{i x:Nat}(h:i<l.length):(l.set i x).getD i 0=x:=by simp [List.getD,h]
theorem getD_set_ne{l:List Nat}{i j x:Nat}(h:i≠j):(l.set i x).getD j 0=l.getD j 0:=by simp only[List.getD];rw[ew h]
def fg(l:List Nat):Nat→Nat
 |0=>0
 |n+1=>if l.getD n 0=0 then fg l n else n+1
theorem hP(l:List Nat):∀n,fg l n≤n
 |0=>aX _
 |n+1=>by
  unfold fg;split
  ·exact Nat.le_succ_of_le (hP l n)
  ·exact aX _
def dO(l:List Nat):List Nat:=l.take (fg l l.length)
def cX(l:List Nat):Prop:=l≠[]→l.getD (l.length-1) 0≠0
theorem AE(l:List Nat):∀n,n≤l.length→val (l.take (fg l n))=val (l.take n)
 |0,_=>rfl
 |n+1,h=>by
  unfold fg;split
  ·rename_i cL;rw[AE l n (by omega),val_succ l n (by omega),cL,Nat.mul_zero,Nat.add_zero]
  ·rfl
theorem ug(l:List Nat):∀n,fg l n≠0→l.getD (fg l n-1) 0≠0
 |0,h=>absurd rfl h
 |n+1,h=>by
  unfold fg at h ⊢;split
  ·rename_i cL;rw[if_pos cL] at h;exact ug l n h
  ·rename_i cL;exact cL
theorem gP(l:List Nat):val (dO l)=val l:=by unfold dO;rw[AE l _ (aX _),List.take_length]
theorem fP(l:List Nat):(dO l).length=fg l l.length:=by
 unfold dO;rw[List.length_take]
 have:=hP l l.length;omega
theorem fu(l:List Nat):cX (dO l):=fun h=>by
 have aD:fg l l.length≠0:=fun e=>h (by unfold dO;rw[e];rfl)
 have aG:=ug l l.length aD;rw[fP];unfold dO;simp only[List.getD] at aG ⊢;rw[List.getElem?_take,if_pos (by omega)];exact aG
theorem gL{l:List Nat}(h:ci l):ci (dO l):=h.take _
theorem qT(l:List Nat)(h:cX l)(cQ:l≠[]):B^(l.length-1)≤val l:=by
 have br:0<l.length:=List.length_pos_iff.2 cQ;have aD:=val_succ l (l.length-1) (by omega);rw[show l.length-1+1=l.length by omega,List.take_length] at aD;have aG:=h cQ;rw[aD]
 have:B^(l.length-1)*1≤B^(l.length-1)*l.getD (l.length-1) 0:=Nat.mul_le_mul_left _ (by omega);omega
theorem nR{l:List Nat}(h:cX l):val l=0↔l=[]:=by
 constructor
 ·intro cL;by_cases cQ:l=[]
  ·exact cQ
  ·have:=qT l h cQ
   have:=Nat.pow_pos (n:=l.length-1) gp;omega
 ·intro e;subst e;rfl
theorem ih{m n:Nat}(h:m≤n):B^m≤B^n:=Nat.pow_le_pow_right gp h
theorem kN{a b:List Nat}(r:ci a)(u:cX b)(h:a.length<b.length):val a<val b:=by have aD:=eI a r;have aG:=qT b u (by intro e;subst e;simp at h);have bz:B^a.length≤B^(b.length-1):=ih (by omega);omega
theorem pe{a b:List Nat}(e:ci a)(r:ci b)(u:cX a)(y:cX b)(h:val a=val b):a.length=b.length:=by
 rcases Nat.lt_trichotomy a.length b.length with aD|aD|aD
 ·have:=kN e y aD;omega
 ·exact aD
 ·have:=kN r u aD;omega
theorem pf{l:List Nat}(a9:cX l){n:Nat}(h:val l<B^n):l.length≤n:=by
 by_cases e:l=[]
 ·subst e;simp
 ·have aD:=qT l a9 e;by_cases aG:l.length≤n
  ·exact aG
  ·have bz:B^n≤B^(l.length-1):=ih (by omega);omega
theorem val_inj:∀{a b:List Nat},ci a→ci b→a.length=b.length→val a=val b→a=b
 |[],[],_,_,_,_=>rfl
 |[],y::b,_,_,h,_=>by simp at h
 |x::a,[],_,_,h,_=>by simp at h
 |x::a,y::b,e,r,br,h=>by
  have aT:=e x (by simp);have dX:=r y (by simp);simp only[val] at h;have aD:x=y:=by
   have bU:(x+B*val a)%B=x:=by rw[Nat.add_mul_mod_self_left,fm aT]
   have u:(y+B*val b)%B=y:=by rw[Nat.add_mul_mod_self_left,fm dX]
   rw[←bU,←u,h]
  subst aD;have aG:B*val a=B*val b:=by omega
  have bz:=Nat.eq_of_mul_eq_mul_left gp aG;rw[val_inj e.tail r.tail (by simpa using br) bz]
end Go.hd
namespace Go.hd
theorem uh:B=2^32:=rfl
theorem AF(w r:Nat):B^w*2^r=2^(32*w+r):=by rw[uh,←Nat.pow_mul,←Nat.pow_add]
theorem vb(x r:Nat)(aQ:r<32):∃q,x*2^r%B=q*2^r∧q*2^r+2^r≤B:=by
 refine⟨x%2^(32-r),?_,?_⟩
 ·have:B=2^(32-r)*2^r:=by rw[←Nat.pow_add,uh];congr 1;omega
  rw[this,Nat.mul_mod_mul_right]
 ·have:B=2^(32-r)*2^r:=by rw[←Nat.pow_add,uh];congr 1;omega
  have aD:x%2^(32-r)+1≤2^(32-r):=Nat.mod_lt _ (Nat.two_pow_pos _);have aG:=e7 (2^r) aD;rw[e0,Nat.one_mul] at aG;rw[this];exact aG
theorem vc(x r:Nat)(aT:x<B)(aQ:r<32):x*2^r/B<2^r∧x*2^r<18446744073709551616:=by
 have aD:x*2^r<B*2^r:=Nat.mul_lt_mul_of_pos_right aT (Nat.two_pow_pos _);refine⟨by rw[Nat.div_lt_iff_lt_mul gp,dE (2^r)];exact aD,?_⟩;have aG:B*2^r≤B*2^32:=Nat.mul_le_mul_left _ (Nat.pow_le_pow_right (by omega) (by omega));have bz:B*2^32=18446744073709551616:=by decide
 omega
theorem AG(l out:List Nat)(i w r:Nat)(aQ:r<32)(bk:i<l.length)(br:l.length+w<out.length)(h:ci out)(u:ci l)(bG:val (out.take (i+w+1))=val (l.take i)*2^(32*w+r))(a9:out.getD (i+w) 0<2^r)(c:Nat)(Z9:c=out.getD (i+w) 0)(y:Nat)(dX:y=c+l.getD i 0*2^r%B):
  let e:=(out.set (i+w) y).set (i+w+1) (l.getD i 0*2^r/B)
  ci e∧e.length=out.length∧val (e.take (i+1+w+1))=val (l.take (i+1))*2^(32*w+r)∧e.getD (i+1+w) 0<2^r:=by
 have aT:=u.getD i;have H:=vc (l.getD i 0) r aT aQ;obtain⟨q,M,N⟩:=vb (l.getD i 0) r aQ;have O:2^r≤2^32:=Nat.pow_le_pow_right (by omega) (by omega);have I:y<B:=by omega
 have Q:(2:Nat)^32=B:=rfl;have bU:i+1+w=i+w+1:=by omega
 refine⟨(h.set _ _ I).set _ _ (by omega),by simp,?_,?_⟩
 ·have s1:=val_succ ((out.set (i+w) y).set (i+w+1) (l.getD i 0*2^r/B)) (i+w+1) (by simp;omega);have s2:=val_succ (out.set (i+w) y) (i+w) (by simp;omega);have J:=val_succ out (i+w) (by omega);have g1:((out.set (i+w) y).set (i+w+1) (l.getD i 0*2^r/B)).getD (i+w+1) 0=l.getD i 0*2^r/B:=fb (by simp;omega);have g2:(out.set (i+w) y).getD (i+w) 0=y:=fb (by omega);rw[bU,s1,g1,lb (aX _),s2,g2,lb (aX _),val_succ l i bk,e0,←bG,J,←Z9];have K:B^i*l.getD i 0*2^(32*w+r)=B^(i+w)*(l.getD i 0*2^r):=by
   rw[←AF,Nat.pow_add,e6,e6,Nat.mul_left_comm (l.getD i 0)]
  have L:B^(i+w)*(l.getD i 0*2^r)=B^(i+w)*(l.getD i 0*2^r%B)+B^(i+w)*(B*(l.getD i 0*2^r/B)):=by rw[←eg,Nat.mod_add_div]
  rw[K,L,dX,eg,Nat.pow_succ,e6 (B^(i+w)) B];omega
 ·have g1:((out.set (i+w) y).set (i+w+1) (l.getD i 0*2^r/B)).getD (i+w+1) 0=l.getD i 0*2^r/B:=fb (by simp;omega);rw[bU,g1];exact H.1
theorem LI(a out:List Nat)(n d rest:Nat)(bI:d≠0)(bX:n<a.length)(br:out.length=a.length)(e:ci a)(h:ci out)(aQ:rest<d)(bG:val (a.drop (n+1))=val (out.drop (n+1))*d+rest):
  (rest*B+a.getD n 0)/d<B∧ci (out.set n ((rest*B+a.getD n 0)/d))∧(rest*B+a.getD n 0)%d<d∧val (a.drop n)=val ((out.set n ((rest*B+a.getD n 0)/d)).drop n)*d+(rest*B+a.getD n 0)%d:=by
 have aT:=e.getD n;have aD:rest*B+a.getD n 0<d*B:=by have:(rest+1)*B≤d*B:=e7 _ aQ;rw[e0,Nat.one_mul] at this;omega
 have dQ:(rest*B+a.getD n 0)/d<B:=by rw[Nat.div_lt_iff_lt_mul (by omega),dE B];exact aD
 refine⟨dQ,h.set _ _ dQ,Nat.mod_lt _ (by omega),?_⟩;have s1:=jP (out.set n ((rest*B+a.getD n 0)/d)) n (by simp;omega);have g1:(out.set n ((rest*B+a.getD n 0)/d)).getD n 0=(rest*B+a.getD n 0)/d:=fb (by omega);rw[jP a n bX,bG,s1,g1,uf (by omega),e0];have hm:=Nat.div_add_mod (rest*B+a.getD n 0) d;have bU:B*(val (out.drop (n+1))*d+rest)=B*val (out.drop (n+1))*d+rest*B:=by rw[eg,e6,dE B rest]
 rw[bU];have r:(rest*B+a.getD n 0)/d*d=d*((rest*B+a.getD n 0)/d):=dE _ _;omega
end Go.hd
end
section
namespace Go.h6
open Go.Ab Go.hd
variable(G:Nat→ai)(X:Nat→List ai→aq→ao)
theorem ic(S:aq)(k:a1)(sz:Nat)(es:List ai)(g:cd)(kk:IntKind)(i:Nat)(e:ai)(h:es[i]? =some e):(aH au G X).aZ S k sz (.aW sz es g) (.int kk (i:Int))=k (.bM e.cells) S:=iw sz es g kk i e h
theorem fJ(S:aq)(k:a1)(a:Nat)(h:a+1<9223372036854775808):(aH au G X).ah S k (al .add (.int .i64 (a:Int)) (.int .i64 1))=k (.int .i64 ((a+1:Nat):Int)) S:=nm a h
theorem awZ(S:aq)(k:a1){f:Nat}{args:List ai}{v:ai}{s':aq}(h:az au G X f args S=.ok v s')(bI:s'.aa=S.aa):(aH au G X).ar S k f args=k v s':=dc h bI
theorem LJ(s:aq)(v:ai)(l:List Nat)(h:jC s v l)(H:l.length<9223372036854775807)(S:aq)(e:Child s S):∀n,n≤l.length→sN (aH au G X) v (.int .i64 (n:Int)) S=.ok (kj v (fg l n)) s:=by
 have y:∀n,n≤l.length→zb (aH au G X) v (.int .i64 (n:Int)) S=.ok (kj v n) s:=fun n bX=>by rw[Js,h.slice n bX];exact gV e _ _ ((h.cut n bX).same e)
 intro n
 induction n with
 |zero=>
  intro bX;rw[v8];have cL:¬((0:Int)<((0:Nat):Int)):=by omega
  simp only[↓cq,↓g6,↓DI,↓ee,↓reduceIte,c9,co,eq_false cL];exact y 0 (Nat.zero_le _)
 |succ n B=>
  intro bX;have cL:(0:Int)<((n+1:Nat):Int):=by omega
  have g:=fun(k:a1)=>(h.jO e.jO).get (T:=au) (G:=G) (X:=X) .i64 n (by omega) k
  have r:=fun(S:aq) (k:a1)=>iS (T:=au) (G:=G) (X:=X) (s:=S) (k:=k) (n+1) (by omega) (by omega)
  simp only[Nat.add_sub_cancel] at r;rw[v8];by_cases io:l.getD n 0=0
  ·have u:((l.getD n 0:Nat):Int)=0:=by omega
   simp only[↓cq,↓g6,↓DI,↓bi,↓ee,↓reduceIte,dk,eq_true cL,r,↓g,u,Jr,fg,if_pos io];exact B (by omega)
  ·have u:¬((l.getD n 0:Nat):Int)=0:=by omega
   simp only[↓cq,↓g6,↓DI,↓bi,↓ee,↓reduceIte,dk,c9,co,eq_true cL,r,↓g,eq_false u,fg,if_neg io];exact y (n+1) bX
theorem np(s:aq)(v:ai)(l:List Nat)(h:jC s v l)(e:l.length<9223372036854775807):az au G X 191 [v] s=.ok (kj v (fg l l.length)) s:=by rw[PE,agv,h.len];exact LJ G X s v l h e s.af (.af s) l.length (aX _)
theorem aaO{s S:aq}(e:Child s S){j:Nat}{l:List Nat}(h:fT S j l)(n:Nat)(bX:n=l.length)(r:l.length<9223372036854775807):∃v,gT v (dO l)∧(aH au G X).ar S (fun v s=>(aH au G X).aB false [some v] s) 191 [.cw (.g S.aa j) 0 n n 1]=.ok v s:=by
 subst bX;have aQ:=h.rd l.length l.length (aX _) (aX _);rw[List.take_length] at aQ;rw[aK (np G X S _ l aQ r)];have hle:=hP l l.length;obtain⟨v,aD,aG⟩:=kM (S:=S) (j:=j) (off:=0) (cap:=l.length) (dO l) (n:=fg l l.length) (fP l).symm h (by rw[bT,fP];simp [dO,List.map_take]) (by rw[fP];simpa using hle)
 exact⟨v,aG,gV e _ _ aD⟩
theorem AH{s S:aq}(e:Child s S){j:Nat}{l:List Nat}(h:fT S j l)(n:Nat)(bX:n=l.length)(r:l.length<9223372036854775807)(w:ai)(hw:w.plain=true):∃v,gT v (dO l)∧(aH au G X).ar S (fun v s=>(aH au G X).aB false [some v,some w] s) 191 [.cw (.g S.aa j) 0 n n 1]=.ok (.cT [v,w]) s:=by
 subst bX;have aQ:=h.rd l.length l.length (aX _) (aX _);rw[List.take_length] at aQ;rw[aK (np G X S _ l aQ r)];have hle:=hP l l.length;obtain⟨v,aD,aG⟩:=kM (S:=S) (j:=j) (off:=0) (cap:=l.length) (dO l) (n:=fg l l.length) (fP l).symm h (by rw[bT,fP];simp [dO,List.map_take]) (by rw[fP];simpa using hle)
 exact⟨v,aG,h0 e _ _ _ _ aD (B5 hw)⟩
def iC(x y:Nat):Int:=if x<y then -1 else if y<x then 1 else 0
theorem LK(s:aq)(M N:ai)(a b:List Nat)(O:jC s M a)(U:jC s N b)(V:ci a)(Y:ci b)(br:a.length=b.length)(fO:a.length<9223372036854775807)(S:aq)(r:Child s S):∀n k,k+n=a.length→val (a.drop n)=val (b.drop n)→
  sJ (aH au G X) M N (.int .i64 (a.length:Int)) (.int .i64 (k:Int)) S=.ok (.int .i64 (iC (val a) (val b))) s:=by
 intro n
 induction n with
 |zero=>
  intro k cg he;have h:¬((k:Int)<(a.length:Int)):=by omega
  rw[v5];simp only[↓cq,↓be,↓reduceIte,c9,co,eq_false h,Jm];simp only[bT] at he;rw[jB r,he];simp [iC]
 |succ n Z=>
  intro k cg he;have h:(k:Int)<(a.length:Int):=by omega
  have g0:=fun(k:a1)=>(O.jO r.jO).get (T:=au) (G:=G) (X:=X) .i64 n (by omega) k
  have y:=fun(k:a1)=>(U.jO r.jO).get (T:=au) (G:=G) (X:=X) .i64 n (by omega) k
  have H:=fun(S:aq) (k:a1)=>O.len (T:=au) (G:=G) (X:=X) k S
  have I:=fun(S:aq) (k:a1)=>iS (T:=au) (G:=G) (X:=X) (s:=S) (k:=k) a.length (by omega) (by omega)
  have u:=fun(S:aq) (jh:a1)=>mD (T:=au) (G:=G) (X:=X) (s:=S) (k:=jh) (a.length-1) k (by omega) (by omega)
  have aa:=fun(S:aq) (jh:a1)=>nm (T:=au) (G:=G) (X:=X) (s:=S) (k:=jh) k (by omega)
  have ab:a.length-1-k=n:=by omega
  simp only[ab] at u;have J:=jP a n (by omega);have K:=jP b n (by omega);have Q:=iH a n (by omega);have R:=iH b n (by omega);have ac:=eI (a.take n) (V.take n);have ad:=eI (b.take n) (Y.take n);have ae:(a.take n).length=n:=by simp;omega
  have af:(b.take n).length=n:=by simp;omega
  rw[ae] at ac;rw[af] at ad;rw[v5];simp only[↓cq,↓be,↓reduceIte,dk,eq_true h];rw[Jl];by_cases e:a.getD n 0=b.getD n 0
  ·have hN:((a.getD n 0:Nat):Int)=((b.getD n 0:Nat):Int):=by omega
   simp only[↓cq,↓dC,↓reduceIte,c9,co,↓H,↓I,↓u,↓g0,↓y,hN,not_true_eq_false];rw[Jk,aa];exact Z (k+1) (by omega) (by rw[J,K,e,he])
  ·have hN:¬((a.getD n 0:Nat):Int)=((b.getD n 0:Nat):Int):=by omega
   by_cases ag:a.getD n 0<b.getD n 0
   ·have L:((a.getD n 0:Nat):Int)<((b.getD n 0:Nat):Int):=by omega
    simp only[↓cq,↓dC,↓be,↓reduceIte,dk,↓H,↓I,↓u,↓g0,↓y,eq_false hN,not_false_eq_true,eq_true L];rw[jB r]
    have:val a<val b:=by
     rw[Q,R];have aD:val (a.drop n)+1≤val (b.drop n):=by rw[J,K,he];omega
     have aG:=Nat.mul_le_mul_left (B^n) aD;rw[eg,Nat.mul_one] at aG;omega
    simp [iC,this]
   ·have L:¬((a.getD n 0:Nat):Int)<((b.getD n 0:Nat):Int):=by omega
    simp only[↓cq,↓dC,↓be,↓reduceIte,dk,c9,co,↓H,↓I,↓u,↓g0,↓y,eq_false hN,not_false_eq_true,eq_false L,Jj];rw[jB r]
    have:val b<val a:=by
     rw[Q,R];have aD:val (b.drop n)+1≤val (a.drop n):=by rw[J,K,he];omega
     have aG:=Nat.mul_le_mul_left (B^n) aD;rw[eg,Nat.mul_one] at aG;omega
    simp [iC,this,Nat.not_lt.2 (Nat.le_of_lt this)]
theorem ahE(s:aq)(r u:ai)(a b:List Nat)(H:jC s r a)(I:jC s u b)(J:ci a)(K:ci b)(L:cX a)(M:cX b)(fO:a.length<9223372036854775807)(O:b.length<9223372036854775807):
  az au G X 189 [r,u] s=.ok (.int .i64 (iC (val a) (val b))) s:=by
 rw[PC,agt];have h:=fun(S:aq) (k:a1)=>H.len (T:=au) (G:=G) (X:=X) k S
 have y:=fun(S:aq) (k:a1)=>I.len (T:=au) (G:=G) (X:=X) k S
 by_cases e:a.length=b.length
 ·have hN:(a.length:Int)=(b.length:Int):=by omega
  simp only[↓cq,↓dC,↓reduceIte,c9,co,↓h,↓y,eq_true hN,not_true_eq_false];rw[Jn,h];exact LK G X s r u a b H I J K e fO s.af (.af s) a.length 0 (by omega) (by rw[List.drop_length,e,List.drop_length])
 ·have hN:¬(a.length:Int)=(b.length:Int):=by omega
  by_cases N:a.length<b.length
  ·have B:(a.length:Int)<(b.length:Int):=by omega
   have:=kN J M N;simp only[↓cq,↓dC,↓be,↓b1,↓reduceIte,dk,↓h,↓y,eq_false hN,not_false_eq_true,eq_true B];simp [iC,this]
  ·have B:¬(a.length:Int)<(b.length:Int):=by omega
   have:=kN K L (by omega:b.length<a.length);simp only[↓cq,↓dC,↓be,↓b1,↓reduceIte,dk,c9,co,↓h,↓y,eq_false hN,not_false_eq_true,eq_false B,Ji];simp [iC,this,Nat.not_lt.2 (Nat.le_of_lt this)]
def kT(x:Nat):Nat:=if x=0 then 0 else x.log2+1
theorem awc:∀x,x<256→kT x≤8∧x<2^kT x∧(x≠0→2^kT x≤2*x):=by decide +kernel
theorem gq{s:aq}{k:a1}(eB:List Nat)(kk:IntKind)(i n:Nat)(h:eB[i]? =some n):(aH au G X).db s k (.str eB) (.int kk (i:Int))=k (.int .u8 (n:Int)) s:=by show jm (gk G (az au G X) bO) s k (.str eB) (.int kk (i:Int))=_;unfold jm;simp only[hs,h];rfl
theorem wQ(s:aq)(x m:Nat)(aT:x<256)(hm:m≤24):∃n:Nat,p5 (aH au G X) (.int .u32 (x:Int)) (.int .i64 (m:Int)) s.af=.ok (.int .i64 ((m+n:Nat):Int)) s∧n≤8∧x<2^n∧(x≠0→2^n≤2*x):=by
 obtain⟨aG,bz⟩:=awc x aT;refine⟨kT x,?_,aG,bz⟩;have e:∀(S:aq) (k:a1),(aH au G X).bm S k .u8 (.int .u32 (x:Int))=k (.int .u8 (x:Int)) S:=fun S k=>by
  show k (.int .u8 (IntKind.wrap .u8 (x:Int))) S=_
  have:IntKind.wrap .u8 (x:Int)=(x:Int):=by unfold IntKind.wrap;simp only[show IntKind.bits .u8=8 from rfl,show IntKind.signed .u8=false from rfl,c1];show(x:Int)%256=x;omega
  rw[this]
 have xa:∀(S:aq) (k:a1),(aH au G X).bm S k .i64 (.int .u8 (kT x:Int))=k (.int .i64 (kT x:Int)) S:=fun S k=>by show k (.int .i64 (IntKind.wrap .i64 (kT x:Int))) S=_;rw[gJ _ (by omega) (by omega)]
 have h:=fun(S:aq) (k:a1)=>g8 (T:=au) (G:=G) (X:=X) (s:=S) (k:=k) m (kT x) (by omega)
 rw[JK,e];refine(gq G X _ _ x (kT x) ?_).trans ?_
 ·clear h xa e bz aG
  revert x
  decide +kernel
 ·rw[xa,h,b1]
theorem ahF(s:aq)(x:Nat)(aT:x<4294967296):∃n:Nat,az au G X 204 [U x] s=.ok (.int .i64 (n:Int)) s∧n≤32∧x<2^n∧(x≠0→2^n≤2*x):=by
 rw[PK,agB];have h:=fun(S:aq) (k:a1)=>rE (T:=au) (G:=G) (X:=X) (s:=S) (k:=k) .u64 x 16 (by omega)
 have e:∀y m:Nat,y<65536→m≤16→∃n:Nat,oD (aH au G X) (.int .u32 (y:Int)) (.int .i64 (m:Int)) s.af=.ok (.int .i64 ((m+n:Nat):Int)) s∧n≤16∧y<2^n∧(y≠0→2^n≤2*y):=fun y m dX hm=>by
  have r:=fun(S:aq) (k:a1)=>rE (T:=au) (G:=G) (X:=X) (s:=S) (k:=k) .u64 y 8 (by omega)
  have u:=fun(S:aq) (k:a1)=>g8 (T:=au) (G:=G) (X:=X) (s:=S) (k:=k) m 8 (by omega)
  rw[JL];by_cases c:256≤y
  ·have og:(256:Int)≤(y:Int):=by omega
   obtain⟨n,aD,aG,bz,cz⟩:=wQ G X s (y/2^8) (m+8) (by omega) (by omega);refine⟨n+8,?_,by omega,?_,fun cL=>?_⟩
   ·have bU:(aH au G X).ah s.af (fun v10 s=>(aH au G X).ah s (fun B s=>p5 (aH au G X) v10 B s) (al .add (.int .i64 (m:Int)) (.int .i64 8))) (al .shr (.int .u32 (y:Int)) (.int .u64 8))=.ok (.int .i64 ((m+(n+8):Nat):Int)) s:=by
     refine(r _ _).trans ?_;refine(u _ _).trans ?_;rw[aD];congr 3;omega
    simp only[↓cq,↓fG,↓reduceIte,dk,eq_true og,bU]
   ·rw[Nat.pow_add];omega
   ·rw[Nat.pow_add];omega
  ·have og:¬(256:Int)≤(y:Int):=by omega
   obtain⟨n,aD,aG,bz,cz⟩:=wQ G X s y m (by omega) (by omega);refine⟨n,?_,by omega,bz,cz⟩;simp only[↓cq,↓fG,↓reduceIte,c9,co,eq_false og,aD]
 by_cases c:65536≤x
 ·have og:(65536:Int)≤(x:Int):=by omega
  obtain⟨n,aD,aG,bz,cz⟩:=e (x/2^16) 16 (by omega) (by omega);refine⟨16+n,?_,by omega,?_,fun cL=>?_⟩
  ·have bU:(aH au G X).ah s.af (fun v6 s=>oD (aH au G X) v6 (.int .i64 16) s) (al .shr (.int .u32 (x:Int)) (.int .u64 16))=.ok (.int .i64 ((16+n:Nat):Int)) s:=by
    refine(h _ _).trans ?_;exact aD
   simp only[↓cq,↓fG,↓reduceIte,dk,eq_true og,bU]
   try rfl
  ·rw[Nat.pow_add];omega
  ·rw[Nat.pow_add];omega
 ·have og:¬(65536:Int)≤(x:Int):=by omega
  obtain⟨n,aD,aG,bz,cz⟩:=e x 0 (by omega) (by omega);refine⟨n,?_,by omega,bz,cz⟩;rw[cf] at aD;have H:oD (aH au G X) (.int .u32 (x:Int)) (.int .i64 0) s.af=.ok (.int .i64 (n:Int)) s:=aD;simp only[↓cq,↓fG,↓reduceIte,c9,co,eq_false og,H]
theorem ahG(s:aq)(x:Nat)(aT:x<4294967296)(cL:x≠0):∃c:Nat,az au G X 192 [U x] s=.ok (.int .i64 (c:Int)) s∧c<32∧2147483648≤x*2^c∧x*2^c<4294967296:=by
 obtain⟨n,aD,aG,bz,cz⟩:=ahF G X s.af x aT;have h:=cz cL;have bX:n≠0:=fun e=>by subst e;omega
 have u:2^n*2^(32-n)=4294967296:=by rw[←Nat.pow_add,show n+(32-n)=32 by omega]
 refine⟨32-n,?_,by omega,?_,?_⟩
 ·have r:=fun(S:aq) (k:a1)=>mD (T:=au) (G:=G) (X:=X) (s:=S) (k:=k) 32 n aG (by omega)
  rw[PF,agw,cy,aK aD];refine(r _ _).trans ?_;rw[b1]
 ·have:=e7 (2^(32-n)) h;rw[e6] at this;omega
 ·have:=Nat.mul_lt_mul_of_pos_right bz (Nat.two_pow_pos (32-n));omega
theorem LL(s:aq)(u:ai)(a:List Nat)(d:Nat)(y:jC s u a)(B:ci a)(bI:d≠0)(N:d<4294967296)(fO:a.length<9223372036854775807)(j:Nat):∀n k rest out S,k+n=a.length→Child s S→fT S j out→out.length=a.length→ci out→rest<d→val (a.drop n)=val (out.drop n)*d+rest→
  ∃v q,sL (aH au G X) u (.int .u32 (d:Int)) (.cw (.l j) 0 a.length a.length 1) (.int .u64 (rest:Int)) (.int .i64 (a.length:Int)) (.int .i64 (k:Int)) S=.ok (.cT [v,.int .u32 ((val a%d:Nat):Int)]) s∧gT v q∧ci q∧cX q∧val q=val a/d:=by
 intro n
 induction n with
 |zero=>
  intro k rest out S cg e cp br r aQ bG;have h:¬((k:Int)<(a.length:Int)):=by omega
  have O:rest%4294967296=rest:=by omega
  rw[v7];simp only[↓cq,↓be,↓g7,↓reduceIte,c9,co,eq_false h,Jq,fD,O];obtain⟨v,f1,f2⟩:=AH G X e cp a.length br.symm (by omega) (.int .u32 (rest:Int)) rfl;simp only[bT] at bG;refine⟨v,dO out,?_,f1,gL r,fu out,?_⟩
  ·rw[f2,bG,dE,Nat.mul_add_mod,fm aQ]
  ·rw[gP,bG,dE,Nat.mul_add_div (by omega),Nat.div_eq_of_lt aQ,Nat.add_zero]
 |succ n Q=>
  intro k rest out S cg e cp br r aQ bG;have h:(k:Int)<(a.length:Int):=by omega
  obtain⟨H,I,J,K⟩:=LI a out n d rest bI (by omega) br B r aQ bG;have aT:=B.getD n;rw[jU] at H I J K aT;have g0:=fun(k:a1)=>(y.jO e.jO).get (T:=au) (G:=G) (X:=X) .i64 n (by omega) k
  have ez:=fun x (k:a1)=>cp.ez (T:=au) (G:=G) (X:=X) n a.length a.length x (by omega) (by omega) k
  have R:=fun(S:aq) (k:a1)=>y.len (T:=au) (G:=G) (X:=X) k S
  have U:=fun(S:aq) (k:a1)=>iS (T:=au) (G:=G) (X:=X) (s:=S) (k:=k) a.length (by omega) (by omega)
  have L:=fun(S:aq) (jh:a1)=>mD (T:=au) (G:=G) (X:=X) (s:=S) (k:=jh) (a.length-1) k (by omega) (by omega)
  have V:=fun(S:aq) (jh:a1)=>nm (T:=au) (G:=G) (X:=X) (s:=S) (k:=jh) k (by omega)
  have Y:a.length-1-k=n:=by omega
  simp only[Y] at L;have Z:rest*4294967296%18446744073709551616=rest*4294967296:=by omega
  have aa:=fun(S:aq) (k:a1)=>fC (T:=au) (G:=G) (X:=X) (s:=S) (k:=k) (a.getD n 0) aT
  have M:=fun(S:aq) (k:a1)=>fC (T:=au) (G:=G) (X:=X) (s:=S) (k:=k) d N
  have ab:=fun(S:aq) (k:a1)=>yZ (T:=au) (G:=G) (X:=X) (s:=S) (k:=k) rest (a.getD n 0) aT (by omega)
  have d1:=fun(S:aq) (k:a1)=>xj (T:=au) (G:=G) (X:=X) (s:=S) (k:=k) (rest*4294967296+a.getD n 0) d bI (by omega)
  have d2:=fun(S:aq) (k:a1)=>DL (T:=au) (G:=G) (X:=X) (s:=S) (k:=k) (rest*4294967296+a.getD n 0) d bI
  have em:(rest*4294967296+a.getD n 0)/d%4294967296=(rest*4294967296+a.getD n 0)/d:=fm H;rw[v7];simp only[↓cq,↓be,↓reduceIte,dk,eq_true h];rw[Jp,R,U,L,qH,Z,g0,aa,ab,M,d1,g7,em];simp only[cy];rw[ez,M,d2,Jo,V];exact Q (k+1) _ _ _ (by omega) (e.put _ _) (cp.put _) (by simp [br]) I J K
theorem ahH(s:aq)(e:ai)(a:List Nat)(d:Nat)(r:jC s e a)(y:ci a)(bI:d≠0)(B:d<4294967296)(fO:a.length<4294967296):
  ∃v q,az au G X 190 [e,U d] s=.ok (.cT [v,.int .u32 ((val a%d:Nat):Int)]) s∧gT v q∧ci q∧cX q∧val q=val a/d:=by
 rw[PD,agu];have u:=fun(S:aq) (k:a1)=>r.len (T:=au) (G:=G) (X:=X) k S
 have H:=fun(S:aq) (k:a1)=>lQ (T:=au) (G:=G) (X:=X) (s:=S) (k:=k) (U 0) 4 a.length a.length (aX _) (by omega)
 rw[u];refine Exists.imp (fun v h=>Exists.imp (fun q h=>?_) h) (LL G X s e a d r y bI B (by omega) _ a.length 0 0 _ _ (by omega) ((Child.af s).new (.cells (List.replicate a.length (U 0)))) (fT.make _ _) (by simp) (la _) (by omega) (by rw[List.drop_length,hl (by simp)];simp [val]));refine⟨?_,h.2⟩;refine(H _ _).trans ?_;rw[u];exact h.1
theorem ahI(a b:Nat)(e:a<4294967296)(h:b<4294967296):((BitVec.ofInt 32 (a:Int) ||| BitVec.ofInt 32 (b:Int)).toNat:Int)=((a ||| b:Nat):Int):=by
 rw[BitVec.toNat_or];simp only[BitVec.toNat_ofInt];congr 1;have aD:(((a:Int)%((2^32:Nat):Int))).toNat=a:=by omega
 have aG:(((b:Int)%((2^32:Nat):Int))).toNat=b:=by omega
 rw[aD,aG]
theorem Zx{s:aq}{k:a1}(c y q p:Nat)(a9:c<2^p)(dX:y=q*2^p)(dQ:q*2^p+c<4294967296):(aH au G X).ah s k (al .or (.int .u32 (c:Int)) (.int .u32 (y:Int)))=k (.int .u32 ((c+y:Nat):Int)) s:=by
 subst dX;have e:al .or (.int .u32 (c:Int)) (.int .u32 ((q*2^p:Nat):Int))=some (.int .u32 (IntKind.wrap .u32 ((BitVec.ofInt 32 (c:Int) ||| BitVec.ofInt 32 ((q*2^p:Nat):Int)).toNat:Int))):=by simp only[al,gy,↓reduceIte];rfl
 rw[e,ahI _ _ (by omega) (by omega),n4,wrap_u32];congr 2
 have:c ||| q*2^p=c+q*2^p:=by rw[Nat.or_comm,dE,←Nat.two_pow_add_eq_or_of_lt a9,Nat.add_comm]
 rw[this];omega
theorem LM(s:aq)(I:ai)(l:List Nat)(n:Nat)(Q:jC s I l)(u:ci l)(bX:n<4294967296)(fO:l.length<4294967296)(j N:Nat)(pE:N=l.length+n/32+1):∀m i out S,i+m=l.length→Child s S→fT S j out→out.length=N→ci out→val (out.take (i+n/32+1))=val (l.take i)*2^(32*(n/32)+n%32)→out.getD (i+n/32) 0<2^(n%32)→
  ∃v q,sP (aH au G X) I (.int .i64 (n:Int)) (.cw (.l j) 0 N N 1) (.int .i64 (l.length:Int)) (.int .i64 (i:Int)) S=.ok v s∧gT v q∧ci q∧cX q∧val q=val l*2^n:=by
 intro m
 induction m with
 |zero=>
  intro i out S bk r cp br H bG a9;have h:¬((i:Int)<(l.length:Int)):=by omega
  rw[v9];simp only[↓cq,↓be,↓reduceIte,c9,co,eq_false h,Jv,fD];obtain⟨v,f1,f2⟩:=aaO G X r cp N br.symm (by omega);refine⟨v,dO out,f2,f1,gL H,fu out,?_⟩;have bU:i=l.length:=by omega
  rw[bU] at bG;rw[gP,←List.take_length (l:=out),br,pE,bG,List.take_length,Nat.div_add_mod]
 |succ m R=>
  intro i out S bk r cp br H bG a9;have h:(i:Int)<(l.length:Int):=by omega
  have aQ:n%32<32:=Nat.mod_lt _ (by omega);obtain⟨q,J,U⟩:=vb (l.getD i 0) (n%32) aQ;have K:=vc (l.getD i 0) (n%32) (u.getD i) aQ;have e:=AG l out i (n/32) (n%32) aQ (by omega) (by omega) H u bG a9 _ rfl _ rfl;simp only[] at e;have aT:=u.getD i;have V:B=4294967296:=rfl;have ag:2^(n%32)≤2^32:=Nat.pow_le_pow_right (by omega) (by omega);rw[V] at J U K e aT;generalize Y:l.getD i 0=x at *;have g0:=fun(k:a1)=>(Q.jO r.jO).get (T:=au) (G:=G) (X:=X) .i64 i (by omega) k
  rw[Y] at g0;have Z:=fun(S:aq) (k:a1)=>fC (T:=au) (G:=G) (X:=X) (s:=S) (k:=k) x aT
  have hG:=fun(S:aq) (k:a1)=>mV (T:=au) (G:=G) (X:=X) (s:=S) (k:=k) n
  have L:=fun(S:aq) (k:a1)=>kL (T:=au) (G:=G) (X:=X) (s:=S) (k:=k) n (by omega)
  have s1:=fun(S:aq) (k:a1)=>sD (T:=au) (G:=G) (X:=X) (s:=S) (k:=k) .i64 x (n%32) (by omega)
  have es:x*2^(n%32)%18446744073709551616=x*2^(n%32):=fm K.2;have M:=fun(S:aq) (k:a1)=>g8 (T:=au) (G:=G) (X:=X) (s:=S) (k:=k) i (n/32) (by omega)
  have aa:=fun S k=>fJ G X S k (i+n/32) (by omega)
  have ab:=fun S k=>fJ G X S k i (by omega)
  have g1:=fun(k:a1)=>cp.get (T:=au) (G:=G) (X:=X) (i+n/32) N N (by omega) (by omega) k
  have ac:=fun(S:aq) (k:a1)=>Zx G X (s:=S) (k:=k) (out.getD (i+n/32) 0) (x*2^(n%32)%4294967296) q (n%32) a9 J (by omega)
  have n7:=fun y (k:a1)=>cp.ez (T:=au) (G:=G) (X:=X) (i+n/32) N N y (by omega) (by omega) k
  have O:=cp.put (out.set (i+n/32) (out.getD (i+n/32) 0+x*2^(n%32)%4294967296));have ad:=fun y (k:a1)=>O.ez (T:=au) (G:=G) (X:=X) (i+n/32+1) N N y (by simp;omega) (by omega) k
  have ae:x*2^(n%32)/4294967296%4294967296=x*2^(n%32)/4294967296:=fm (by omega);have af:=O.put ((out.set (i+n/32) (out.getD (i+n/32) 0+x*2^(n%32)%4294967296)).set (i+n/32+1) (x*2^(n%32)/4294967296))
  have:=R (i+1) _ _ (by omega) ((r.put _ _).put _ _) af (by simp [br]) e.1 e.2.2.1 e.2.2.2;refine Exists.imp (fun v aG=>Exists.imp (fun q bz=>⟨?_,bz.2⟩) aG) this;rw[v9];simp only[↓cq,↓be,↓reduceIte,dk,eq_true h];rw[Ju,g0,Z,hG,s1,es,L,M,g1,g7,ac];simp only[cy];rw[n7,L,M,aa,qI,g7,ae];simp only[cy];rw[ad,Jt,ab];exact bz.1
theorem LN(s:aq)(e:ai)(l:List Nat)(n:Nat)(h:jC s e l)(u:ci l)(bX:n<4294967296)(fO:l.length<4294967296):
  ∃v q,az au G X 193 [e,.int .i64 (n:Int)] s=.ok v s∧gT v q∧ci q∧cX q∧val q=val l*2^n:=by
 rw[PG,agx];have r:=fun(S:aq) (k:a1)=>h.len (T:=au) (G:=G) (X:=X) k S
 have y:=fun(S:aq) (k:a1)=>kL (T:=au) (G:=G) (X:=X) (s:=S) (k:=k) n (by omega)
 have B:=fun(S:aq) (k:a1)=>g8 (T:=au) (G:=G) (X:=X) (s:=S) (k:=k) l.length (n/32) (by omega)
 have H:=fun S k=>fJ G X S k (l.length+n/32) (by omega)
 have I:=fun(S:aq) (k:a1)=>lQ (T:=au) (G:=G) (X:=X) (s:=S) (k:=k) (U 0) 4 (l.length+n/32+1) (l.length+n/32+1) (aX _) (by omega)
 have J:∀m i,(List.replicate m 0).getD i 0=0:=fun m i=>by simp only[List.getD,List.getElem?_replicate];split<;> rfl
 have K:=LM G X s e l n h u bX fO s.af.own.length _ rfl l.length 0 _ _ (by omega) ((Child.af s).new (.cells (List.replicate (l.length+n/32+1) (U 0)))) (fT.make _ _) (by simp) (la _) (by rw[List.take_replicate,AD];simp [val]) (by rw[J];exact Nat.two_pow_pos _);refine Exists.imp (fun v aG=>Exists.imp (fun q bz=>⟨?_,bz.2⟩) aG) K;rw[r,y,B,H];refine(I _ _).trans ?_;rw[r];exact bz.1
end Go.h6
end
section
namespace Go.hd
def lF(a b:Nat):Nat:=(((a:Int)-(b:Int))%18446744073709551616).toNat
theorem CJ(u p c:Nat)(hu:u<4294967296)(aU:p<4294967296)(a9:c≤4294967296)(e:p+c≤4294967296):lF (lF u p) c%4294967296+p+c=u+4294967296*(lF (lF u p) c/9223372036854775808)∧lF (lF u p) c/9223372036854775808≤1:=by unfold lF;omega
theorem AI(l:List Nat)(j i:Nat):(l.drop j).getD i 0=l.getD (j+i) 0:=by simp [List.getD,List.getElem?_drop]
def eN(l:List Nat)(j i:Nat):Nat:=val ((l.drop j).take i)
theorem CK(l:List Nat)(j:Nat):eN l j 0=0:=by simp [eN,val]
theorem fQ(l:List Nat)(j i:Nat)(h:j+i<l.length):eN l j (i+1)=eN l j i+B^i*l.getD (j+i) 0:=by unfold eN;rw[val_succ _ i (by simp;omega),AI]
theorem ui(l:List Nat)(j i k x:Nat)(h:j+i≤k):eN (l.set k x) j i=eN l j i:=by
 unfold eN;rw[List.drop_set];split
 ·rfl
 ·rw[lb (by omega)]
theorem EZ(vs:List Nat)(i:Nat):eN vs 0 i=val (vs.take i):=by simp [eN]
theorem uj(l:List Nat)(j n:Nat)(h:j+n≤l.length):val (l.drop j)=eN l j n+B^n*val (l.drop (j+n)):=by have:=iH (l.drop j) n (by simp;omega);rw[this,List.drop_drop];rfl
theorem uk(l:List Nat)(j i:Nat)(h:ci l):eN l j i<B^i:=by
 have:=eI ((l.drop j).take i) ((h.drop j).take i);have aG:((l.drop j).take i).length≤i:=by simp;omega
 exact gm this (ih aG)
theorem QM(h gD vs:List Nat)(j i q carry e:Nat)(dQ:q<B)(bk:i<vs.length)(cp:j+i<h.length)(me:ci vs)(I:ci h)(a9:carry<B)(M:e≤1)(K:h.getD (j+i) 0=gD.getD (j+i) 0)(br:h.length=gD.length)
  (bG:eN h j i+q*eN vs 0 i=eN gD j i+(carry+e)*B^i):
  let p:=q*vs.getD i 0+carry
  let t:=lF (lF (h.getD (j+i) 0) (p%B)) e
  p<18446744073709551616∧p/B<B∧t/9223372036854775808≤1∧t%B<B∧ci (h.set (j+i) (t%B))∧eN (h.set (j+i) (t%B)) j (i+1)+q*eN vs 0 (i+1)=eN gD j (i+1)+(p/B+t/9223372036854775808)*B^(i+1):=by
 have N:=me.getD i;have aU:q*vs.getD i 0+carry<B*B:=by
  have aD:q*vs.getD i 0≤(B-1)*(B-1):=Nat.mul_le_mul (by omega) (by omega);have aG:(B-1)*(B-1)+B≤B*B:=by decide
  omega
 have O:B*B=18446744073709551616:=by decide
 have bI:=CJ (h.getD (j+i) 0) ((q*vs.getD i 0+carry)%B) e (I.getD _) (Nat.mod_lt _ gp) (by have:=jU;omega) (by have:=Nat.mod_lt (q*vs.getD i 0+carry) gp;rw[jU] at this ⊢;omega);have J:lF (lF (h.getD (j+i) 0) ((q*vs.getD i 0+carry)%B)) e%B<B:=Nat.mod_lt _ gp;refine⟨by omega,by rw[Nat.div_lt_iff_lt_mul gp];exact aU,bI.2,J,I.set _ _ J,?_⟩;rw[fQ _ _ _ (by simpa using cp),ui _ _ _ _ _ (aX _),fb cp,fQ vs 0 i (by omega),fQ gD j i (by omega),cf,←K];have hm:=Nat.mod_add_div (q*vs.getD i 0+carry) B;rw[←jU] at bI;generalize lF (lF (h.getD (j+i) 0) ((q*vs.getD i 0+carry)%B)) e=t at *;generalize t/9223372036854775808=r at *;generalize t%B=y at *;generalize Q:(q*vs.getD i 0+carry)%B=pl at *;generalize (q*vs.getD i 0+carry)/B=H at *;generalize h.getD (j+i) 0=u at *;have key:y+q*vs.getD i 0+carry+e=u+(H+r)*B:=by rw[e0,dE H B,dE r B];omega
 have hj:B^i*(y+q*vs.getD i 0+carry+e)=B^i*(u+(H+r)*B):=by rw[key]
 have bU:B^i*(y+q*vs.getD i 0+carry+e)=B^i*y+q*(B^i*vs.getD i 0)+(carry+e)*B^i:=by rw[show y+q*vs.getD i 0+carry+e=y+(q*vs.getD i 0+(carry+e)) from by omega,eg,eg,Nat.mul_left_comm,dE (B^i) (carry+e)];omega
 have L:B^i*(u+(H+r)*B)=B^i*u+(H+r)*B^(i+1):=by rw[eg,Nat.pow_succ,Nat.mul_left_comm]
 rw[bU,L] at hj;rw[eg];generalize (H+r)*B^(i+1)=R at *;generalize (carry+e)*B^i=U at *;generalize q*(B^i*vs.getD i 0)=V at *;generalize q*eN vs 0 i=Y at *;omega
theorem QN(e gD vs:List Nat)(j i carry:Nat)(bk:i<vs.length)(cp:j+i<e.length)(me:ci vs)(r:ci e)(a9:carry≤1)(H:e.getD (j+i) 0=gD.getD (j+i) 0)(br:e.length=gD.length)
  (bG:eN e j i+carry*B^i=eN gD j i+eN vs 0 i):
  let t:=e.getD (j+i) 0+vs.getD i 0+carry
  t<18446744073709551616∧t/B≤1∧ci (e.set (j+i) (t%B))∧eN (e.set (j+i) (t%B)) j (i+1)+t/B*B^(i+1)=eN gD j (i+1)+eN vs 0 (i+1):=by
 have K:=me.getD i;have L:=r.getD (j+i);have M:=jU;have I:(e.getD (j+i) 0+vs.getD i 0+carry)%B<B:=Nat.mod_lt _ gp;refine⟨by omega,?_,r.set _ _ I,?_⟩
 ·have:(e.getD (j+i) 0+vs.getD i 0+carry)/B<2:=by rw[Nat.div_lt_iff_lt_mul gp];omega
  omega
 rw[fQ _ _ _ (by simpa using cp),ui _ _ _ _ _ (aX _),fb cp,fQ vs 0 i (by omega),fQ gD j i (by omega),cf,←H];have hm:=Nat.mod_add_div (e.getD (j+i) 0+vs.getD i 0+carry) B;generalize (e.getD (j+i) 0+vs.getD i 0+carry)%B=y at *;generalize (e.getD (j+i) 0+vs.getD i 0+carry)/B=h at *;generalize e.getD (j+i) 0=u at *;generalize vs.getD i 0=v at *;have hj:B^i*(y+B*h)=B^i*(u+v+carry):=by rw[hm]
 have bU:B^i*(y+B*h)=B^i*y+h*B^(i+1):=by rw[eg,Nat.pow_succ,dE h,e6]
 have J:B^i*(u+v+carry)=B^i*u+B^i*v+carry*B^i:=by rw[eg,eg,dE carry]
 rw[bU,J] at hj;generalize h*B^(i+1)=N at *;generalize carry*B^i=O at *;omega
theorem LO(U V q n K h r u y v1 v2:Nat)(R:U=(r*B*B+u*B+y)*B^n+K)(H:V=(v1*B+v2)*B^n+h)(Y:K<B^n)(L:h<B^n)(Z:B≤2*v1)(dQ:q<B)(aD:q*(v1*B+v2)≤r*B*B+u*B+y)(aG:∀rq,rq<B→rq*(v1*B+v2)≤r*B*B+u*B+y→rq≤q)(M:U<B*V):
  U/V≤q∧q≤U/V+1:=by
 have I:0<V:=by
  have:1≤v1:=by have:=gp;omega
  have bz:1*B≤v1*B:=e7 _ this;have cz:1*B^n≤(v1*B+v2)*B^n:=e7 _ (by have:=gp;omega)
  have:=Nat.pow_pos (n:=n) gp;omega
 constructor
 ·refine aG _ (by rw[Nat.div_lt_iff_lt_mul I];exact M) ?_;have bz:U/V*V≤U:=Nat.div_mul_le_self U V;have cz:U/V*(v1*B+v2)*B^n≤U/V*V:=by
   rw[e6];exact Nat.mul_le_mul_left _ (by omega)
  have J:U/V*(v1*B+v2)*B^n<(r*B*B+u*B+y+1)*B^n:=by rw[e0 _ 1,Nat.one_mul];omega
  have:=Nat.lt_of_mul_lt_mul_right J;omega
 ·have bz:q*V≤U+V:=by
   rw[H,eg,←e6];have cz:q*(v1*B+v2)*B^n≤(r*B*B+u*B+y)*B^n:=e7 _ aD;have J:q*h≤B*B^n:=Nat.mul_le_mul (Nat.le_of_lt dQ) (Nat.le_of_lt L);have N:B*B^n≤(v1*B+v2)*B^n:=by
    refine e7 _ ?_
    have:1*B≤v1*B:=e7 _ (by have:=gp;omega);omega
   omega
  have aa:q*V≤(U/V+1)*V+V:=by have:=Nat.div_add_mod U V;have O:=Nat.mod_lt U I;rw[e0,Nat.one_mul,dE (U/V)];omega
  have Q:q*V<(U/V+2)*V:=by
   rw[H,eg,←e6];have cz:q*(v1*B+v2)*B^n≤(r*B*B+u*B+y)*B^n:=e7 _ aD;have J:q*h≤B*h:=e7 _ (Nat.le_of_lt dQ);have ab:B*h<B*B^n:=Nat.mul_lt_mul_of_pos_left L gp;have N:B*B^n≤(v1*B+v2)*B^n:=by
    refine e7 _ ?_
    have:1*B≤v1*B:=e7 _ (by have:=gp;omega);omega
   have ac:q*(v1*B+v2)*B^n+q*h<U+V:=by omega
   have ad:=Nat.div_add_mod U V;have O:=Nat.mod_lt U I;rw[←H];have e:(U/V+2)*V=V*(U/V)+V+V:=by rw[e0,dE (U/V)];omega
   rw[e];omega
  have:=Nat.lt_of_mul_lt_mul_right Q;omega
end Go.hd
namespace Go.hd
theorem aaP(n w x R:Nat)(h:w+B^n*x=B^(n+1)+R)(hw:w<B^n)(e:R<B^n):x=B∧w=R:=by
 rw[Nat.pow_succ] at h;have aT:x=B:=by
  have aD:(w+B^n*x)/B^n=x:=by rw[Nat.add_mul_div_left _ _ (Nat.pow_pos gp),Nat.div_eq_of_lt hw,cf]
  have aG:(B^n*B+R)/B^n=B:=by rw[Nat.add_comm,Nat.add_mul_div_left _ _ (Nat.pow_pos gp),Nat.div_eq_of_lt e,cf]
  rw[←aD,h,aG]
 subst aT;exact⟨rfl,by omega⟩
theorem ul(vs:List Nat):val vs=eN vs 0 vs.length:=by rw[EZ,List.take_length]
theorem LP(x y r:Nat)(aQ:r<32)(aT:x<B):x%2^r+(x+B*y)/2^r%B*2^r=x+B*(y%2^r):=by
 have h:=Nat.two_pow_pos r;have e:B=2^r*2^(32-r):=by rw[←Nat.pow_add,uh];congr 1;omega
 generalize J:(2:Nat)^(32-r)=Q at *;generalize (2:Nat)^r=P at *;have bU:(x+B*y)/P=x/P+Q*y:=by rw[e,e6,Nat.add_mul_div_left _ _ h]
 have K:x/P<Q:=by rw[Nat.div_lt_iff_lt_mul h,dE,←e];exact aT
 have u:Q*y=B*(y/P)+Q*(y%P):=by
  conv=>lhs;rw[←Nat.div_add_mod y P]
  rw[eg,e,←e6,dE Q P]
 have H:x/P+Q*(y%P)<B:=by have aD:y%P+1≤P:=Nat.mod_lt _ h;have aG:=Nat.mul_le_mul_left Q aD;rw[eg,Nat.mul_one,dE Q P,←e] at aG;omega
 have I:(x+B*y)/P%B=x/P+Q*(y%P):=by rw[bU,u,show x/P+(B*(y/P)+Q*(y%P))=x/P+Q*(y%P)+B*(y/P) by omega,Nat.add_mul_mod_self_left,fm H]
 rw[I,e0,e];have cz:=Nat.mod_add_div x P;have L:Q*(y%P)*P=P*Q*(y%P):=by rw[dE,←e6]
 have M:x/P*P=P*(x/P):=dE _ _;omega
theorem wR(l out:List Nat)(w i r:Nat)(aQ:r<32)(e:ci l)(h:ci out)(bk:i<out.length)(br:w+i<l.length)(bG:val (out.take i)*2^r+l.getD w 0%2^r=val ((l.drop w).take i)+B^i*(l.getD (w+i) 0%2^r)):
  ci (out.set i ((l.getD (w+i) 0+B*l.getD (w+i+1) 0)/2^r%B))∧val ((out.set i ((l.getD (w+i) 0+B*l.getD (w+i+1) 0)/2^r%B)).take (i+1))*2^r+l.getD w 0%2^r=val ((l.drop w).take (i+1))+B^(i+1)*(l.getD (w+(i+1)) 0%2^r):=by
 refine⟨h.set _ _ (Nat.mod_lt _ gp),?_⟩;have aD:=LP (l.getD (w+i) 0) (l.getD (w+i+1) 0) r aQ (e.getD _);generalize dX:(l.getD (w+i) 0+B*l.getD (w+i+1) 0)/2^r%B=y at *;have s1:=val_succ (out.set i y) i (by simpa using bk);have s2:=val_succ (l.drop w) i (by simp;omega);have g1:(out.set i y).getD i 0=y:=fb bk;rw[AI] at s2;rw[s1,s2,g1,lb (aX _),e0,Nat.pow_succ,←Nat.add_assoc w i 1];have aG:B^i*(l.getD (w+i) 0%2^r+y*2^r)=B^i*(l.getD (w+i) 0+B*(l.getD (w+i+1) 0%2^r)):=by rw[aD]
 rw[eg,eg,←e6,←e6] at aG;omega
theorem CL(l:List Nat)(w:Nat)(e:ci l)(h:w≤l.length):val l/B^w=val (l.drop w):=by
 have aD:=iH l w h;have bz:=eI (l.take w) (e.take _);have cz:(l.take w).length=w:=by simp;omega
 rw[cz] at bz;rw[aD,Nat.add_mul_div_left _ _ (Nat.pow_pos gp),Nat.div_eq_of_lt bz,cf]
theorem AJ(l out:List Nat)(w r n:Nat)(bX:n=32*w+r)(e:ci l)(hw:w<l.length)(bG:val out*2^r+l.getD w 0%2^r=val (l.drop w)):val out=val l/2^n:=by rw[bX,←AF,←Nat.div_div_eq_div_mul,CL l w e (by omega),←bG,dE,Nat.mul_add_div (Nat.two_pow_pos _),Nat.div_eq_of_lt (Nat.mod_lt _ (Nat.two_pow_pos _)),Nat.add_zero]
theorem wS(l:List Nat)(n:Nat)(e:ci l)(h:l.length≤n/32):val l/2^n=0:=by
 apply Nat.div_eq_of_lt;have aD:=eI l e;have aG:B^l.length≤B^(n/32):=ih h;have bz:(2:Nat)^n=B^(n/32)*2^(n%32):=by rw[AF,Nat.div_add_mod]
 have cz:B^(n/32)*1≤B^(n/32)*2^(n%32):=Nat.mul_le_mul_left _ (Nat.two_pow_pos _);omega
end Go.hd
end
section
namespace Go.h6
open Go.Ab Go.hd
variable(G:Nat→ai)(X:Nat→List ai→aq→ao)
theorem ahJ{s:aq}{k:a1}(c q:Nat)(a9:c<4294967296)(dQ:q<4294967296):(aH au G X).ah s k (al .or (.int .u64 (c:Int)) (.int .u64 ((q*4294967296:Nat):Int)))=k (.int .u64 ((c+4294967296*q:Nat):Int)) s:=by
 have e:al .or (.int .u64 (c:Int)) (.int .u64 ((q*4294967296:Nat):Int))=some (.int .u64 (IntKind.wrap .u64 ((BitVec.ofInt 64 (c:Int) ||| BitVec.ofInt 64 ((q*4294967296:Nat):Int)).toNat:Int))):=by simp only[al,gy,↓reduceIte];rfl
 rw[e,Nl _ _ (by omega) (by omega),n4,iZ];congr 2
 have:c ||| q*4294967296=c+4294967296*q:=by have h:=Nat.two_pow_add_eq_or_of_lt (i:=32) (b:=c) (by omega) q;rw[Nat.or_comm,dE];rw[show(4294967296:Nat)=2^32 from rfl,←h,Nat.add_comm]
 rw[this];omega
theorem AK(kk:IntKind)(a b:Int):∃c,∀(s:aq) (k:a1),(aH au G X).ah s k (al .and (.int kk a) (.int kk b))=k (.int kk c) s:=by refine⟨kk.wrap (BitVec.ofInt kk.bits a &&& BitVec.ofInt kk.bits b).toNat,fun s k=>?_⟩;rw[show al .and (.int kk a) (.int kk b)=some (.int kk (kk.wrap (BitVec.ofInt kk.bits a &&& BitVec.ofInt kk.bits b).toNat)) from by simp [al,gy]];rfl
theorem LQ(s:aq)(H:ai)(l:List Nat)(n:Nat)(lost:Bool)(I:jC s H l)(r:ci l)(bX:n<4294967296)(fO:l.length<4294967296)(bl:n/32<l.length)(j N:Nat)(pE:N=l.length-n/32):∀m i out S,i+m=N→Child s S→fT S j out→out.length=N→ci out→
  val (out.take i)*2^(n%32)+l.getD (n/32) 0%2^(n%32)=val ((l.drop (n/32)).take i)+B^i*(l.getD (n/32+i) 0%2^(n%32))→
  ∃v q,p4 (aH au G X) H (.int .i64 (n:Int)) (.int .i64 ((n/32:Nat):Int)) (.bool lost) (.cw (.l j) 0 N N 1) (.int .i64 (N:Int)) (.int .i64 (i:Int)) S=.ok (.cT [v,.bool lost]) s∧gT v q∧ci q∧cX q∧val q=val l/2^n:=by
 intro m
 induction m with
 |zero=>
  intro i out S bk e cp br J bG;have h:¬((i:Int)<(N:Int)):=by omega
  rw[we];simp only[↓cq,↓be,↓reduceIte,c9,co,eq_false h,JI,fD];obtain⟨v,f1,f2⟩:=AH G X e cp N br.symm (by omega) (.bool lost) rfl;refine⟨v,dO out,f2,f1,gL J,fu out,?_⟩;rw[gP];have kR:l.getD (n/32+i) 0=0:=by simp only[List.getD];rw[List.getElem?_eq_none (by omega)];rfl
  rw[kR,Nat.zero_mod,Nat.mul_zero,Nat.add_zero,gG (by omega),gG (by simp;omega)] at bG;exact AJ l out (n/32) (n%32) n (Nat.div_add_mod n 32).symm r bl bG
 |succ m O=>
  intro i out S bk e cp br J bG;have h:(i:Int)<(N:Int):=by omega
  have aQ:n%32<32:=Nat.mod_lt _ (by omega);have M:=wR l out (n/32) i (n%32) aQ r J (by omega) (by omega) bG;have aT:=r.getD (n/32+i);have dX:=r.getD (n/32+i+1);have Q:B=4294967296:=rfl;rw[Q] at aT dX;have g0:=fun(k:a1)=>(I.jO e.jO).get (T:=au) (G:=G) (X:=X) .i64 (n/32+i) (by omega) k
  have R:=fun(S:aq) (k:a1)=>fC (T:=au) (G:=G) (X:=X) (s:=S) (k:=k) (l.getD (n/32+i) 0) aT
  have U:=fun(S:aq) (k:a1)=>fC (T:=au) (G:=G) (X:=X) (s:=S) (k:=k) (l.getD (n/32+i+1) 0) dX
  have hG:=fun(S:aq) (k:a1)=>mV (T:=au) (G:=G) (X:=X) (s:=S) (k:=k) n
  have V:=fun(S:aq) (k:a1)=>I.len (T:=au) (G:=G) (X:=X) k S
  have u:=fun(S:aq) (k:a1)=>g8 (T:=au) (G:=G) (X:=X) (s:=S) (k:=k) i (n/32) (by omega)
  have K:=fun S k=>fJ G X S k (i+n/32) (by omega)
  have Y:=fun S k=>fJ G X S k i (by omega)
  have Z:i+n/32=n/32+i:=Nat.add_comm _ _;simp only[Z] at u K;have n7:=fun y (k:a1)=>cp.ez (T:=au) (G:=G) (X:=X) i N N y (by omega) (by omega) k
  have s1:=fun t (S:aq) (k:a1)=>xk (T:=au) (G:=G) (X:=X) (s:=S) (k:=k) .i64 t (n%32) (by omega)
  have this:=O (i+1) _ _ (by omega) (e.put _ _) (cp.put (out.set i ((l.getD (n/32+i) 0+B*l.getD (n/32+i+1) 0)/2^(n%32)%B))) (by simp [br]) M.1 M.2;refine Exists.imp (fun v aG=>Exists.imp (fun q bz=>⟨?_,bz.2⟩) aG) this;have L:sU (aH au G X) H (.int .i64 (n:Int)) (.int .i64 ((n/32:Nat):Int)) (.bool lost) (.cw (.l j) 0 N N 1) (.int .i64 (i:Int)) (.int .u64 ((l.getD (n/32+i) 0+4294967296*l.getD (n/32+i+1) 0:Nat):Int)) (.int .i64 (N:Int)) (.int .i64 (i:Int)) S=.ok (.cT [v,.bool lost]) s:=by rw[JG,hG,s1,g7];simp only[cy];rw[n7,JF,Y];exact bz.1
  rw[we];simp only[↓cq,↓be,↓reduceIte,dk,eq_true h];rw[JH,u,g0,R,u,K,V,be,cq];by_cases aa:n/32+i+1<l.length
  ·have ab:=fun(k:a1)=>(I.jO e.jO).get (T:=au) (G:=G) (X:=X) .i64 (n/32+i+1) aa k
   have ac:=fun(S:aq) (k:a1)=>ahJ G X (s:=S) (k:=k) (l.getD (n/32+i) 0) (l.getD (n/32+i+1) 0) aT dX
   have es:l.getD (n/32+i+1) 0*4294967296%18446744073709551616=l.getD (n/32+i+1) 0*4294967296:=fm (by omega);rw[if_pos (by simp only[ij];omega),u,K,ab,U,qH,es,ac];exact L
  ·rw[if_neg (by simp only[ij];omega)];have kR:l.getD (n/32+i+1) 0=0:=by simp only[List.getD];rw[List.getElem?_eq_none (by omega)];rfl
   rw[kR,Nat.mul_zero,Nat.add_zero] at L;exact L
theorem ahK(s:aq)(e:ai)(l:List Nat)(n:Nat)(r:jC s e l)(B:ci l)(bX:n<4294967296)(fO:l.length<4294967296):
  ∃v q lost,az au G X 196 [e,.int .i64 (n:Int)] s=.ok (.cT [v,.bool lost]) s∧gT v q∧ci q∧cX q∧val q=val l/2^n:=by
 rw[PJ,agA];have u:=fun(S:aq) (k:a1)=>r.len (T:=au) (G:=G) (X:=X) k S
 have H:=fun(S:aq) (k:a1)=>kL (T:=au) (G:=G) (X:=X) (s:=S) (k:=k) n (by omega)
 by_cases bl:n/32<l.length
 ·have h:¬((l.length:Int)≤((n/32:Nat):Int)):=by omega
  rw[H,u,fG,cq,if_neg (by simpa using h)];have ku:=Child.af s;have y:=r.cut (n/32) (by omega);have hlen:(l.take (n/32)).length=n/32:=by simp;omega
  have K:=np G X s.af (kj e (n/32)) (l.take (n/32)) (y.jO ku.jO) (by rw[hlen];omega);have L:=y.cut (fg (l.take (n/32)) (l.take (n/32)).length) (hP _ _);have M:=fun(S:aq) (k:a1)=>L.len (T:=au) (G:=G) (X:=X) k S
  have N:=fun(S:aq) (k:a1)=>mD (T:=au) (G:=G) (X:=X) (s:=S) (k:=k) l.length (n/32) (by omega) (by omega)
  have O:=fun(S:aq) (k:a1)=>lQ (T:=au) (G:=G) (X:=X) (s:=S) (k:=k) (U 0) 4 (l.length-n/32) (l.length-n/32) (aX _) (by omega)
  have fin:∀lost,∃v q,(aH au G X).aY s.af (fun Q s=>(aH au G X).ah s (fun I s=>(aH au G X).jf s (fun J s=>(aH au G X).aY s (fun R s=>p4 (aH au G X) e (.int .i64 (n:Int)) (.int .i64 ((n/32:Nat):Int)) (.bool lost) J R (.int .i64 0) s) false J) [.int .u32 0] 4 I I) (al .sub Q (.int .i64 ((n/32:Nat):Int)))) false e=.ok (.cT [v,.bool lost]) s∧gT v q∧ci q∧cX q∧val q=val l/2^n:=fun lost=>by have V:=LQ G X s e l n lost r B bX fO bl s.af.own.length _ rfl (l.length-n/32) 0 _ _ (by omega) (ku.new (.cells (List.replicate (l.length-n/32) (U 0)))) (fT.make _ _) (by simp) (la _) (by simp [val]);refine Exists.imp (fun v aG=>Exists.imp (fun q bz=>⟨?_,bz.2⟩) aG) V;rw[u,N];refine(O _ _).trans ?_;rw[jA];exact bz.1
  have g0:=fun(k:a1)=>(r.jO ku.jO).get (T:=au) (G:=G) (X:=X) .i64 (n/32) bl k
  have hG:=fun(S:aq) (k:a1)=>mV (T:=au) (G:=G) (X:=X) (s:=S) (k:=k) n
  have s1:∀(S:aq) (k:a1),(aH au G X).ah S k (al .shl (.int .u32 1) (.int .i64 ((n%32:Nat):Int)))=k (.int .u32 ((1*2^(n%32)%4294967296:Nat):Int)) S:=fun S k=>Nk .i64 1 (n%32) (by omega)
  obtain⟨c,a9⟩:=AK G X .u32 ((l.getD (n/32) 0:Nat):Int) (IntKind.wrap .u32 (((1*2^(n%32)%4294967296:Nat):Int)-1));have aW:=fun(k:a1) (S:aq)=>r.slice (T:=au) (G:=G) (X:=X) (n/32) (by omega) k S
  rw[JJ,aW,(y.ak _),aK K,M,ee];by_cases cL:(0:Int)<(((l.take (n/32)).take (fg (l.take (n/32)) (l.take (n/32)).length)).length:Int)
  ·obtain⟨v,q,aD,aG⟩:=fin true;refine⟨v,q,true,?_,aG⟩;simp only[↓k6,↓RY,↓reduceIte,dk,eq_true cL];simpa only using aD
  ·obtain⟨v,q,aD,aG⟩:=fin (decide (¬c=0));refine⟨v,q,decide (¬c=0),?_,aG⟩;simp only[↓k6,↓RY,↓dC,↓reduceIte,c9,co,eq_false cL,↓g0,↓hG,↓s1,↓nj,↓a9];simpa only using aD
 ·have h:(l.length:Int)≤((n/32:Nat):Int):=by omega
  refine⟨.aW 1 [] .nil,[],decide ((0:Int)<(l.length:Int)),?_,gT.nil,(fun x (h:x∈[])=>absurd h mc:ci []),(fun h=>absurd rfl h:cX []),?_⟩
  ·rw[H,u,fG,cq,if_pos (by simpa using h),u,ee];exact h0 (.af s) _ _ _ _ rfl rfl
  ·rw[wS l n B (by omega)];rfl
structure auJ (q X Y:Nat):Prop where
 lt:q<B
 le:q*Y≤X
 max:∀rq,rq<B→rq*Y≤X→rq≤q
theorem ahL(q:Nat)(h:0<q)(aG:q<18446744073709551616):nO q 1=q-1:=by unfold nO;omega
theorem LR(s:aq)(M rc:ai)(u vs:List Nat)(j:Nat)(hu:jC s M u)(bG:jC s rc vs)(N:ci u)(me:ci vs)(bX:2≤vs.length)(cp:j+vs.length<u.length)(fO:u.length<4294967296)
  (ap:B≤2*vs.getD (vs.length-1) 0)(V:u.getD (j+vs.length) 0≤vs.getD (vs.length-1) 0)(S:aq)(J:Child s S):∀(m q r:Nat),r+m=B→0<m→
  q*vs.getD (vs.length-1) 0+r=u.getD (j+vs.length) 0*B+u.getD (j+vs.length-1) 0→
  (∀rq,rq<B→rq*(vs.getD (vs.length-1) 0*B+vs.getD (vs.length-2) 0)≤u.getD (j+vs.length) 0*B*B+u.getD (j+vs.length-1) 0*B+u.getD (j+vs.length-2) 0→rq≤q)→
  ∃y:Nat,sS (aH au G X) M (.int .i64 (j:Int)) rc (.int .i64 (vs.length:Int)) (.int .u64 (q:Int)) (.int .u64 (r:Int)) S=.ok (.int .u64 (y:Int)) s∧
   auJ y (u.getD (j+vs.length) 0*B*B+u.getD (j+vs.length-1) 0*B+u.getD (j+vs.length-2) 0) (vs.getD (vs.length-1) 0*B+vs.getD (vs.length-2) 0):=by
 have ar:=jU;have fj:=N.getD (j+vs.length);have as:=N.getD (j+vs.length-1);have av:=N.getD (j+vs.length-2);have xW:=me.getD (vs.length-1);have aw:=me.getD (vs.length-2);obtain⟨ax,Y,Z⟩:=(hu.jO J.jO).ptr (T:=au) (G:=G) (X:=X) .i64 (j+vs.length-2) (by omega);obtain⟨ay,aa,ab⟩:=(bG.jO J.jO).ptr (T:=au) (G:=G) (X:=X) .i64 (vs.length-2) (by omega);have mw:=fun(k:a1)=>(bG.jO J.jO).get (T:=au) (G:=G) (X:=X) .i64 (vs.length-1) (by omega) k
 have i1:=fun(S:aq) (k:a1)=>iS (T:=au) (G:=G) (X:=X) (s:=S) (k:=k) vs.length (by omega) (by have:=hu.len (T:=au) (G:=G) (X:=X);omega)
 have i2:=fun(S:aq) (k:a1)=>Gh (T:=au) (G:=G) (X:=X) (s:=S) (k:=k) vs.length (by omega) (by omega)
 have i3:=fun(S:aq) (k:a1)=>g8 (T:=au) (G:=G) (X:=X) (s:=S) (k:=k) j vs.length (by omega)
 have i4:=fun(S:aq) (k:a1)=>Gh (T:=au) (G:=G) (X:=X) (s:=S) (k:=k) (j+vs.length) (by omega) (by omega)
 generalize u.getD (j+vs.length) 0=I at *;generalize u.getD (j+vs.length-1) 0=L at *;generalize u.getD (j+vs.length-2) 0=H at *;generalize vs.getD (vs.length-1) 0=v1 at *;generalize vs.getD (vs.length-2) 0=v2 at *;have cu:=fun(S:aq) (k:a1)=>fC (T:=au) (G:=G) (X:=X) (s:=S) (k:=k) H (by omega)
 have ac:=fun(S:aq) (k:a1)=>fC (T:=au) (G:=G) (X:=X) (s:=S) (k:=k) v2 (by omega)
 have ad:=fun(S:aq) (k:a1)=>fC (T:=au) (G:=G) (X:=X) (s:=S) (k:=k) v1 (by omega)
 intro m
 induction m using Nat.strongRecOn with
 |ind m am=>
  intro q r hm iq dQ ae;have az:r<B:=by omega
  have mP:I*B*B+L*B+H=q*v1*B+r*B+H:=by rw[←e0,←e0,dQ]
  have aA:q≤B+1:=by
   have aD:I*B≤v1*B:=e7 _ V;have aG:q*v1<(B+2)*v1:=by rw[e0,dE B v1];omega
   have:=Nat.lt_of_mul_lt_mul_right aG;omega
  have down:0<q→(∀rq,rq<B→rq*(v1*B+v2)≤I*B*B+L*B+H→rq≤q-1)→∃y:Nat,ze (aH au G X) M (.int .i64 (j:Int)) rc (.int .i64 (vs.length:Int)) (.int .u64 (q:Int)) (.int .u64 (r:Int)) S=.ok (.int .u64 (y:Int)) s∧auJ y (I*B*B+L*B+H) (v1*B+v2):=fun cL af=>by
   have ag:(q-1)*v1+(r+v1)=I*B+L:=by
    have:(q-1)*v1+v1=q*v1:=by rw[←Nat.succ_mul];congr 1;omega
    omega
   have ah:(r+v1)%18446744073709551616=r+v1:=fm (by omega);have bU:=ahL q cL (by omega);rw[JD];by_cases an:B≤r+v1
   ·have O:(4294967296:Int)≤((r+v1:Nat):Int):=by omega
    refine⟨q-1,?_,?_,?_,af⟩
    ·rw[pX,bU,i1,mw,ad,lR,ah,fG,cq,if_pos (by simpa using O),wc];exact jB J _ _
    ·
     by_cases K:q≤B
     ·omega
     ·exfalso;have Q:q=B+1:=by omega
      rw[Q,e0,Nat.one_mul] at dQ;have aD:I*B≤v1*B:=e7 _ V;rw[dE v1 B] at aD;omega
    ·rw[mP];have K:q-1≤B:=by omega
     have Q:(q-1)*v2≤B*B:=Nat.mul_le_mul K (by omega);have aj:B*B≤(r+v1)*B:=e7 _ an;have aB:(q-1)*(v1*B+v2)=(q-1)*v1*B+(q-1)*v2:=by rw[eg,e6]
     have aC:(q-1)*v1*B+(r+v1)*B=q*v1*B+r*B:=by rw[←e0,ag,←dQ,e0]
     omega
   ·have O:¬(4294967296:Int)≤((r+v1:Nat):Int):=by omega
    have aE:0<v1:=by omega
    obtain⟨y,aD,aG⟩:=am (B-(r+v1)) (by omega) (q-1) (r+v1) (by omega) (by omega) ag af;refine⟨y,?_,aG⟩;rw[pX,bU,i1,mw,ad,lR,ah,fG,cq,if_neg (by simpa using O)];exact aD
  rw[JE];by_cases c:B≤q
  ·have og:(4294967296:Int)≤(q:Int):=by omega
   obtain⟨y,aD,aG⟩:=down (by omega) (fun rq h _=>by omega);refine⟨y,?_,aG⟩;simp only[↓fG,↓cq,↓DH,↓yV,eq_true og,dk,Bool.true_eq_false,↓reduceIte,aD]
  ·have og:¬(4294967296:Int)≤(q:Int):=by omega
   have ao:q*v2<18446744073709551616:=by
    have:q*v2≤B*B:=Nat.mul_le_mul (by omega) (by omega);have bz:q*v2≤(B-1)*(B-1):=Nat.mul_le_mul (by omega) (by omega);have cz:(B-1)*(B-1)<18446744073709551616:=by decide
    omega
   have em:q*v2%18446744073709551616=q*v2:=fm ao;have es:r*4294967296%18446744073709551616=r*4294967296:=fm (by omega);have ak:=fun(S:aq) (k:a1)=>yZ (T:=au) (G:=G) (X:=X) (s:=S) (k:=k) r H (by omega) (by omega)
   have al:q*(v1*B+v2)=q*v1*B+q*v2:=by rw[eg,e6]
   have R:=fun(S:aq) (k:a1)=>qH (T:=au) (G:=G) (X:=X) (s:=S) (k:=k) r
   rw[es] at R;have U:=fun(S:aq) (k:a1)=>DK (T:=au) (G:=G) (X:=X) (s:=S) (k:=k) q v2
   rw[em] at U;by_cases d:r*4294967296+H<q*v2
   ·have ga:((r*4294967296+H:Nat):Int)<((q*v2:Nat):Int):=by omega
    have cL:0<q:=by
     rcases Nat.eq_zero_or_pos q with e|e
     ·subst e;omega
     ·exact e
    obtain⟨y,aD,aG⟩:=down cL (fun rq h K=>by
     have Q:=ae rq h K;rcases Nat.lt_or_ge rq q with aj|aj
     ·omega
     ·have:rq=q:=by omega
      subst this;rw[mP,al,jU] at K;rw[jU] at *;omega)
    refine⟨y,?_,aG⟩;simp only[↓fG,↓ee,↓cq,↓DH,↓yV,eq_false og,c9,↓reduceIte,co,↓i2,↓aa,↓ab,↓ac,↓U,↓R,↓i3,↓i4,↓Y,↓Z,↓cu,↓ak,dk,eq_true ga,aD]
   ·have ga:¬((r*4294967296+H:Nat):Int)<((q*v2:Nat):Int):=by omega
    refine⟨q,?_,by omega,?_,ae⟩
    ·simp only[↓fG,↓ee,↓cq,↓DH,↓yV,eq_false og,c9,↓reduceIte,co,↓i2,↓aa,↓ab,↓ac,↓U,↓R,↓i3,↓i4,↓Y,↓Z,↓cu,↓ak,eq_false ga,wc];exact jB J _ _
    ·rw[mP,al,jU] at *;omega
theorem ahM(s:aq)(J rc:ai)(e vs:List Nat)(j:Nat)(hu:jC s J e)(bG:jC s rc vs)(y:ci e)(me:ci vs)(bX:2≤vs.length)(cp:j+vs.length<e.length)(fO:e.length<4294967296)
  (N:B≤2*vs.getD (vs.length-1) 0)(O:e.getD (j+vs.length) 0≤vs.getD (vs.length-1) 0):
  ∃K:Nat,az au G X 195 [J,.int .i64 (j:Int),rc] s=.ok (.int .u64 (K:Int)) s∧
   auJ K (e.getD (j+vs.length) 0*B*B+e.getD (j+vs.length-1) 0*B+e.getD (j+vs.length-2) 0) (vs.getD (vs.length-1) 0*B+vs.getD (vs.length-2) 0):=by
 have Q:=jU;have H:=Child.af s;have fj:=y.getD (j+vs.length);have ab:=y.getD (j+vs.length-1);have xW:=me.getD (vs.length-1);have ac:=me.getD (vs.length-2);have ad:=y.getD (j+vs.length-2);have u:vs.getD (vs.length-1) 0≠0:=by omega
 have L:e.getD (j+vs.length) 0*B+e.getD (j+vs.length-1) 0<18446744073709551616:=by rw[Q] at *;omega
 have R:=LR G X s J rc e vs j hu bG y me bX cp fO N O s.af H
  (B-(e.getD (j+vs.length) 0*B+e.getD (j+vs.length-1) 0)%vs.getD (vs.length-1) 0) ((e.getD (j+vs.length) 0*B+e.getD (j+vs.length-1) 0)/vs.getD (vs.length-1) 0) ((e.getD (j+vs.length) 0*B+e.getD (j+vs.length-1) 0)%vs.getD (vs.length-1) 0)
  (by have:=Nat.mod_lt (e.getD (j+vs.length) 0*B+e.getD (j+vs.length-1) 0) (Nat.pos_of_ne_zero u);omega) (by have:=Nat.mod_lt (e.getD (j+vs.length) 0*B+e.getD (j+vs.length-1) 0) (Nat.pos_of_ne_zero u);omega)
  (by rw[dE];exact Nat.div_add_mod _ _) (fun rq ag h=>by
   rw[Nat.le_div_iff_mul_le (Nat.pos_of_ne_zero u)];have aD:rq*vs.getD (vs.length-1) 0*B≤rq*(vs.getD (vs.length-1) 0*B+vs.getD (vs.length-2) 0):=by rw[eg,e6];omega
   have aG:rq*vs.getD (vs.length-1) 0*B<(e.getD (j+vs.length) 0*B+e.getD (j+vs.length-1) 0+1)*B:=by rw[e0,e0,Nat.one_mul];omega
   have:=Nat.lt_of_mul_lt_mul_right aG;omega)
 refine Exists.imp (fun K aG=>⟨?_,aG.2⟩) R;have aD:=aG.1;have U:=fun(k:a1)=>(hu.jO H.jO).get (T:=au) (G:=G) (X:=X) .i64 (j+vs.length) (by omega) k
 have V:=fun(k:a1)=>(hu.jO H.jO).get (T:=au) (G:=G) (X:=X) .i64 (j+vs.length-1) (by omega) k
 have mw:=fun(k:a1)=>(bG.jO H.jO).get (T:=au) (G:=G) (X:=X) .i64 (vs.length-1) (by omega) k
 have Y:=fun(S:aq) (k:a1)=>bG.len (T:=au) (G:=G) (X:=X) k S
 have i1:=fun(S:aq) (k:a1)=>iS (T:=au) (G:=G) (X:=X) (s:=S) (k:=k) vs.length (by omega) (by omega)
 have i3:=fun(S:aq) (k:a1)=>g8 (T:=au) (G:=G) (X:=X) (s:=S) (k:=k) j vs.length (by omega)
 have i4:=fun(S:aq) (k:a1)=>iS (T:=au) (G:=G) (X:=X) (s:=S) (k:=k) (j+vs.length) (by omega) (by omega)
 rw[Q] at L aD fj ab xW;clear N O R aG ad ac;generalize e.getD (j+vs.length) 0=r at *;generalize e.getD (j+vs.length-1) 0=I at *;generalize vs.getD (vs.length-1) 0=v1 at *;have Z:=fun(S:aq) (k:a1)=>fC (T:=au) (G:=G) (X:=X) (s:=S) (k:=k) r (by omega)
 have aa:=fun(S:aq) (k:a1)=>fC (T:=au) (G:=G) (X:=X) (s:=S) (k:=k) I (by omega)
 have M:=fun(S:aq) (k:a1)=>fC (T:=au) (G:=G) (X:=X) (s:=S) (k:=k) v1 (by omega)
 have es:r*4294967296%18446744073709551616=r*4294967296:=by clear aD L U V mw Y i1 i3 i4 Z aa M;omega
 have ae:=fun(S:aq) (k:a1)=>yZ (T:=au) (G:=G) (X:=X) (s:=S) (k:=k) r I (by omega) (by omega)
 have d1:=fun(S:aq) (k:a1)=>xj (T:=au) (G:=G) (X:=X) (s:=S) (k:=k) (r*4294967296+I) v1 u L
 have d2:=fun(S:aq) (k:a1)=>DL (T:=au) (G:=G) (X:=X) (s:=S) (k:=k) (r*4294967296+I) v1 u
 rw[PI,agz,Y,i3,U,Z,qH,es,i3,i4,V,aa,ae,i1,mw,M,d1,i1,mw,M,d2];exact aD
theorem um(s:aq)(j:Nat)(a b:List Nat):(s.put j a).put j b=s.put j b:=by simp [aq.put]
theorem nq(s:aq)(j:Nat)(a:List Nat):(s.put j a).aa=s.aa:=rfl
theorem E0{s:aq}{n8:Nat}{e:List Nat}(h:fT s n8 e)(i N x:Nat)(bk:i<e.length)(pE:i<N)(k:a1):(aH au G X).aZ s.af (fun v S=>(aH au G X).a6 S k 1 v (U x)) 1 (.cw (.g s.aa n8) 0 N N 1) (.int .i64 (i:Int))=k .dead (s.put n8 (e.set i x)).af:=by
 rw[nl _ _ _ _ _ _ _ pE,mU];have r:(U x).fo=true:=rfl;have bI:s.af.aa=s.aa+1:=(Child.af s).aa;have u:s.af.get (.g s.aa n8)=some (.cells (e.map U)):=(Child.af s).jO.2 _ _ _ (aX _) (by simpa [aq.get,fT] using h);simp only[hp,r,ai.cells,c0,ek,cf,fE,eD,cb];unfold jJ;rw[u];simp only[Nat.mul_one,c0,ek,cf,show Nat.ble (i+1) (e.map U).length=true from dN (by simp;omega),show s.af.ho (.g s.aa n8) [U x]=true from by simp [aq.ho,ai.bj,ai.bp],List.all_cons,show(U x).dZ=true from rfl,List.all_nil,eD,cb];have y:s.ro.length≤s.aa:=by unfold aq.aa;omega
 have B:s.af.set (.g s.aa n8) (.cells ((e.map U).set i (U x)))=some (s.put n8 (e.set i x)).af:=by simp only[aq.set,bI];rw[if_neg (by omega),if_pos ⟨by omega,y⟩];simp [aq.af,aq.put,List.map_set]
 show(match s.af.set (.g s.aa n8) (.cells ((e.map U).set i (U x))) with |some s=>k .dead s|none=>.fail)=_;rw[B]
section
variable(s:aq)(n8 j N q:Nat)(gD vs:List Nat)(rc:ai)(cL:fT s n8 gD)(pE:gD.length=N)(bG:gT rc vs)(me:ci vs)(cp:j+vs.length<N)(fO:N<4294967296)
include cL pE bG me cp fO
theorem xX(e:List Nat)(br:e.length=N)(i:Nat)(bk:i<N)(k:a1):(aH au G X).aZ (s.put n8 e).af (fun v S=>(aH au G X).aj S k none v) 1 (.cw (.g s.aa n8) 0 N N 1) (.int .i64 (i:Int))=k (U (e.getD i 0)) (s.put n8 e).af:=by have aD:=(cL.put e).rd N N (by omega) (aX _);rw[gG (by omega)] at aD;exact(aD.jO (Child.af _).jO).get .i64 i (by omega) k
theorem LS(U:Nat)(r:List Nat)(ak:ci r)(dQ:0<q)(al:q<B)(R:U%val vs<val vs)(am:eN r j (vs.length+1)+val vs=B^(vs.length+1)+U%val vs):∀(m i:Nat) (e:List Nat) (carry:Nat),i+m=vs.length→e.length=N→ci e→r.length=N→carry≤1→(∀k,(k<j∨j+i≤k)→e.getD k 0=r.getD k 0)→eN e j i+carry*B^i=eN r j i+eN vs 0 i→
  ∃u,sR (aH au G X) (.cw (.g s.aa n8) 0 N N 1) (.int .i64 (j:Int)) rc (.int .u64 (q:Int)) (.int .u64 (carry:Int)) (.int .i64 (vs.length:Int)) (.int .i64 (i:Int)) (s.put n8 e).af=.ok (.int .u32 ((q-1:Nat):Int)) (s.put n8 u)∧u.length=N∧ci u∧(∀k,(k<j∨j+vs.length<k)→u.getD k 0=r.getD k 0)∧eN u j (vs.length+1)=U%val vs:=by
 have K:=jU;have V:=fun(S:aq) (k:a1)=>(bG.rd s).len (T:=au) (G:=G) (X:=X) k S
 intro m
 induction m with
 |zero=>
  intro i e carry bk br y O a9 H hw;have Y:i=vs.length:=by omega
  subst Y;have h:¬((vs.length:Int)<(vs.length:Int)):=by omega
  have Z:e.getD (j+vs.length) 0=r.getD (j+vs.length) 0:=H _ (.inr (aX _));have J:=fun(S:aq) (k:a1)=>g8 (T:=au) (G:=G) (X:=X) (s:=S) (k:=k) j vs.length (by omega)
  have L:=fun(k:a1)=>xX G X s n8 j N gD vs rc cL pE bG me cp fO e br (j+vs.length) (by omega) k
  have ez:=fun x (k:a1)=>E0 G X (cL.put e) (j+vs.length) N x (by omega) (by omega) k
  simp only[nq,um] at ez;have bU:=ahL q dQ (by omega);have M:(q-1)%4294967296=q-1:=fm (by omega);have ab:carry%4294967296=carry:=fm (by omega);rw[←ul,fQ r j vs.length (by omega)] at *;have key:=aaP vs.length (eN e j vs.length) (e.getD (j+vs.length) 0+carry) (U%val vs) (by rw[eg,Z,dE _ carry];omega) (uk e j vs.length y) (Nat.lt_trans R (by have:=eI vs me;exact this))
  refine⟨e.set (j+vs.length) ((e.getD (j+vs.length) 0+carry)%4294967296),?_,by simpa using br,y.set _ _ (Nat.mod_lt _ (by decide)),fun k cg=>?_,?_⟩
  ·rw[wa,be,cq,if_neg (by simp),JA,V,J,L,g7,ab,Z5];simp only[cy];rw[ez,pX,bU,g7,M,b1]
  ·exact(hd.getD_set_ne (by omega)).trans (H k (by omega))
  ·have ac:=fQ (e.set (j+vs.length) ((e.getD (j+vs.length) 0+carry)%4294967296)) j vs.length (by simp;omega);have ad:(e.set (j+vs.length) ((e.getD (j+vs.length) 0+carry)%4294967296)).getD (j+vs.length) 0=(e.getD (j+vs.length) 0+carry)%4294967296:=hd.fb (by omega);rw[ac,ad,ui _ _ _ _ _ (aX _),key.1,key.2,←K,Nat.mod_self,Nat.mul_zero,Nat.add_zero]
 |succ m ae=>
  intro i e carry bk br y O a9 H hw;have h:(i:Int)<(vs.length:Int):=by omega
  have I:=QN e r vs j i carry (by omega) (by omega) me y a9 (H _ (.inr (aX _))) (by omega) hw;simp only[] at I;have fj:=y.getD (j+i);have Q:=me.getD i;rw[K] at fj Q I;have J:=fun(S:aq) (k:a1)=>g8 (T:=au) (G:=G) (X:=X) (s:=S) (k:=k) j i (by omega)
  have ag:=fun S k=>fJ G X S k i (by omega)
  have L:=fun(k:a1)=>xX G X s n8 j N gD vs rc cL pE bG me cp fO e br (j+i) (by omega) k
  have ah:=fun(k:a1)=>(bG.rd (s.put n8 e).af).get (T:=au) (G:=G) (X:=X) .i64 i (by omega) k
  have ai:=fun(S:aq) (k:a1)=>fC (T:=au) (G:=G) (X:=X) (s:=S) (k:=k) (e.getD (j+i) 0) fj
  have aj:=fun(S:aq) (k:a1)=>fC (T:=au) (G:=G) (X:=X) (s:=S) (k:=k) (vs.getD i 0) Q
  have ez:=fun x (k:a1)=>E0 G X (cL.put e) (j+i) N x (by omega) (by omega) k
  simp only[nq,um] at ez;have bU:(e.getD (j+i) 0+vs.getD i 0)%18446744073709551616=e.getD (j+i) 0+vs.getD i 0:=fm (by omega);have M:(e.getD (j+i) 0+vs.getD i 0+carry)%18446744073709551616=e.getD (j+i) 0+vs.getD i 0+carry:=fm (by omega)
  have:=ae (i+1) (e.set (j+i) ((e.getD (j+i) 0+vs.getD i 0+carry)%4294967296)) ((e.getD (j+i) 0+vs.getD i 0+carry)/4294967296) (by omega) (by simpa using br) I.2.2.1 O I.2.1 (fun k cg=>(hd.getD_set_ne (by omega)).trans (H k (by omega))) (by rw[K];exact I.2.2.2);refine Exists.imp (fun u aG=>⟨?_,aG.2⟩) this;rw[wa,be,cq,if_pos (by simpa using h),Jz,J,L,ai,ah,aj,lR,bU,lR,M,J,g7];simp only[cy];rw[ez,qI,Jy,ag];exact aG.1
theorem LU(aM:0<vs.length)(aN:ci gD)(ac:q<B)(ad:0<val vs)(aO:eN gD j (vs.length+1)/val vs≤q)(aP:q≤eN gD j (vs.length+1)/val vs+1):∀(m i:Nat) (e:List Nat) (carry r:Nat),i+m=vs.length→e.length=N→ci e→carry<B→r≤1→(∀k,(k<j∨j+i≤k)→e.getD k 0=gD.getD k 0)→eN e j i+q*eN vs 0 i=eN gD j i+(carry+r)*B^i→
  ∃u,p3 (aH au G X) (.cw (.g s.aa n8) 0 N N 1) (.int .i64 (j:Int)) rc (.int .u64 (q:Int)) (.int .u64 (carry:Int)) (.int .u64 (r:Int)) (.int .i64 (vs.length:Int)) (.int .i64 (i:Int)) (s.put n8 e).af=.ok (.int .u32 ((eN gD j (vs.length+1)/val vs:Nat):Int)) (s.put n8 u)∧u.length=N∧ci u∧(∀k,(k<j∨j+vs.length<k)→u.getD k 0=gD.getD k 0)∧eN u j (vs.length+1)=eN gD j (vs.length+1)%val vs:=by
 have K:=jU;have U:=fun(S:aq) (k:a1)=>(bG.rd s).len (T:=au) (G:=G) (X:=X) k S
 intro m
 induction m with
 |zero=>
  intro i e carry r bk br L a9 ae M hw;have aj:i=vs.length:=by omega
  subst aj;have h:¬((vs.length:Int)<(vs.length:Int)):=by omega
  have ak:e.getD (j+vs.length) 0=gD.getD (j+vs.length) 0:=M _ (.inr (aX _));have fj:=L.getD (j+vs.length);rw[K] at fj a9;have O:=fun(S:aq) (k:a1)=>g8 (T:=au) (G:=G) (X:=X) (s:=S) (k:=k) j vs.length (by omega)
  have V:=fun(k:a1)=>xX G X s n8 j N gD vs rc cL pE bG me cp fO e br (j+vs.length) (by omega) k
  have Y:=fun(S:aq) (k:a1)=>fC (T:=au) (G:=G) (X:=X) (s:=S) (k:=k) (e.getD (j+vs.length) 0) fj
  have ez:=fun x (k:a1)=>E0 G X (cL.put e) (j+vs.length) N x (by omega) (by omega) k
  simp only[nq,um] at ez;have bI:=CJ (e.getD (j+vs.length) 0) carry r fj a9 (by omega) (by omega);have Z:nO (nO (e.getD (j+vs.length) 0) carry) r=lF (lF (e.getD (j+vs.length) 0) carry) r:=rfl;rw[←ul] at hw;have al:=fQ gD j vs.length (by omega);have gs:∀x,eN (e.set (j+vs.length) x) j (vs.length+1)=eN e j vs.length+B^vs.length*x:=fun x=>by have an:=fQ (e.set (j+vs.length) x) j vs.length (by simp;omega);have ao:(e.set (j+vs.length) x).getD (j+vs.length) 0=x:=hd.fb (by omega);rw[an,ao,ui _ _ _ _ _ (aX _)]
  have R:ci (e.set (j+vs.length) (lF (lF (e.getD (j+vs.length) 0) carry) r%4294967296)):=L.set _ _ (by rw[K];exact Nat.mod_lt _ (by decide));have ag:∀x k,(k<j∨j+vs.length<k)→(e.set (j+vs.length) x).getD k 0=gD.getD k 0:=fun x k cg=>(hd.getD_set_ne (by omega)).trans (M k (by omega))
  have pre:p3 (aH au G X) (.cw (.g s.aa n8) 0 N N 1) (.int .i64 (j:Int)) rc (.int .u64 (q:Int)) (.int .u64 (carry:Int)) (.int .u64 (r:Int)) (.int .i64 (vs.length:Int)) (.int .i64 (vs.length:Int)) (s.put n8 e).af
    = (aH au G X).ay (.bool (decide (((lF (lF (e.getD (j+vs.length) 0) carry) r/9223372036854775808:Nat):Int)=0))) ((aH au G X).bm (s.put n8 (e.set (j+vs.length) (lF (lF (e.getD (j+vs.length) 0) carry) r%4294967296))).af (fun ap s=>(aH au G X).aB false [some ap] s) .u32 (.int .u64 (q:Int)))
     (zc (aH au G X) (.cw (.g s.aa n8) 0 N N 1) (.int .i64 (j:Int)) rc (.int .u64 (q:Int)) (s.put n8 (e.set (j+vs.length) (lF (lF (e.getD (j+vs.length) 0) carry) r%4294967296))).af):=by
   rw[wb,be,cq,if_neg (by simp),JC,U,O,V,Y,pb,pb,Z,U,O,g7];simp only[cy];rw[ez,Cz,bi]
  rw[pre,cq];generalize lF (lF (e.getD (j+vs.length) 0) carry) r=t at *;have aQ:=bI.2;generalize ou:t/9223372036854775808=I at *;generalize aR:t%4294967296=y at *;have Q:eN e j vs.length+B^vs.length*y+q*val vs=eN gD j (vs.length+1)+I*B^(vs.length+1):=by
   rw[al,←ak];have gw:B^vs.length*(y+carry+r)=B^vs.length*(e.getD (j+vs.length) 0+B*I):=by rw[K,bI.1]
   have bU:B^vs.length*(y+carry+r)=B^vs.length*y+(carry+r)*B^vs.length:=by rw[Nat.add_assoc,eg,dE _ (carry+r)]
   have ar:B^vs.length*(e.getD (j+vs.length) 0+B*I)=B^vs.length*e.getD (j+vs.length) 0+I*B^(vs.length+1):=by rw[eg,Nat.pow_succ,←e6,dE _ I]
   rw[bU,ar] at gw;omega
  rw[←gs] at Q;have aS:=Nat.div_add_mod (eN gD j (vs.length+1)) (val vs);have as:=Nat.mod_lt (eN gD j (vs.length+1)) ad;have aT:=uk (e.set (j+vs.length) y) j (vs.length+1) R;by_cases ab:I=0
  ·have av:q*val vs≤eN gD j (vs.length+1):=by rw[ab] at Q;omega
   have J:q=eN gD j (vs.length+1)/val vs:=by have:=(Nat.le_div_iff_mul_le ad).2 av;omega
   have aw:q%4294967296=q:=fm (by omega);refine⟨e.set (j+vs.length) y,?_,by simpa using br,R,ag y,?_⟩
   ·rw[if_pos (by rw[ab];decide),g7,aw,b1,←J]
   ·rw[ab,J,dE] at Q;omega
  ·have ah:I=1:=by omega
   rw[ah,Nat.one_mul] at Q;have J:q=eN gD j (vs.length+1)/val vs+1:=by
    have:¬q≤eN gD j (vs.length+1)/val vs:=fun hle=>by
     have aU:q*val vs≤eN gD j (vs.length+1):=by have:=e7 (val vs) hle;rw[dE (eN gD j (vs.length+1)/val vs)] at this;omega
     omega
    omega
   have ax:=LS G X s n8 j N q gD vs rc cL pE bG me cp fO (eN gD j (vs.length+1)) (e.set (j+vs.length) y) R (by rw[J];exact Nat.succ_pos _) ac as (by rw[J,e0,Nat.one_mul,dE (eN gD j (vs.length+1)/val vs)] at Q;omega) vs.length 0 (e.set (j+vs.length) y) 0 (by omega) (by simpa using br) R (by simpa using br) (by omega) (fun k _=>rfl) (by simp [CK])
   obtain⟨u,g1,g2,az,aA,aC⟩:=ax;refine⟨u,?_,g2,az,fun k cg=>(aA k cg).trans (ag y k cg),aC⟩;rw[if_neg (by rw[ah];decide),JB,U];have aD:q-1=eN gD j (vs.length+1)/val vs:=by rw[J];rfl
   rw[aD] at g1;exact g1
 |succ m aE=>
  intro i e carry r bk br L a9 ae M hw;have h:(i:Int)<(vs.length:Int):=by omega
  have H:=QM e gD vs j i q carry r ac (by omega) (by omega) me L a9 ae (M _ (.inr (aX _))) (by omega) hw;simp only[] at H;have fj:=L.getD (j+i);have ai:=me.getD i;have O:=fun(S:aq) (k:a1)=>g8 (T:=au) (G:=G) (X:=X) (s:=S) (k:=k) j i (by omega)
  have aF:=fun S k=>fJ G X S k i (by omega)
  have V:=fun(k:a1)=>xX G X s n8 j N gD vs rc cL pE bG me cp fO e br (j+i) (by omega) k
  have aI:=fun(k:a1)=>(bG.rd (s.put n8 e).af).get (T:=au) (G:=G) (X:=X) .i64 i (by omega) k
  rw[K] at fj ai;have Y:=fun(S:aq) (k:a1)=>fC (T:=au) (G:=G) (X:=X) (s:=S) (k:=k) (e.getD (j+i) 0) fj
  have aJ:=fun(S:aq) (k:a1)=>fC (T:=au) (G:=G) (X:=X) (s:=S) (k:=k) (vs.getD i 0) ai
  have ez:=fun x (k:a1)=>E0 G X (cL.put e) (j+i) N x (by omega) (by omega) k
  simp only[nq,um] at ez;have aK:q*vs.getD i 0%18446744073709551616=q*vs.getD i 0:=fm (by have:=H.1;omega);have aL:(q*vs.getD i 0+carry)%18446744073709551616=q*vs.getD i 0+carry:=fm H.1;have am:=fun(S:aq) (k:a1)=>Z6 (T:=au) (G:=G) (X:=X) (s:=S) (k:=k) (q*vs.getD i 0+carry) H.1
  have Z:∀a b c,nO (nO a b) c=lF (lF a b) c:=fun _ _ _=>rfl
  have:=aE (i+1) _ _ _ (by omega) (by simpa using br) H.2.2.2.2.1 H.2.1 H.2.2.1 (fun k cg=>(hd.getD_set_ne (by omega)).trans (M k (by omega))) H.2.2.2.2.2;refine Exists.imp (fun u aG=>⟨?_,aG.2⟩) this;have bz:=aG.1;rw[K] at bz;rw[wb,be,cq,if_pos (by simpa using h),Jx,aI,aJ,DK,aK,lR,aL,qI,O,V,Y,am,pb,pb,Z,O,g7];simp only[cy];rw[ez,Cz,Jw,aF];exact bz
end
end Go.h6
end
section
namespace Go.hd
theorem aaQ(i j x y c:Nat)(aT:x%2=1)(dX:y%2=1)(bk:c≤i)(cp:c≤j)(h:c=i∨c=j):Nat.gcd (2^i*x) (2^j*y)=Nat.gcd x y*2^c:=by
 have e:∀(z:Nat) (m:Nat),z%2=1→Nat.Coprime z (2^m):=fun z m io=>by
  have:Nat.Coprime z 2:=by rw[Nat.coprime_comm];show Nat.gcd 2 z=1;rw[Nat.gcd_rec,io];rfl
  exact Nat.Coprime.pow_right m this
 have r:2^i*x=2^c*(2^(i-c)*x):=by rw[←e6,←Nat.pow_add];congr 2;omega
 have u:2^j*y=2^c*(2^(j-c)*y):=by rw[←e6,←Nat.pow_add];congr 2;omega
 rw[r,u,Nat.gcd_mul_left,dE];congr 1;rcases h with h|h
 ·rw[show i-c=0 by omega,Nat.pow_zero,Nat.one_mul];exact Nat.Coprime.gcd_mul_left_cancel_right y (e x (j-c) aT).symm
 ·rw[show j-c=0 by omega,Nat.pow_zero,Nat.one_mul,Nat.gcd_comm,Nat.gcd_comm x y];exact Nat.Coprime.gcd_mul_left_cancel_right x (e y (i-c) dX).symm
theorem E1(u v n w:Nat)(hle:v≤u)(bG:v%2=1)(hw:u-v=2^n*w):Nat.gcd w v=Nat.gcd u v:=by
 have e:Nat.Coprime v (2^n):=by
  have:Nat.Coprime v 2:=by rw[Nat.coprime_comm];show Nat.gcd 2 v=1;rw[Nat.gcd_rec,bG];rfl
  exact Nat.Coprime.pow_right n this
 have aD:Nat.gcd v (2^n*w)=Nat.gcd v w:=Nat.Coprime.gcd_mul_left_cancel_right w e.symm;rw[Nat.gcd_comm w v,←aD,←hw,Nat.gcd_comm u v]
 have:u=(u-v)+v:=by omega
 conv=>rhs;rw[this]
 rw[Nat.gcd_add_self_right]
theorem aaR(x n:Nat)(h:2^n ∣ x):x=2^n*(x/2^n):=(Nat.mul_div_cancel' h).symm
theorem nr(x n:Nat)(h:2^n ∣ x)(e:x/2^n%2=0):2^(n+1) ∣ x:=by obtain⟨k,cg⟩:=h;subst cg;rw[Nat.mul_div_cancel_left _ (Nat.two_pow_pos n)] at e;obtain⟨m,hm⟩:=Nat.dvd_of_mod_eq_zero e;exact⟨m,by rw[hm,Nat.pow_succ,e6]⟩
theorem LV(x n:Nat)(aT:x≠0)(h:2^n ∣ x):2^n≤x:=Nat.le_of_dvd (by omega) h
theorem ahN(l:List Nat)(r:ci l)(i:Nat):l.getD (i/32) 0/2^(i%32)%2=val l/2^i%2:=by
 by_cases h:i/32<l.length
 ·have aD:=iH l (i/32) (by omega);have aG:=jP l (i/32) h;have bz:=eI (l.take (i/32)) (r.take _);have cz:(l.take (i/32)).length=i/32:=by simp;omega
  rw[cz] at bz;have e:(2:Nat)^i=B^(i/32)*2^(i%32):=by rw[AF,Nat.div_add_mod]
  have u:val l/B^(i/32)=val (l.drop (i/32)):=by rw[aD,Nat.add_mul_div_left _ _ (Nat.pow_pos gp),Nat.div_eq_of_lt bz,cf]
  rw[e,←Nat.div_div_eq_div_mul,u,aG];have aQ:i%32<32:=Nat.mod_lt _ (by omega);have y:B*val (l.drop (i/32+1))=2^(i%32)*(2*(2^(31-i%32)*val (l.drop (i/32+1)))):=by rw[←e6 2,←Nat.pow_succ',←e6,←Nat.pow_add,show i%32+(31-i%32+1)=32 by omega];rfl
  rw[y,Nat.add_mul_div_left _ _ (Nat.two_pow_pos _),Nat.add_mul_mod_self_left]
 ·have kR:l.getD (i/32) 0=0:=by simp only[List.getD];rw[List.getElem?_eq_none (by omega)];rfl
  have bz:=eI l r;have cz:val l<2^i:=by
   have:(2:Nat)^i=B^(i/32)*2^(i%32):=by rw[AF,Nat.div_add_mod]
   rw[this];have H:B^l.length≤B^(i/32):=ih (by omega);have I:B^(i/32)*1≤B^(i/32)*2^(i%32):=Nat.mul_le_mul_left _ (Nat.two_pow_pos _);omega
  rw[kR,Nat.div_eq_of_lt cz,Nat.zero_div]
theorem getD_eq{a b:List Nat}(br:a.length=b.length)(k:Nat)(h:a.getD k 0=b.getD k 0):a[k]? =b[k]?:=by
 by_cases cg:k<a.length
 ·have e:k<b.length:=by omega
  simp only[List.getD,dM cg,dM e,Option.getD_some] at h;rw[dM cg,dM e,h]
 ·rw[List.getElem?_eq_none (by omega),List.getElem?_eq_none (by omega)]
theorem LW{a b:List Nat}(br:a.length=b.length)(j:Nat)(h:∀k,k<j→a.getD k 0=b.getD k 0):a.take j=b.take j:=by
 apply List.ext_getElem?;intro k;rw[List.getElem?_take,List.getElem?_take];split
 ·exact getD_eq br k (h k (by assumption))
 ·rfl
theorem LX{a b:List Nat}(br:a.length=b.length)(j:Nat)(h:∀k,j≤k→a.getD k 0=b.getD k 0):a.drop j=b.drop j:=by apply List.ext_getElem?;intro k;rw[List.getElem?_drop,List.getElem?_drop];exact getD_eq br _ (h _ (by omega))
theorem uo{r vs:List Nat}{j:Nat}(cp:j+vs.length<r.length)(me:ci vs)(u:val (r.drop (j+1))<val vs):
  val (r.drop (j+vs.length+1))=0∧eN r (j+1) vs.length<val vs∧eN r j (vs.length+1)=r.getD j 0+B*eN r (j+1) vs.length:=by
 have aD:=uj r (j+1) vs.length (by omega);have aG:=eI vs me;have cL:val (r.drop (j+1+vs.length))=0:=by
  rcases Nat.eq_zero_or_pos (val (r.drop (j+1+vs.length))) with h|h
  ·exact h
  ·have:B^vs.length*1≤B^vs.length*val (r.drop (j+1+vs.length)):=Nat.mul_le_mul_left _ h;omega
 have e:j+vs.length+1=j+1+vs.length:=by omega
 refine⟨by rw[e];exact cL,by omega,?_⟩;have bz:=uj r j (vs.length+1) (by omega);have cz:=jP r j (by omega);rw[show j+(vs.length+1)=j+1+vs.length by omega,cL] at bz;rw[cL,Nat.mul_zero,Nat.add_zero] at aD;rw[Nat.mul_zero,Nat.add_zero,cz,aD] at bz;exact bz.symm
theorem apH{r vs:List Nat}{j:Nat}(cp:j+vs.length<r.length)(me:ci vs)(bX:0<vs.length)(u:val (r.drop (j+1))<val vs):r.getD (j+vs.length) 0≤vs.getD (vs.length-1) 0:=by
 obtain⟨_,aG,_⟩:=uo cp me u;have bz:=fQ r (j+1) (vs.length-1) (by omega);have cz:=fQ vs 0 (vs.length-1) (by omega);have I:=uk vs 0 (vs.length-1) me;have e:vs.length-1+1=vs.length:=by omega
 rw[e] at bz cz;rw[←ul] at cz;rw[show j+1+(vs.length-1)=j+vs.length by omega] at bz;rw[cf] at cz;by_cases h:r.getD (j+vs.length) 0≤vs.getD (vs.length-1) 0
 ·exact h
 ·have y:vs.getD (vs.length-1) 0+1≤r.getD (j+vs.length) 0:=by omega
  have H:=Nat.mul_le_mul_left (B^(vs.length-1)) y;rw[eg,Nat.mul_one] at H;omega
theorem ahO{e vs:List Nat}{j q:Nat}(cp:j+vs.length<e.length)(h:ci e)(me:ci vs)(bX:2≤vs.length)(r:B≤2*vs.getD (vs.length-1) 0)(u:val (e.drop (j+1))<val vs)(dQ:q<B)
  (aD:q*(vs.getD (vs.length-1) 0*B+vs.getD (vs.length-2) 0)≤e.getD (j+vs.length) 0*B*B+e.getD (j+vs.length-1) 0*B+e.getD (j+vs.length-2) 0)
  (aG:∀rq,rq<B→rq*(vs.getD (vs.length-1) 0*B+vs.getD (vs.length-2) 0)≤e.getD (j+vs.length) 0*B*B+e.getD (j+vs.length-1) 0*B+e.getD (j+vs.length-2) 0→rq≤q):
  eN e j (vs.length+1)/val vs≤q∧q≤eN e j (vs.length+1)/val vs+1:=by
 obtain⟨m,hm⟩:∃m,vs.length=m+2:=⟨vs.length-2,by omega⟩;obtain⟨_,t2,t3⟩:=uo cp me u;refine LO (eN e j (vs.length+1)) (val vs) q m (eN e j m) (eN vs 0 m) _ _ _ _ _ ?_ ?_ (uk _ _ _ h) (uk _ _ _ me) r dQ aD aG ?_
 ·rw[hm,fQ e j (m+2) (by omega),fQ e j (m+1) (by omega),fQ e j m (by omega),show B^(m+2)=B^m*B*B by rw[Nat.pow_succ,Nat.pow_succ],show B^(m+1)=B^m*B from Nat.pow_succ ..,show j+(m+2)-1=j+(m+1) by omega,show j+(m+2)-2=j+m by omega];generalize e.getD (j+(m+2)) 0=a;generalize e.getD (j+(m+1)) 0=b;generalize e.getD (j+m) 0=c;generalize B^m=P;rw[e0,e0];have bU:P*B*B*a=a*B*B*P:=by ac_rfl
  have y:P*B*b=b*B*P:=by ac_rfl
  have H:P*c=c*P:=dE _ _;omega
 ·have:=ul vs;rw[hm] at this ⊢;rw[this,fQ vs 0 (m+1) (by omega),fQ vs 0 m (by omega),Nat.pow_succ,cf,cf,show m+2-1=m+1 by omega,show m+2-2=m by omega,e0];generalize vs.getD (m+1) 0=b;generalize vs.getD m 0=c;generalize B^m=P;have y:P*B*b=b*B*P:=by ac_rfl
  have H:P*c=c*P:=dE _ _;omega
 ·rw[t3];have bz:=h.getD j;have cz:=Nat.mul_le_mul_left B t2;rw[Nat.succ_eq_add_one,eg,Nat.mul_one] at cz;omega
theorem QO(T P C D W q V r:Nat)(hm:V*q+r=W):T+P*r+P*((q+C*D)*V)=T+P*W+P*C*(D*V):=by subst hm;rw[e0,eg,eg,dE q V,e6 P C,e6 C D];omega
theorem apI{e vs:List Nat}{j:Nat}(cp:j+vs.length<e.length)(h:ci e)(me:ci vs)(r:val (e.drop (j+1))<val vs):eN e j (vs.length+1)/val vs<B:=by
 obtain⟨t1,t2,t3⟩:=uo cp me r;have u:0<val vs:=by omega
 rw[Nat.div_lt_iff_lt_mul u,t3];have bz:=h.getD j;have cz:=Nat.mul_le_mul_left B t2;rw[Nat.succ_eq_add_one,eg,Nat.mul_one] at cz;omega
theorem aaS{e h os vs:List Nat}{U0 j:Nat}(br:h.length=e.length)(cp:j+vs.length<e.length)(I:ci e)(me:ci vs)(r:j<os.length)
  (hinv:val e+B^(j+1)*(val (os.drop (j+1))*val vs)=U0)(u:val (e.drop (j+1))<val vs)
  (y:∀k,(k<j∨j+vs.length<k)→h.getD k 0=e.getD k 0)(hw:eN h j (vs.length+1)=eN e j (vs.length+1)%val vs):
  eN e j (vs.length+1)/val vs<B∧val h+B^j*(val ((os.set j (eN e j (vs.length+1)/val vs)).drop j)*val vs)=U0∧val (h.drop j)<val vs:=by
 obtain⟨t1,t2,t3⟩:=uo cp me u;have J:0<val vs:=by omega
 have dQ:=apI cp I me u;have K:h.drop (j+vs.length+1)=e.drop (j+vs.length+1):=LX br _ (fun k cg=>y k (by omega));have L:h.take j=e.take j:=LW br _ (fun k cg=>y k (by omega));have d1:=uj e j (vs.length+1) (by omega);have d2:=uj h j (vs.length+1) (by omega);rw[show j+(vs.length+1)=j+vs.length+1 by omega] at d1 d2;rw[K,t1,hw] at d2;rw[t1] at d1;have s1:=iH e j (by omega);have s2:=iH h j (by omega);rw[L] at s2;have hm:=Nat.div_add_mod (eN e j (vs.length+1)) (val vs);have H:=jP (os.set j (eN e j (vs.length+1)/val vs)) j (by simpa using r);rw[fb r,uf (i:=j+1) (j:=j) (by omega)] at H;generalize eN e j (vs.length+1)=W at *;refine⟨dQ,?_,by rw[d2,Nat.mul_zero,Nat.add_zero];exact Nat.mod_lt W J⟩;rw[Nat.mul_zero,Nat.add_zero] at d1 d2;rw[H,←hinv,s2,s1,d1,d2,Nat.pow_succ];exact QO _ _ _ _ _ _ _ _ hm
theorem aaT{b vs:List Nat}{c:Nat}(H:ci b)(U:cX b)(I:b≠[])(me:ci vs)(J:cX vs)(bG:val vs=val b*2^c)(aD:2147483648≤b.getD (b.length-1) 0*2^c)(aG:b.getD (b.length-1) 0*2^c<4294967296):
  vs.length=b.length∧B≤2*vs.getD (vs.length-1) 0:=by
 have br:0<b.length:=List.length_pos_iff.2 I;have K:=Nat.two_pow_pos c;have e:=val_succ b (b.length-1) (by omega);rw[show b.length-1+1=b.length by omega,List.take_length] at e;have L:=eI (b.take (b.length-1)) (H.take _);rw[show(b.take (b.length-1)).length=b.length-1 by simp] at L;have M:B=4294967296:=rfl;have V:2^c≤2147483648*2:=by
  by_cases h:b.getD (b.length-1) 0=0
  ·rw[h] at aD;omega
  ·have:=e7 (2^c) (show 1≤b.getD (b.length-1) 0 by omega);omega
 have N:val vs<B^b.length:=by
  rw[bG,e,show B^b.length=B^(b.length-1)*B by rw[←Nat.pow_succ];congr 1;omega];have O:(b.getD (b.length-1) 0+1)*2^c≤B:=by
   have Y:c≤32:=by
    by_cases a9:c≤32
    ·exact a9
    ·have:2^33≤2^c:=Nat.pow_le_pow_right (by omega) (by omega);omega
   have r:B=2^(32-c)*2^c:=by rw[←Nat.pow_add,uh];congr 1;omega
   have:b.getD (b.length-1) 0<2^(32-c):=by rw[←M,r] at aG;exact Nat.lt_of_mul_lt_mul_right aG
   rw[r];exact e7 _ this
  have Q:(val (b.take (b.length-1))+B^(b.length-1)*b.getD (b.length-1) 0)*2^c<B^(b.length-1)*((b.getD (b.length-1) 0+1)*2^c):=by rw[←e6];apply Nat.mul_lt_mul_of_pos_right _ K;rw[eg,Nat.mul_one];omega
  exact gm Q (Nat.mul_le_mul_left _ O)
 have R:B^(b.length-1)*2147483648≤val vs:=by
  rw[bG,e,e0,e6]
  have:=Nat.mul_le_mul_left (B^(b.length-1)) aD;omega
 have Z:=Nat.pow_pos (n:=b.length-1) gp;have cQ:vs≠[]:=fun h=>by subst h;simp [val] at R;omega
 have aa:vs.length≤b.length:=pf J N;have ab:b.length≤vs.length:=by
  have ac:=eI vs me;by_cases h:b.length≤vs.length
  ·exact h
  ·have:B^vs.length≤B^(b.length-1):=ih (by omega);omega
 have hlen:vs.length=b.length:=by omega
 refine⟨hlen,?_⟩;have u:=val_succ vs (vs.length-1) (by omega);rw[show vs.length-1+1=vs.length by omega,List.take_length] at u;have y:=eI (vs.take (vs.length-1)) (me.take _);rw[show(vs.take (vs.length-1)).length=vs.length-1 by simp] at y;rw[hlen] at u y ⊢;by_cases h:B≤2*vs.getD (b.length-1) 0
 ·exact h
 ·have bz:vs.getD (b.length-1) 0+1≤2147483648:=by omega
  have cz:=Nat.mul_le_mul_left (B^(b.length-1)) bz;rw[eg,Nat.mul_one] at cz;omega
theorem aaU{a b e:List Nat}{c V:Nat}(r:ci a)(u:cX b)(h:b≠[])(y:ci e)(hle:b.length≤a.length)(br:e.length=a.length+1)(hu:val e=val a*2^c)(H:V=val b*2^c):val (e.drop (a.length-b.length+1))<V:=by have I:0<b.length:=List.length_pos_iff.2 h;rw[←CL e _ y (by omega),Nat.div_lt_iff_lt_mul (Nat.pow_pos gp),hu,H];have aD:=eI a r;have aG:=qT b u h;have bz:=e7 (B^(a.length-b.length+1)) aG;rw[←Nat.pow_add,show b.length-1+(a.length-b.length+1)=a.length by omega] at bz;rw[e6,dE (2^c),←e6];exact Nat.mul_lt_mul_of_pos_right (gm aD bz) (Nat.two_pow_pos c)
end Go.hd
end
section
namespace Go.h6
open Go.Ab Go.hd
variable(G:Nat→ai)(X:Nat→List ai→aq→ao)
theorem ahP(s:aq)(n8 j N q:Nat)(gD vs:List Nat)(rc:ai)(cL:fT s n8 gD)(pE:gD.length=N)(bG:gT rc vs)(me:ci vs)(cp:j+vs.length<N)(fO:N<4294967296)(r:0<vs.length)(h:ci gD)(u:q<B)(y:0<val vs)(H:eN gD j (vs.length+1)/val vs≤q)(I:q≤eN gD j (vs.length+1)/val vs+1):
  ∃e,az au G X 194 [.cw (.g s.aa n8) 0 N N 1,.int .i64 (j:Int),rc,.int .u64 (q:Int)] s=.ok (.int .u32 ((eN gD j (vs.length+1)/val vs:Nat):Int)) (s.put n8 e)∧e.length=N∧ci e∧(∀k,(k<j∨j+vs.length<k)→e.getD k 0=gD.getD k 0)∧eN e j (vs.length+1)=eN gD j (vs.length+1)%val vs:=by
 rw[PH,agy,(bG.rd s).len]
 have:=LU G X s n8 j N q gD vs rc cL pE bG me cp fO r h u y H I vs.length 0 gD 0 0 (by omega) pE h gp (by omega) (fun _ _=>rfl) (by simp [CK]);rw[Z8 cL] at this;exact this
theorem LY(s:aq)(c U0 N M n8 u:Nat)(rc:ai)(vs:List Nat)(bG:gT rc vs)(me:ci vs)(bX:2≤vs.length)(R:B≤2*vs.getD (vs.length-1) 0)(av:N=M-1+vs.length+1)(aw:0<M)(fO:N<4294967296)(cQ:n8≠u)(a9:c<4294967296):
  ∀(m k:Nat) (e os:List Nat) (S:aq),k+m=M→Child s S→fT S n8 e→fT S u os→e.length=N→os.length=M→ci e→ci os→val e+B^m*(val (os.drop m)*val vs)=U0→val (e.drop m)<val vs→
  ∃v w q r,th (aH au G X) (.int .i64 (c:Int)) rc (.cw (.l n8) 0 N N 1) (.cw (.l u) 0 M M 1) (.int .i64 (M:Int)) (.int .i64 (k:Int)) S=.ok (.cT [v,w]) s∧gT v q∧ci q∧cX q∧gT w r∧ci r∧cX r∧val q=U0/val vs∧val r=U0%val vs/2^c:=by
 intro m
 induction m with
 |zero=>
  intro k e os S cg L hu J lu eQ H O hinv y;have h:¬((k:Int)<(M:Int)):=by omega
  have I:=hu.rd N N (by omega) (aX _);rw[gG (by omega)] at I;have ac:=np G X S _ e I (by omega);have U:=I.cut (fg e e.length) (hP _ _);obtain⟨w,r,lost,ad,V,ae,af,qJ⟩:=ahK G X S _ (e.take (fg e e.length)) c U (H.take _) a9 (by have:=hP e e.length;simp;omega);obtain⟨v,ag,bz⟩:∃v,gT v (dO os)∧(aH au G X).ar S (fun v s=>(aH au G X).aB false [some v,some w] s) 191 [.cw (.g S.aa u) 0 M M 1]=.ok (.cT [v,w]) s:=by
   have aQ:=J.rd M M (by omega) (aX _);rw[gG (by omega)] at aQ;rw[aK (np G X S _ os aQ (by omega))];have hle:=hP os os.length;obtain⟨v,aD,aG⟩:=kM (S:=S) (j:=u) (off:=0) (cap:=M) (dO os) (n:=fg os os.length) (fP os).symm J (by rw[bT,fP];simp [dO,List.map_take]) (by rw[fP];simpa using hle)
   exact⟨v,aG,h0 L _ _ _ _ aD (V.freeze S)⟩
  rw[Nat.pow_zero,Nat.one_mul,bT] at hinv;rw[bT] at y;have Q:0<val vs:=by omega
  have tv:val (e.take (fg e e.length))=val e:=gP e;refine⟨v,w,dO os,r,?_,ag,gL O,fu os,V,ae,af,?_,?_⟩
  ·rw[wt,be,cq,if_neg (by simpa using h),Ko,fD,aK ac,U.ak,cy,aK ad,gn 0 _ w rfl,gn 1 _ _ rfl,fD];exact bz
  ·rw[gP,←hinv,Nat.add_mul_div_right _ _ Q,Nat.div_eq_of_lt y,cf]
  ·rw[qJ,tv,←hinv,Nat.add_mul_mod_self_right,fm y]
 |succ m ah=>
  intro k e os S cg L hu J lu eQ H O hinv y;have h:(k:Int)<(M:Int):=by omega
  have cp:m+vs.length<e.length:=by omega
  have I:=hu.rd N N (by omega) (aX _);rw[gG (by omega)] at I;obtain⟨aj,al,he⟩:=ahM G X S _ rc e vs m I (bG.rd S) H me bX cp (by omega) R (apH cp me (by omega) y);have Y:=ahO cp H me bX R y he.lt he.le he.max;have Q:0<val vs:=by omega
  obtain⟨K,am,an,ao,awd,hw⟩:=ahP G X S n8 m N aj e vs rc hu lu bG me (by omega) fO (by omega) H he.lt Q Y.1 Y.2;obtain⟨d1,d2,d3⟩:=aaS (U0:=U0) (j:=m) (os:=os) (by omega) cp H me (by omega) hinv y awd hw;have Z:fT (S.put n8 K) u os:=J.R0 cQ _;have ez:=fun x (k:a1)=>Z.ez (T:=au) (G:=G) (X:=X) m M M x (by omega) (by omega) k
  have ap:=fun(S:aq) (k:a1)=>iS (T:=au) (G:=G) (X:=X) (s:=S) (k:=k) M (by omega) (by omega)
  have ab:=fun(S:aq) (jh:a1)=>mD (T:=au) (G:=G) (X:=X) (s:=S) (k:=jh) (M-1) k (by omega) (by omega)
  have as:=fun(S:aq) (jh:a1)=>nm (T:=au) (G:=G) (X:=X) (s:=S) (k:=jh) k (by omega)
  rw[show M-1-k=m by omega] at ab
  have:=ah (k+1) K _ _ (by omega) ((L.put n8 K).put u _) ((hu.put K).R0 (Ne.symm cQ) _) (Z.put (os.set m (eN e m (vs.length+1)/val vs))) an (by simpa using eQ) ao (O.set _ _ d1) d2 d3;refine Exists.imp (fun v aD=>Exists.imp (fun w aG=>Exists.imp (fun q bz=>Exists.imp (fun r cz=>⟨?_,cz.2⟩) bz) aG) aD) this;rw[wt,be,cq,if_pos (by simpa using h),Kn,jA,ap,ab,fD,cy,bG.ak,aK al];simp only[cy,fD,bG.ak];rw[dc am (nq _ _ _)];simp only[cy];rw[ez,Km,as];exact cz.1
theorem ahQ(s:aq)(K Q:ai)(a b:List Nat)(y:gT K a)(I:gT Q b)(J:ci a)(M:ci b)(ad:cX a)(L:cX b)(N:b≠[])(fO:a.length<2147483648)(a6:b.length<2147483648):
  ∃v w q r,az au G X 170 [K,Q] s=.ok (.cT [v,w]) s∧gT v q∧ci q∧cX q∧gT w r∧ci r∧cX r∧val q=val a/val b∧val r=val a%val b:=by
 have ae:=Child.af s;have a7:0<b.length:=List.length_pos_iff.2 N;have an:=ahE G X s.af K Q a b (y.rd _) (I.rd _) J M ad L (by omega) (by omega);have ag:=fun(S:aq) (k:a1)=>(y.rd S).len (T:=au) (G:=G) (X:=X) k S
 have Z:=fun(S:aq) (k:a1)=>(I.rd S).len (T:=au) (G:=G) (X:=X) k S
 rw[PX,agO,y.ak,I.ak,aK an];by_cases O:val a<val b
 ·refine⟨.aW 1 [] .nil,K,[],a,?_,gT.nil,(fun x (h:x∈[])=>absurd h mc:ci []),(fun h=>absurd rfl h:cX []),y,J,ad,?_,?_⟩
  ·have:iC (val a) (val b)<0:=by simp [iC,O]
   rw[be,cq,if_pos (by simpa using this)];exact h0 ae _ _ _ _ rfl (y.freeze _)
  ·rw[Nat.div_eq_of_lt O];rfl
  ·rw[fm O]
 have hle:val b≤val a:=Nat.not_lt.1 O;have hlen:b.length≤a.length:=by
  by_cases h:b.length≤a.length
  ·exact h
  ·have:=kN J L (Nat.not_le.1 h);omega
 have ao:¬iC (val a) (val b)<0:=by simp only[iC,if_neg O];split<;> decide
 rw[be,cq,if_neg (by simpa using ao),Kq,Z,bi,cq];by_cases aD:b.length=1
 ·rw[if_pos (by simp [aD])];have aa:=fun(k:a1)=>(I.rd s.af).get (T:=au) (G:=G) (X:=X) .i64 0 (by omega) k
  have ab:val b=b.getD 0 0:=by
   match b,aD with
   |[x],_=>simp [val]
  have bI:b.getD 0 0≠0:=by rw[←ab];intro e;exact N ((nR L).1 e)
  have ah:=M.getD 0;obtain⟨v,q,ap,R,ar,as,av⟩:=ahH G X s.af K a (b.getD 0 0) (y.rd _) J bI ah (by omega);have aC:=gT.eB [val a%b.getD 0 0];have aw:=np G X s.af _ _ (aC.rd s.af) (by simp);have ax:val a%b.getD 0 0<B:=Nat.lt_trans (Nat.mod_lt _ (by omega)) ah;have or:ci [val a%b.getD 0 0]:=fun x aT=>by rw[List.mem_singleton.1 aT];exact ax
  refine⟨v,_,q,dO [val a%b.getD 0 0],?_,R,ar,as,aC.cut _,gL or,fu _,by rw[av,ab],by rw[gP,ab];simp [val]⟩;refine(aa _).trans ?_;rw[y.ak,cy,aK ap,gn 0 _ v rfl,gn 1 _ _ rfl];have eB:=fun(k:a1)=>l4 (T:=au) (G:=G) (X:=X) (s:=s.af) (k:=k) [val a%b.getD 0 0]
  refine(eB _).trans ?_;rw[aC.ak,aK aw];exact h0 ae _ _ _ _ (R.freeze _) ((aC.cut _).freeze _)
 ·rw[if_neg (by simp;omega),Kp];have aa:=fun(k:a1)=>(I.rd s.af).get (T:=au) (G:=G) (X:=X) .i64 (b.length-1) (by omega) k
  have ay:=fun(S:aq) (k:a1)=>iS (T:=au) (G:=G) (X:=X) (s:=S) (k:=k) b.length (by omega) (by omega)
  have a8:=jU;have fj:=M.getD (b.length-1);have wT:=L N;obtain⟨c,aA,a9,aB,aE⟩:=ahG G X s.af (b.getD (b.length-1) 0) (by omega) wT;obtain⟨rc,vs,aF,R,me,aG,V⟩:=LN G X s.af Q b c (I.rd _) M (by omega) (by omega);obtain⟨ba,iA⟩:=aaT M L N me aG V aB aE;have aH:=fun S k=>fJ G X S k a.length (by omega)
  have aI:=fun(S:aq) (k:a1)=>mD (T:=au) (G:=G) (X:=X) (s:=S) (k:=k) a.length b.length hlen (by omega)
  have aJ:=fun S k=>fJ G X S k (a.length-b.length) (by omega)
  have aL:=fun(S:aq) (k:a1)=>lQ (T:=au) (G:=G) (X:=X) (s:=S) (k:=k) (U 0) 4 (a.length+1) (a.length+1) (aX _) (by omega)
  have aM:=fun(S:aq) (k:a1)=>lQ (T:=au) (G:=G) (X:=X) (s:=S) (k:=k) (U 0) 4 (a.length-b.length+1) (a.length-b.length+1) (aX _) (by omega)
  let H:=s.af.new (.cells (List.replicate (a.length+1) (U 0)))
  have A1:fT H s.af.own.length (List.replicate (a.length+1) 0):=fT.make _ _;obtain⟨bb,ac,aN,uT,aO,aP,el⟩:=LN G X H K a c (y.rd _) J (by omega) (by omega);have aQ:ac.length≤a.length+1:=by
   apply pf aP;rw[el,Nat.pow_succ];have aR:=eI a J;have aS:2^c≤B:=by have:2^c≤2^32:=Nat.pow_le_pow_right (by omega) (by omega);rw[uh];exact this
   exact gm (Nat.mul_lt_mul_of_pos_right aR (Nat.two_pow_pos c)) (Nat.mul_le_mul_left _ aS)
  let u:=ac++(List.replicate (a.length+1) 0).drop ac.length
  have aj:u.length=a.length+1:=by simp [u];omega
  have al:val u=val a*2^c:=by simp only[u,nQ,List.drop_replicate,AD,Nat.mul_zero,Nat.add_zero,el]
  have am:ci u:=fun x aT=>by
   rcases List.mem_append.1 aT with h|h
   ·exact aO x h
   ·exact la _ x (List.mem_of_mem_drop h)
  have aU:=fun(k:a1)=>A1.copy (T:=au) (G:=G) (X:=X) (n:=a.length+1) (uT.rd H) (by simpa using aQ) (by simp) k
  have A2:fT (H.put s.af.own.length u) s.af.own.length u:=A1.put u
  let Y:=(H.put s.af.own.length u).new (.cells (List.replicate (a.length-b.length+1) (U 0)))
  have A3:fT Y s.af.own.length u:=A2.new _;have A4:fT Y (H.put s.af.own.length u).own.length (List.replicate (a.length-b.length+1) 0):=fT.make _ _;have aV:Child s Y:=(((Child.af s).new _).put _ _).new _;have cQ:s.af.own.length≠(H.put s.af.own.length u).own.length:=by have:=A2.lt;omega
  have aY:=LY G X s c (val a*2^c) (a.length+1) (a.length-b.length+1) s.af.own.length (H.put s.af.own.length u).own.length rc vs R me (by omega) iA (by omega) (by omega) (by omega) cQ (by omega) (a.length-b.length+1) 0 u _ Y (by omega) aV A3 A4 aj (by simp) am (la _)
   (by rw[al,hl (by simp)];simp [val]) (aaU J L N am hlen aj al V)
  obtain⟨v,w,q,r,g1,g2,aZ,a0,a2,a3,a4,jb,a5⟩:=aY;refine⟨v,w,q,r,?_,g2,aZ,a0,a2,a3,a4,?_,?_⟩
  ·rw[Z,ay];refine(aa _).trans ?_;rw[cy,aK aA,I.ak,cy,aK aF,ag,aH];refine(aL _ _).trans ?_;rw[y.ak];refine(aK aN).trans ?_;refine(aU _).trans ?_;rw[ag,Z,aI,aJ];refine(aM _ _).trans ?_;rw[jA];exact g1
  ·rw[jb,V,Nat.mul_div_mul_right _ _ (Nat.two_pow_pos c)]
  ·rw[a5,V,Nat.mul_mod_mul_right,Nat.mul_div_cancel _ (Nat.two_pow_pos c)]
def f5(neg:Bool)(l:List Nat):Bool:=if l.length=0 then !neg else decide (l.length≤128)&&decide (l.getD (l.length-1) 0≠0)
abbrev hf(neg:Bool)(v:ai):ai:=.agg [.bool neg,v]
theorem uq(s:aq)(neg:Bool)(v:ai)(l:List Nat)(h:gT v l)(u:l.length<9223372036854775807):az au G X 147 [hf neg v] s=.ok (.bool (f5 neg l)) s:=by
 have y:=Child.af s;have e:=fun(S:aq) (k:a1)=>(h.rd S).len (T:=au) (G:=G) (X:=X) k S
 rw[PM,agD];by_cases cL:l.length=0
 ·have kR:(l.length:Int)=0:=by omega
  simp only[↓cq,↓bx,↓bu,↓c3,↓bi,↓eY,↓bE,bT,dt,↓reduceIte,dk,↓e,eq_true kR,f5,if_pos cL]
 ·have kR:¬(l.length:Int)=0:=by omega
  by_cases aD:l.length≤128
  ·have bU:(l.length:Int)≤128:=by omega
   have g:=fun(k:a1)=>(h.rd s.af).get (T:=au) (G:=G) (X:=X) .i64 (l.length-1) (by omega) k
   have r:=fun(S:aq) (k:a1)=>iS (T:=au) (G:=G) (X:=X) (s:=S) (k:=k) l.length (by omega) (by omega)
   simp only[↓cq,↓bx,↓bu,↓c3,↓g6,↓RX,↓bi,↓dC,↓n5,↓eY,↓bE,bT,dt,↓reduceIte,dk,c9,co,↓e,eq_false kR,wh,eq_true bU,↓r,↓g,f5,if_neg cL,a7 aD,cG];congr 3;simp only[ne_eq,eq_iff_iff];omega
  ·have bU:¬(l.length:Int)≤128:=by omega
   simp only[↓cq,↓bx,↓bu,↓c3,↓g6,↓RX,↓bi,↓n5,↓eY,↓bE,bT,dt,↓reduceIte,c9,co,↓e,eq_false kR,wh,eq_false bU,f5,if_neg cL,aM aD,c1]
theorem ahR(s:aq)(h5 hW:Bool)(v1 v2:ai)(h r:List Nat)(aD:gT v1 h)(aG:gT v2 r)(ml:h.length<9223372036854775807)(y:r.length<9223372036854775807):az au G X 169 [hf h5 v1,hf hW v2] s=.ok (.bool (f5 h5 h&&f5 hW r)) s:=by
 rw[PW,agN];have u:=uq G X s.af h5 v1 h aD ml;have B:=uq G X s.af hW v2 r aG y;cases e:f5 h5 h with
 |false=>rw[e] at u;simp only[↓bx,↓g6,↓RV,↓bE,↓reduceIte,dd,cf,c0,ek,Nat.reduceAdd,↓ed,aX,hI,hn,co,↓(aK u),c1]
 |true=>rw[e] at u;simp only[↓bx,↓g6,↓RV,↓bE,↓reduceIte,dd,cf,c0,ek,Nat.reduceAdd,↓ed,aX,hI,hn,↓(aK u),↓(aK B),cG]
theorem LZ(s:aq)(neg:Bool)(v:ai)(l:List Nat)(h:gT v l)(V:ci l)(y:l.length<4294967296)(br:(dO l).length≤128):
  ∃w,az au G X 171 [.bool neg,v] s=.ok (.cT [hf (neg&&decide (dO l≠[])) w,.int .i64 0]) s∧gT w (dO l):=by
 have H:=Child.af s;have I:=fun(S:aq)=>np G X S v l (h.rd _) (by omega)
 have a9:gT (kj v (fg l l.length)) (dO l):=h.cut _;generalize Y:kj v (fg l l.length)=Z at *;generalize hm:dO l=m at *;have u:=fun(S:aq) (k:a1)=>(a9.rd S).len (T:=au) (G:=G) (X:=X) k S
 have J:¬(128:Int)<(m.length:Int):=by omega
 let S0:=s.af.new (.cells [.bool false,.aW 1 [] .nil])
 let e:=S0.new (.cells (List.replicate m.length (U 0)))
 have A1:fT e S0.own.length (List.replicate m.length 0):=fT.make _ _;have mk:=fun(k:a1)=>lQ (T:=au) (G:=G) (X:=X) (s:=S0) (k:=k) (U 0) 4 m.length m.length (aX _) (by omega)
 have B:=fun(k:a1)=>A1.copy (T:=au) (G:=G) (X:=X) (n:=m.length) (a9.rd e) (by simp) (by simp) k
 have kR:m++(List.replicate m.length 0).drop m.length=m:=by rw[List.drop_replicate,Nat.sub_self];simp
 rw[kR] at B;have A2:fT (e.put S0.own.length m) S0.own.length m:=A1.put m;have ku:Child s (e.put S0.own.length m):=((H.new _).new _).put _ _;have K:(e.put S0.own.length m).own[0]? =some (.cells [.bool false,.aW 1 [] .nil]):=rfl;have fin:∀b:Bool,∃w,(aH au G X).cH [.bool false,.aW 1 [] .nil] [(0,1,.bool b),(1,1,.cw (.l S0.own.length) 0 m.length m.length 1)] (e.put S0.own.length m) (fun L s=>(aH au G X).a6 s (fun ab s=>(aH au G X).aB false [eF s (.ref (.l 0) 0) (some 2),some (.int .i64 0)] s) 2 (.ref (.l 0) 0) (ai.ak s.aa L))=.ok (.cT [hf b w,.int .i64 0]) s∧gT w m:=fun b=>by
  have M:=fun(k:a1)=>ix (T:=au) (G:=G) (X:=X) (S:=e.put S0.own.length m) (k:=k) (n:=2) (vs:=[.bool b,.cw (.g (e.put S0.own.length m).aa S0.own.length) 0 m.length m.length 1]) K rfl rfl rfl
  let r:aq:={e.put S0.own.length m with own:=(e.put S0.own.length m).own.set 0 (.cells [.bool b,.cw (.g (e.put S0.own.length m).aa S0.own.length) 0 m.length m.length 1])}
  have A3:fT r S0.own.length m:=by have:r.own[1]? =(e.put S0.own.length m).own[1]?:=ew (by decide);exact this.trans A2
  have N:Child s r:=⟨ku.up,ku.ro⟩;obtain⟨w,aD,aG⟩:=kM (S:=r) (j:=S0.own.length) (off:=0) (cap:=m.length) (n:=m.length) m rfl A3 (by rw[bT];exact gG (by simp)) (by simp);refine⟨w,?_,aG⟩;have y:∀k:a1,(aH au G X).cH [.bool false,.aW 1 [] .nil] [(0,1,.bool b),(1,1,.cw (.l S0.own.length) 0 m.length m.length 1)] (e.put S0.own.length m) k=k (.agg [.bool b,.cw (.g (e.put S0.own.length m).aa S0.own.length) 0 m.length m.length 1]) (e.put S0.own.length m):=fun k=>rfl
  rw[y,dd];refine(M _).trans ?_;have O:eF r (.ref (.l 0) 0) (some 2)=some (.agg [.bool b,.cw (.g (e.put S0.own.length m).aa S0.own.length) 0 m.length m.length 1]):=ht (j:=0) (by rfl) rfl;show(aH au G X).aB false [eF r (.ref (.l 0) 0) (some 2),some (.int .i64 0)] r=_;rw[O];refine h0 N _ _ _ _ ?_ rfl;show(ha (dT r) [_,_]).map ai.agg=_;simp only[ha];rw[show dT r (.bool b)=some (.bool b) from rfl,show dT r (.cw (.g (e.put S0.own.length m).aa S0.own.length) 0 m.length m.length 1)=some w from aD];rfl
 have Q:decide ((0:Int)<(m.length:Int))=decide (m≠[]):=by
  congr 1;cases m with
  |nil=>simp
  |cons x m=>simp
 obtain⟨w,hw,R⟩:=fin (neg&&decide (m≠[]));refine⟨w,?_,R⟩;rw[PY,agP,gI,h.ak,aK (I _),u,ee,cq,if_neg (by simpa using J),Kr,u];refine(mk _).trans ?_;refine(B _).trans ?_;rw[RW,g6];cases neg with
 |false=>exact hw
 |true=>
  rw[if_pos rfl]
  dsimp only
  rw[u,ee,Q];rw[cG] at hw;rw[cG];exact hw
theorem L0(s:aq)(v:ai)(l:List Nat)(h:gT v l)(r:ci l)(br:l.length≤2):az au G X 172 [v] s=.ok (.int .u64 (val l:Int)) s:=by
 have K:=Child.af s;have u:=fun(S:aq) (k:a1)=>(h.rd S).len (T:=au) (G:=G) (X:=X) k S
 have step:∀(i x:Nat),i<l.length→x=val (l.take i)→oE (aH au G X) v (.int .u64 (x:Int)) (.int .i64 (l.length:Int)) (.int .i64 (i:Int)) s.af=oE (aH au G X) v (.int .u64 ((val (l.take (i+1)):Nat):Int)) (.int .i64 (l.length:Int)) (.int .i64 ((i+1:Nat):Int)) s.af:=fun i x bk aT=>by
  have aD:(i:Int)<(l.length:Int):=by omega
  have g:=fun(k:a1)=>(h.rd s.af).get (T:=au) (G:=G) (X:=X) .i64 i bk k
  have bI:=r.getD i;rw[jU] at bI;have B:=fun(S:aq) (k:a1)=>fC (T:=au) (G:=G) (X:=X) (s:=S) (k:=k) (l.getD i 0) bI
  have xl:∀(S:aq) (k:a1),(aH au G X).ah S k (al .mul (.int .i64 32) (.int .i64 (i:Int)))=k (.int .i64 ((32*i:Nat):Int)) S:=fun S k=>by rw[Nh,gJ _ (by omega) (by omega)];congr 2
  have s1:=fun(S:aq) (k:a1)=>sD (T:=au) (G:=G) (X:=X) (s:=S) (k:=k) .i64 (l.getD i 0) (32*i) (by omega)
  have H:=fun(S:aq) (jh:a1)=>nm (T:=au) (G:=G) (X:=X) (s:=S) (k:=jh) i (by omega)
  have I:=eI (l.take i) (r.take i);have hle:(l.take i).length=i:=by simp;omega
  rw[hle,uh,←Nat.pow_mul] at I;have vs:=val_succ l i bk;have J:∀(S:aq) (k:a1),(aH au G X).ah S k (al .or (.int .u64 (x:Int)) (.int .u64 ((l.getD i 0*2^(32*i)%18446744073709551616:Nat):Int)))=k (.int .u64 ((val (l.take (i+1)):Nat):Int)) S:=fun S k=>by
   have L:l.getD i 0*2^(32*i)<18446744073709551616-2^(32*i)+1:=by
    have:i=0∨i=1:=by omega
    rcases this with rfl |rfl
    ·show l.getD 0 0*1<18446744073709551616-1+1;omega
    ·show l.getD 1 0*4294967296<18446744073709551616-4294967296+1;omega
   have aU:2^(32*i)≤4294967296:=by
    have:i=0∨i=1:=by omega
    rcases this with rfl |rfl <;> simp
   rw[fm (by omega)];have e:al .or (.int .u64 (x:Int)) (.int .u64 ((l.getD i 0*2^(32*i):Nat):Int))=some (.int .u64 (IntKind.wrap .u64 ((BitVec.ofInt 64 (x:Int) ||| BitVec.ofInt 64 ((l.getD i 0*2^(32*i):Nat):Int)).toNat:Int))):=by simp only[al,gy,↓reduceIte];rfl
   rw[e,Nl _ _ (by omega) (by omega),n4,iZ];congr 2
   have:x ||| l.getD i 0*2^(32*i)=x+l.getD i 0*2^(32*i):=by rw[Nat.or_comm,dE,←Nat.two_pow_add_eq_or_of_lt (by omega),Nat.add_comm]
   rw[this,vs,aT,uh,←Nat.pow_mul,dE (2^(32*i))];omega
  rw[wu,be,cq,if_pos (by simpa using aD),Kt,g,B,xl,s1,J,Ks,H]
 have last:oE (aH au G X) v (.int .u64 (val l:Int)) (.int .i64 (l.length:Int)) (.int .i64 (l.length:Int)) s.af=.ok (.int .u64 (val l:Int)) s:=by rw[wu,be,cq,if_neg (by simp),Ku,b1]
 rw[PZ,agQ,u]
 match l,br with
 |[],_=>exact last
 |[x],_=>exact(step 0 0 (by simp) rfl).trans last
 |[x,y],_=>exact((step 0 0 (by simp) rfl).trans (step 1 _ (by simp) rfl)).trans last
theorem dP{s:aq}{k:a1}(op:a1→ao):(aH au G X).ae (.bool true) true op s k=op k:=rfl
theorem fh{s:aq}{k:a1}(op:a1→ao):(aH au G X).ae (.bool false) true op s k=k (.cT []) s:=rfl
theorem de{s:aq}{k:a1}(op:a1→ao):(aH au G X).ae (.bool false) false op s k=op k:=rfl
theorem ej{s:aq}{k:a1}(op:a1→ao):(aH au G X).ae (.bool true) false op s k=k (.cT []) s:=rfl
theorem cR{s:aq}{k:a1}(a b:ai):(aH au G X).a2 s k (.bool true) a b=k a s:=rfl
theorem df{s:aq}{k:a1}(a b:ai):(aH au G X).a2 s k (.bool false) a b=k b s:=rfl
theorem ba(a b:ao):(aH au G X).ay (.bool true) a b=a:=rfl
theorem bc(a b:ao):(aH au G X).ay (.bool false) a b=b:=rfl
theorem ur{s S:aq}(e:Child s S){j:Nat}{cs:List ai}(h:S.own[j]? =some (.cells cs))(a9:cs.length=2)(b:Bool){w:ai}{m:List Nat}(hw:gT w m)(n:Int):
  (aH au G X).a6 S (fun r s=>(aH au G X).aB false [eF s (.ref (.l j) 0) (some 2),some (.int .i64 n)] s) 2 (.ref (.l j) 0) (.agg [.bool b,w])=.ok (.cT [hf b w,.int .i64 n]) s:=by
 rw[ix (n:=2) h rfl a9 (by simp only[List.all_cons,hw.dZ,List.all_nil];rfl)];have cp:=(bZ.1 h).1;rw[ht (n:=2) (cs:=[.bool b,w]) (by simp [cp]) rfl];have ku:Child s {S with own:=S.own.set j (.cells [.bool b,w])}:=⟨e.up,e.ro⟩;refine h0 ku (.agg [.bool b,w]) (.int .i64 n) (.agg [.bool b,w]) (.int .i64 n) ?_ rfl;show(ha (dT _) [_,_]).map ai.agg=_;simp only[ha];rw[hw.dT,show dT _ (.bool b)=some (.bool b) from rfl];rfl
theorem L1(s S:aq)(y:Child s S)(B:S.own[0]? =some (.cells [.bool false,.aW 1 [] .nil])):∀(b m n:Nat),m<b→n<18446744073709551616→m<18446744073709551616→
  ∃w r,sZ (aH au G X) (.ref (.l 0) 0) (.int .u64 (n:Int)) (.int .u64 (m:Int)) S=.ok (.cT [hf false w,.int .i64 0]) s∧gT w r∧ci r∧cX r∧val r=Nat.gcd n m:=by
 intro b
 induction b with
 |zero=>intro m n h;omega
 |succ b H=>
  intro m n N bX hm;rw[JY,ee];by_cases cL:m=0
  ·subst cL;have I:=fun(S:aq) (k:a1)=>g7 (T:=au) (G:=G) (X:=X) (s:=S) (k:=k) .u64 n
   have J:=fun(S:aq) (k:a1)=>g7 (T:=au) (G:=G) (X:=X) (s:=S) (k:=k) .u64 (n/4294967296)
   have eB:=fun(k:a1)=>l4 (T:=au) (G:=G) (X:=X) (s:=S) (k:=k) [n%4294967296,n/4294967296%4294967296]
   have aC:=gT.eB [n%4294967296,n/4294967296%4294967296];have e:ci [n%4294967296,n/4294967296%4294967296]:=fun x aT=>by rw[jU];simp at aT;omega
   have bG:val [n%4294967296,n/4294967296%4294967296]=n:=by simp only[val,jU];omega
   have br:(dO [n%4294967296,n/4294967296%4294967296]).length≤128:=by
    rw[fP]
    have:=hP [n%4294967296,n/4294967296%4294967296] 2;exact Nat.le_trans this (by decide)
   obtain⟨w,K,u⟩:=LZ G X S false _ _ aC e (by simp) br;refine⟨w,_,?_,u,gL e,fu _,by rw[gP,bG,Nat.gcd_zero_right]⟩;rw[show decide ((0:Int)<((0:Nat):Int))=false from rfl,bc,JX,I,qI,J];refine(eB _).trans ?_;rw[aC.ak,oB,aK K,gn 0 _ _ rfl,gn 1 _ _ rfl,dd];exact ur G X y B rfl _ u 0
  ·have aD:(0:Int)<(m:Int):=by omega
   obtain⟨w,r,aG,bz,cz,L,M⟩:=H (n%m) m (by have:=Nat.mod_lt n (Nat.pos_of_ne_zero cL);omega) hm (by have:=Nat.mod_lt n (Nat.pos_of_ne_zero cL);omega);refine⟨w,r,?_,bz,cz,L,by rw[M,Nat.gcd_comm,←Nat.gcd_rec,Nat.gcd_comm]⟩;rw[a7 aD,ba,JW,DL _ _ cL];exact aG
theorem L2(s S:aq)(Y:Child s S)(Z:S.own[0]? =some (.cells [.bool false,.aW 1 [] .nil])):∀(b:Nat) (u H:ai) (x y:List Nat),val y<b→gT u x→gT H y→ci x→ci y→cX x→cX y→x.length≤128→y.length≤128→
  ∃w r,s0 (aH au G X) (.ref (.l 0) 0) u H S=.ok (.cT [hf false w,.int .i64 0]) s∧gT w r∧ci r∧cX r∧val r=Nat.gcd (val x) (val y):=by
 intro b
 induction b with
 |zero=>intro u H x y h;omega
 |succ b ah=>
  intro u H x y ay J K I M Q R aj aa;have N:=fun(S:aq) (k:a1)=>(J.rd S).len (T:=au) (G:=G) (X:=X) k S
  have L:=fun(S:aq) (k:a1)=>(K.rd S).len (T:=au) (G:=G) (X:=X) k S
  have ab:(y=[]∨(x.length≤2∧y.length≤2))→∃w r,zi (aH au G X) (.ref (.l 0) 0) u H S=.ok (.cT [hf false w,.int .i64 0]) s∧gT w r∧ci r∧cX r∧val r=Nat.gcd (val x) (val y):=fun ac=>by
   by_cases aG:x.length≤2
   ·have ad:y.length≤2:=by
     rcases ac with h|h
     ·subst h;simp
     ·exact h.2
    have small:∀l:List Nat,ci l→l.length≤2→val l<18446744073709551616:=fun l al br=>by
     have bz:=eI l al;have cz:B^l.length≤B^2:=ih br;have az:B^2=18446744073709551616:=by decide
     omega
    obtain⟨w,r,g1,g2⟩:=L1 G X s S Y Z (val y+1) (val y) (val x) (by omega) (small x I aG) (small y M ad);refine⟨w,r,?_,g2⟩;have e:¬(2:Int)<(x.length:Int):=by omega
    rw[wi,N,ee,aM e,bc,JZ,J.ak,aK (L0 G X S u x J I aG),K.ak,aK (L0 G X S H y K M ad)];exact g1
   ·have dX:y=[]:=by
     rcases ac with h|h
     ·exact h
     ·exact absurd h.1 aG
    subst dX;have e:(2:Int)<(x.length:Int):=by omega
    have ae:dO x=x:=by have aD:=gP x;exact val_inj (gL I) I (pe (gL I) I (fu x) Q aD) aD
    obtain⟨w,am,U⟩:=LZ G X S false u x J I (by omega) (by rw[ae];exact aj);rw[ae] at U;refine⟨w,x,?_,U,I,Q,by simp [val]⟩;rw[wi,N,ee,a7 e,ba,J.ak,oB,aK am,gn 0 _ _ rfl,gn 1 _ _ rfl,dd];exact ur G X Y Z rfl _ U 0
  by_cases dX:y=[]
  ·obtain⟨w,r,g1,g2⟩:=ab (.inl dX);refine⟨w,r,?_,g2⟩;have e:¬(0:Int)<(y.length:Int):=by subst dX;simp
   rw[nP,L,ee,aM e];simp -implicitDefEqProofs only[fh,df,bc];exact g1
  ·have e:(0:Int)<(y.length:Int):=by have:=List.length_pos_iff.2 dX;omega
   have an:val y≠0:=fun h=>dX ((nR R).1 h)
   have af:∃w r,zh (aH au G X) (.ref (.l 0) 0) u H S=.ok (.cT [hf false w,.int .i64 0]) s∧gT w r∧ci r∧cX r∧val r=Nat.gcd (val x) (val y):=by
    obtain⟨v,w,q,r,ao,aA,aB,aE,aC,or,ag,eq,ap⟩:=ahQ G X S u H x y J K I M Q R dX (by omega) (by omega);have aF:=Nat.mod_lt (val x) (Nat.pos_of_ne_zero an);have ar:r.length≤128:=by have bz:=eI y M;have cz:B^y.length≤B^128:=ih aa;exact pf ag (by omega)
    obtain⟨as,oY,g1,g2,av,aw,ax⟩:=ah H w y r (by omega) K aC M or R ag aa ar;refine⟨as,oY,?_,g2,av,aw,by rw[ax,ap,Nat.gcd_comm,←Nat.gcd_rec,Nat.gcd_comm]⟩;rw[JV,J.ak,K.ak,aK ao,gn 0 _ v rfl,gn 1 _ w rfl];exact g1
   by_cases aG:2<x.length
   ·obtain⟨w,r,g1,g2⟩:=af;refine⟨w,r,?_,g2⟩;have O:(2:Int)<(x.length:Int):=by omega
    rw[nP,L,ee,a7 e];simp -implicitDefEqProofs only[dP,ej,cR,ba,↓N,↓ee,a7 O];exact g1
   ·have O:¬(2:Int)<(x.length:Int):=by omega
    by_cases bz:2<y.length
    ·obtain⟨w,r,g1,g2⟩:=af;refine⟨w,r,?_,g2⟩;have V:(2:Int)<(y.length:Int):=by omega
     rw[nP,L,ee,a7 e];simp -implicitDefEqProofs only[dP,de,cR,df,ba,↓N,↓L,↓ee,aM O,a7 V];exact g1
    ·obtain⟨w,r,g1,g2⟩:=ab (.inr ⟨by omega,by omega⟩);refine⟨w,r,?_,g2⟩;have V:¬(2:Int)<(y.length:Int):=by omega
     rw[nP,L,ee,a7 e];simp -implicitDefEqProofs only[dP,de,cR,df,bc,↓N,↓L,↓ee,aM O,aM V];exact g1
theorem i5{n:Bool}{l:List Nat}(h:f5 n l=true):cX l∧l.length≤128:=by
 unfold f5 at h;split at h
 ·rename_i cL;exact⟨fun cQ=>absurd (kU cL) cQ,by omega⟩
 ·simp only[bL,ij] at h;exact⟨fun _=>h.2,h.1⟩
theorem ahS(s:aq)(h5 hW:Bool)(v1 v2:ai)(x y:List Nat)(e:gT v1 x)(h:gT v2 y)(B:ci x)(H:ci y)(aT:f5 h5 x=true)(dX:f5 hW y=true):
  ∃w r,az au G X 150 [hf h5 v1,hf hW v2] s=.ok (.cT [hf false w,.int .i64 0]) s∧gT w r∧ci r∧cX r∧val r=Nat.gcd (val x) (val y):=by
 obtain⟨I,J⟩:=i5 aT;obtain⟨K,L⟩:=i5 dX;have M:Child s (s.af.new (.cells [.bool false,.aW 1 [] .nil])):=(Child.af s).new _;obtain⟨w,r,aD,aG⟩:=L2 G X s _ M (by rfl) (val y+1) v1 v2 x y (by omega) e h B H I K J L;refine⟨w,r,?_,aG⟩;have u:=ahR G X (s.af.new (.cells [.bool false,.aW 1 [] .nil])) h5 hW v1 v2 x y e h (by omega) (by omega);rw[aT,dX,eD] at u;rw[PO,agF];simp only[↓gI,↓cq,↓bx,↓bu,↓c3,↓eY,bT,dt,↓reduceIte,dd,cf,c0,ek,Nat.reduceAdd,↓ed,aX,hI,hn,co,↓(aK u),eV,J0];exact aD
def ns(n:Bool)(l:List Nat):Bool:= !n&&decide (l=[1])
theorem CM{l:List Nat}(h:l.length=1):l=[1]↔l.getD 0 0=1:=by
 match l,h with
 |[x],_=>simp [List.getD]
theorem L3(s:aq)(n:Bool)(v:ai)(l:List Nat)(h:gT v l):az au G X 149 [hf n v] s=.ok (.bool (ns n l)) s:=by
 have r:=fun(S:aq) (k:a1)=>(h.rd S).len (T:=au) (G:=G) (X:=X) k S
 rw[P6,agX];cases n with
 |true=>simp only[↓bx,↓bu,↓c3,↓g6,↓lO,↓lP,↓eY,↓bE,bT,dt,↓reduceIte,co,eV,ns,c1]
 |false=>
  by_cases aD:l.length=1
  ·have e:(l.length:Int)=1:=by omega
   have g:=fun(k:a1)=>(h.rd s.af).get (T:=au) (G:=G) (X:=X) .i64 0 (by omega) k
   have g':∀k:a1,(aH au G X).aZ s.af (fun v S=>(aH au G X).aj S k none v) 1 v (.int .i64 0)=k (U (l.getD 0 0)) s.af:=g;simp only[↓bx,↓bu,↓c3,↓g6,↓lO,↓lP,↓bi,↓eY,↓bE,bT,dt,↓reduceIte,dk,eC,ns,cG,↓r,eq_true e,↓g'];congr 3;rw[eq_iff_iff,CM aD];omega
  ·have e:¬(l.length:Int)=1:=by omega
   have:¬l=[1]:=fun e=>aD (by rw[e];rfl)
   simp only[↓bx,↓bu,↓c3,↓g6,↓lO,↓lP,↓bi,↓eY,↓bE,bT,dt,↓reduceIte,c9,co,eC,ns,cG,↓r,eq_false e,eq_false this]
theorem ahT(s:aq)(n:Bool)(v:ai)(l:List Nat)(h:gT v l):az au G X 148 [hf n v] s=.ok (.bool (decide (l=[]))) s:=by
 have e:=fun(S:aq) (k:a1)=>(h.rd S).len (T:=au) (G:=G) (X:=X) k S
 rw[P5,agW];simp only[↓bx,↓bu,↓c3,↓bi,↓bE,bT,dt,↓e];congr 3;rw[eq_iff_iff];cases l<;> simp <;> omega
def jQ(h5 hW:Bool)(x y:List Nat):Bool:=f5 h5 x&&f5 hW y&& !hW&&decide (y≠[])&&decide (Nat.gcd (val x) (val y)=1)
theorem AL{l:List Nat}(e:ci l)(u:cX l):l=[1]↔val l=1:=by
 constructor
 ·intro h;subst h;simp [val]
 ·intro h;have r:ci [1]:=fun x aT=>by rw[List.mem_singleton.1 aT,jU];omega
  have y:cX [1]:=fun _=>by simp
  have v1:val [1]=1:=by simp [val]
  exact val_inj e r (pe e r u y (by rw[h,v1])) (by rw[h,v1])
theorem ahU(s:aq)(h5 hW:Bool)(v1 v2:ai)(x y:List Nat)(H:gT v1 x)(B:gT v2 y)(L:ci x)(I:ci y)(M:x.length<9223372036854775807)(N:y.length<9223372036854775807):
  az au G X 116 [.agg [.bool h5,v1,.bool hW,v2]] s=.ok (.bool (jQ h5 hW x y)) s:=by
 have e:=uq G X s.af h5 v1 x H M;have u:=uq G X s.af hW v2 y B N;have J:=ahT G X s.af hW v2 y B;have O:=L3 G X s.af hW v2 y B;rw[P2,agT];cases bU:f5 h5 x with
 |false=>rw[bU] at e;simp -implicitDefEqProofs only[↓cq,↓bx,↓bu,↓c3,↓k6,↓ni,↓yY,↓eY,↓bE,bT,dt,↓reduceIte,dd,cf,c0,ek,Nat.reduceAdd,↓ed,Nat.reduceLeDiff,aX,hI,hn,↓(aK e),eC,jQ,bU,c1]
 |true=>
  rw[bU] at e;cases h:f5 hW y with
  |false=>rw[h] at u;simp -implicitDefEqProofs only[↓cq,↓bx,↓bu,↓c3,↓k6,↓ni,↓yY,↓eY,↓bE,bT,dt,↓reduceIte,dd,cf,c0,ek,Nat.reduceAdd,↓ed,Nat.reduceLeDiff,aX,hI,hn,co,↓(aK e),↓(aK u),eV,eC,jQ,bU,h,c1,Bool.and_false]
  |true=>
   rw[h] at u;cases hW with
   |true=>simp -implicitDefEqProofs only[↓cq,↓bx,↓bu,↓c3,↓k6,↓ni,↓yY,↓eY,↓bE,bT,dt,↓reduceIte,dd,cf,c0,ek,Nat.reduceAdd,eD,↓ed,Nat.reduceLeDiff,aX,hI,hn,co,↓(aK e),↓(aK u),eV,jQ,bU,h,c1,Bool.and_false]
   |false=>
    by_cases dX:y=[]
    ·simp -implicitDefEqProofs only[↓cq,↓bx,↓bu,↓c3,↓k6,↓ni,↓yY,↓eY,↓bE,bT,dt,↓reduceIte,dd,cf,c0,ek,Nat.reduceAdd,↓ed,Nat.reduceLeDiff,aX,hI,hn,dk,c9,co,↓(aK e),↓(aK u),↓(aK J),eV,jQ,bU,dX,c1,Bool.and_false,ne_eq,not_true_eq_false]
    ·obtain⟨Q,aa⟩:=i5 h;simp only[↓cq,↓bx,↓bu,↓c3,↓k6,↓ni,↓yY,↓eY,↓bE,bT,dt,↓reduceIte,dd,cf,c0,ek,Nat.reduceAdd,eD,↓ed,Nat.reduceLeDiff,aX,hI,hn,dk,c9,co,↓(aK e),↓(aK u),↓(aK J),↓(aK O),eV,jQ,bU,h,eq_false dX,eC,cG,ne_eq,not_false_eq_true,KC];by_cases aD:y=[1]
     ·have:Nat.gcd (val x) (val y)=1:=by rw[(AL I Q).1 aD,Nat.gcd_one_right]
      simp only[ns,eC,a7 aD,eq_true this,↓reduceIte,eD,dk]
     ·obtain⟨w,r,R,K,or,U,V⟩:=ahS G X s.af h5 false v1 v2 x y H B L I bU h;have Y:=fun S:aq=>L3 G X S false w r K
      have Z:=fun(k:a1)=>kx (T:=au) (G:=G) (X:=X) (s:=s.af) (k:=k) 2 [.bool false,w] [.bool false,.aW 1 [] .nil] rfl rfl (by simp only[List.all_cons,K.dZ,List.all_nil];rfl)
      simp only[ns,eC,cG,aM aD,co,KB,↓gI,↓c3,↓DJ,bT,dt,↓reduceIte,dd,cf,c0,ek,Nat.reduceAdd,↓ed,Nat.reduceLeDiff,aX,hI,hn,co,↓(aK R),↓hv,↓hx,↓Z,↓(aK (Y _))];rw[eH ((Child.af s).new _)];congr 3;rw[eq_iff_iff,AL or U,V]
end Go.h6
end
section
namespace Go.hd
theorem getD_none(l:List Nat)(i:Nat)(h:l.length≤i):l.getD i 0=0:=by simp only[List.getD];rw[List.getElem?_eq_none h];rfl
theorem us(l:List Nat)(i:Nat):val (l.take (i+1))=val (l.take i)+B^i*l.getD i 0:=by
 by_cases h:i<l.length
 ·exact val_succ l i h
 ·rw[getD_none l i (by omega),Nat.mul_zero,Nat.add_zero (val _),gG (by omega),gG (by omega)]
theorem vd(l:List Nat)(i x:Nat)(h:i<l.length):val ((l.set i x).take (i+1))=val (l.take i)+B^i*x:=by rw[val_succ _ i (by simpa using h),lb (aX _),fb h]
theorem L4{a b out:List Nat}{i r:Nat}(bk:i<out.length)(u:ci a)(H:ci b)(J:ci out)(K:r≤1)(h:val (out.take i)+val (b.take i)=val (a.take i)+r*B^i):
  (a.getD i 0<r+b.getD i 0→a.getD i 0+4294967296-(r+b.getD i 0)<B∧val ((out.set i (a.getD i 0+4294967296-(r+b.getD i 0))).take (i+1))+val (b.take (i+1))=val (a.take (i+1))+1*B^(i+1))∧
  (¬a.getD i 0<r+b.getD i 0→a.getD i 0-(r+b.getD i 0)<B∧val ((out.set i (a.getD i 0-(r+b.getD i 0))).take (i+1))+val (b.take (i+1))=val (a.take (i+1))+0*B^(i+1)):=by
 have fj:=u.getD i;have L:=H.getD i;have M:B=4294967296:=rfl;rw[vd out i _ bk,vd out i _ bk,us a,us b,Nat.pow_succ];generalize a.getD i 0=x at *;generalize b.getD i 0=y at *;generalize val (out.take i)=O at *;generalize val (b.take i)=P at *;generalize val (a.take i)=Q at *;generalize B^i=W at *;refine⟨fun I=>⟨by omega,?_⟩,fun I=>⟨by omega,?_⟩⟩
 ·have e:W*(x+4294967296-(r+y))+W*(r+y)=W*x+W*B:=by rw[←eg,←eg];congr 1;omega
  rw[eg,dE W r] at e;omega
 ·have e:W*(x-(r+y))+W*(r+y)=W*x:=by rw[←eg];congr 1;omega
  rw[eg,dE W r] at e;omega
theorem QP{a b out:List Nat}{i c:Nat}(bk:i<out.length)(h:val (out.take i)+c*B^i=val (a.take i)+val (b.take i)):
  val ((out.set i ((c+a.getD i 0+b.getD i 0)%B)).take (i+1))+(c+a.getD i 0+b.getD i 0)/B*B^(i+1)=val (a.take (i+1))+val (b.take (i+1)):=by
 rw[vd out i _ bk,us a,us b,Nat.pow_succ];generalize a.getD i 0=x at *;generalize b.getD i 0=y at *;generalize val (out.take i)=O at *;generalize val (b.take i)=P at *;generalize val (a.take i)=Q at *;generalize B^i=W at *;have e:W*((c+x+y)%B)+W*(B*((c+x+y)/B))=W*(c+x+y):=by rw[←eg,Nat.mod_add_div]
 have r:(c+x+y)/B*(W*B)=W*(B*((c+x+y)/B)):=by ac_rfl
 rw[eg,eg,dE W c] at e;omega
theorem aaV{c x y:Nat}(a9:c≤1)(aT:x<B)(dX:y<B):(c+x+y)/B≤1:=by rw[jU] at *;omega
theorem aaW{a b out:List Nat}{c N:Nat}(r:ci a)(u:ci b)(y:a.length+1≤N)(H:b.length+1≤N)(br:out.length=N)(h:val (out.take N)+c*B^N=val (a.take N)+val (b.take N)):val out=val a+val b:=by
 rw[gG (by omega),gG (by omega),gG (by omega)] at h;have aD:=eI a r;have aG:=eI b u;have bz:B^a.length≤B^(N-1):=ih (by omega);have cz:B^b.length≤B^(N-1):=ih (by omega);have I:B^N=B^(N-1)*B:=by rw[←Nat.pow_succ];congr 1;omega
 have J:B^(N-1)*2≤B^(N-1)*B:=Nat.mul_le_mul_left _ (by decide);have a9:c=0:=by
  rcases Nat.eq_zero_or_pos c with e|e
  ·exact e
  ·have:1*B^N≤c*B^N:=e7 _ e;omega
 subst a9;omega
theorem QQ{a b out:List Nat}{r:Nat}(y:ci a)(u:ci out)(H:r≤1)(I:b.length≤a.length)(br:out.length=a.length)(hle:val b≤val a)(h:val (out.take a.length)+val (b.take a.length)=val (a.take a.length)+r*B^a.length):val out=val a-val b:=by
 rw[gG (by omega),gG (by omega),gG (by omega)] at h;have aD:=eI out u;rw[br] at aD;have a9:r=0:=by
  rcases Nat.eq_zero_or_pos r with e|e
  ·exact e
  ·have:r=1:=by omega
   subst this;omega
 subst a9;omega
end Go.hd
end
section
namespace Go.h6
open Go.Ab Go.hd
variable(G:Nat→ai)(X:Nat→List ai→aq→ao)
theorem aaX{S:aq}{v:ai}{l:List Nat}(h:jC S v l):kj v l.length=v:=by
 cases h with
 |aW l g bD=>show ai.aW 1 ((l.map U).take l.length) (ln g (l.map U).length l.length)=_;rw[gG (by simp)];congr 1;cases g<;> first|rfl |simp [ln]
 |cw=>rfl
theorem aaY{S:aq}{v:ai}{l:List Nat}(h:jC S v l)(a b:Nat)(e:b≤a)(jw:a≤l.length):kj (kj v a) b=kj v b:=by
 cases h with
 |aW l g bD=>
  show ai.aW 1 (((l.map U).take a).take b) (ln (ln g (l.map U).length a) ((l.map U).take a).length b)=.aW 1 ((l.map U).take b) (ln g (l.map U).length b);rw[List.take_take,Nat.min_eq_left e];congr 1;cases g with
  |bQ c=>
   simp only[ln,b2,List.length_take,true_and];by_cases aD:a=l.length
   ·subst aD;simp
   ·simp [aD,show¬b=l.length by omega]
  |nil=>rfl
  |any=>rfl
  |exact=>
   simp only[ln,b2,List.length_take];by_cases aD:a=l.length
   ·subst aD;simp
   ·rw[if_neg aD,if_neg (show¬b=l.length by omega)]
 |cw=>rfl
theorem AM(s:aq)(v:ai)(l:List Nat)(h:jC s v l)(J:l.length<9223372036854775807):az au G X 178 [v] s=.ok (kj v (fg l l.length)) s:=by
 have u:=Child.af s;have loop:∀n,n≤l.length→tk (aH au G X) (kj v n) s.af=.ok (kj v (fg l n)) s:=fun n=>by
  induction n with
  |zero=>
   intro bX;have a9:=h.cut 0 bX;have r:=fun(S:aq) (k:a1)=>a9.len (T:=au) (G:=G) (X:=X) k S
   rw[ww,r];simp only[hn,ek];rw[ee,show decide ((0:Int)<((0:Nat):Int))=false from rfl];simp only[fh,df,bc,wv];exact gV u _ _ (a9.same u)
  |succ n B=>
   intro bX;have a9:=h.cut (n+1) bX;have H:(l.take (n+1)).length=n+1:=by simp;omega
   have r:=fun(S:aq) (k:a1)=>a9.len (T:=au) (G:=G) (X:=X) k S
   rw[H] at r;have y:=fun(S:aq) (k:a1)=>iS (T:=au) (G:=G) (X:=X) (s:=S) (k:=k) (n+1) (by omega) (by omega)
   simp only[Nat.add_sub_cancel] at y;have g:=fun(k:a1)=>(a9.jO u.jO).get (T:=au) (G:=G) (X:=X) .i64 n (by omega) k
   have I:(l.take (n+1)).getD n 0=l.getD n 0:=by simp [List.getD]
   rw[I] at g;have aW:=fun(S:aq) (k:a1)=>a9.slice (T:=au) (G:=G) (X:=X) n (by omega) k S
   have e:(0:Int)<((n+1:Nat):Int):=by omega
   rw[ww,r,ee,a7 e];simp only[dP,↓r,↓y,↓g,↓bi];by_cases cL:l.getD n 0=0
   ·have kR:((l.getD n 0:Nat):Int)=0:=by omega
    rw[a7 kR];simp only[cR,ba,Kv,↓r,↓y,↓aW];rw[aaY h (n+1) n (by omega) bX,B (by omega),fg,if_pos cL]
   ·have kR:¬((l.getD n 0:Nat):Int)=0:=by omega
    rw[aM kR];simp only[cR,bc,wv];rw[fg,if_neg cL];exact gV u _ _ (a9.same u)
 have:=loop l.length (aX _);rw[aaX h] at this;rw[P0,agR];exact this
theorem rH{s S:aq}(e:Child s S){j:Nat}{l:List Nat}(h:fT S j l)(n:Nat)(bX:n=l.length)(r:l.length<9223372036854775807):∃v,gT v (dO l)∧(aH au G X).ar S (fun v s=>(aH au G X).aB false [some v] s) 178 [.cw (.g S.aa j) 0 n n 1]=.ok v s:=by
 subst bX;have aQ:=h.rd l.length l.length (aX _) (aX _);rw[List.take_length] at aQ;rw[aK (AM G X S _ l aQ r)];have hle:=hP l l.length;obtain⟨v,aD,aG⟩:=kM (S:=S) (j:=j) (off:=0) (cap:=l.length) (dO l) (n:=fg l l.length) (fP l).symm h (by rw[bT,fP];simp [dO,List.map_take]) (by rw[fP];simpa using hle)
 exact⟨v,aG,gV e _ _ aD⟩
theorem ahV{s:aq}{k:a1}(a:Nat)(h:a<4294967296):(aH au G X).ah s k (al .and (.int .u32 (a:Int)) (.int .u32 1))=k (.int .u32 ((a%2:Nat):Int)) s:=by
 have e:al .and (.int .u32 (a:Int)) (.int .u32 1)=some (.int .u32 (IntKind.wrap .u32 ((BitVec.ofInt 32 (a:Int) &&& BitVec.ofInt 32 1).toNat:Int))):=by simp only[al,gy,↓reduceIte];rfl
 rw[e,n4,wrap_u32];congr 2;rw[BitVec.toNat_and];simp only[BitVec.toNat_ofInt];have aD:(((a:Int)%((2^32:Nat):Int))).toNat=a:=by omega
 have aG:(((1:Int)%((2^32:Nat):Int))).toNat=1:=by decide
 rw[aD,aG,Nat.and_one_is_mod];omega
theorem AN(s:aq)(v:ai)(l:List Nat)(i:Nat)(h:jC s v l)(r:ci l)(bk:i<4294967296):az au G X 157 [v,.int .i64 (i:Int)] s=.ok (.int .u32 ((val l/2^i%2:Nat):Int)) s:=by
 have y:=Child.af s;have u:=fun(S:aq) (k:a1)=>kL (T:=au) (G:=G) (X:=X) (s:=S) (k:=k) i (by omega)
 have hG:=fun(S:aq) (k:a1)=>mV (T:=au) (G:=G) (X:=X) (s:=S) (k:=k) i
 have B:=fun(S:aq) (k:a1)=>h.len (T:=au) (G:=G) (X:=X) k S
 have aT:=r.getD (i/32);rw[jU] at aT;rw[PR,agI,u,B,fG,←ahN l r i];by_cases a9:l.length≤i/32
 ·have e:(l.length:Int)≤((i/32:Nat):Int):=by omega
  rw[a7 e,ba,b1,getD_none l _ a9,Nat.zero_div];rfl
 ·have e:¬(l.length:Int)≤((i/32:Nat):Int):=by omega
  have g:=fun(k:a1)=>(h.jO y.jO).get (T:=au) (G:=G) (X:=X) .i64 (i/32) (by omega) k
  have s1:=fun(S:aq) (k:a1)=>rE (T:=au) (G:=G) (X:=X) (s:=S) (k:=k) .i64 (l.getD (i/32) 0) (i%32) (by omega)
  have H:l.getD (i/32) 0/2^(i%32)<4294967296:=Nat.lt_of_le_of_lt (Nat.div_le_self _ _) aT;rw[aM e,bc,J7,u,g,hG,s1,ahV G X _ H,b1]
theorem ahW(s:aq)(r u:ai)(a b:List Nat)(K:jC s r a)(L:jC s u b)(M:ci a)(N:ci b)(Y:cX a)(Z:cX b)(fO:a.length<9223372036854775807)(ag:b.length<9223372036854775807):
  az au G X 159 [r,u] s=.ok (.int .i64 (iC (val a) (val b))) s:=by
 have O:=Child.af s;have y:=fun(S:aq) (k:a1)=>K.len (T:=au) (G:=G) (X:=X) k S
 have Q:=fun(S:aq) (k:a1)=>L.len (T:=au) (G:=G) (X:=X) k S
 rw[PT,agK,y,Q,dC];by_cases br:a.length=b.length
 ·have e:(a.length:Int)=(b.length:Int):=by omega
  have loop:∀n,n≤a.length→val (a.drop n)=val (b.drop n)→s9 (aH au G X) r u (.int .i64 ((n:Int)-1)) s.af=.ok (.int .i64 (iC (val a) (val b))) s:=fun n=>by
   induction n with
   |zero=>intro _ he;rw[bT,bT] at he;rw[wl,fG,show decide ((0:Int)≤((0:Nat):Int)-1)=false from rfl,bc,Ke,b1,he];simp [iC]
   |succ n aa=>
    intro bX he;have bU:((n+1:Nat):Int)-1=(n:Int):=by omega
    have ab:(0:Int)≤(n:Int):=by omega
    have g0:=fun(k:a1)=>(K.jO O.jO).get (T:=au) (G:=G) (X:=X) .i64 n (by omega) k
    have R:=fun(k:a1)=>(L.jO O.jO).get (T:=au) (G:=G) (X:=X) .i64 n (by omega) k
    have H:=jP a n (by omega);have I:=jP b n (by omega);have U:=iH a n (by omega);have V:=iH b n (by omega);have ac:=eI (a.take n) (M.take n);have ad:=eI (b.take n) (N.take n);rw[show(a.take n).length=n by simp;omega] at ac;rw[show(b.take n).length=n by simp;omega] at ad;rw[bU,wl,fG,a7 ab,ba,Kd,g0,R,be];by_cases aD:a.getD n 0<b.getD n 0
    ·have h:((a.getD n 0:Nat):Int)<((b.getD n 0:Nat):Int):=by omega
     have:val a<val b:=by
      rw[U,V];have aD:val (a.drop n)+1≤val (b.drop n):=by rw[H,I,he];omega
      have aG:=Nat.mul_le_mul_left (B^n) aD;rw[eg,Nat.mul_one] at aG;omega
     rw[a7 h,ba,b1];simp [iC,this]
    ·have h:¬((a.getD n 0:Nat):Int)<((b.getD n 0:Nat):Int):=by omega
     rw[aM h,bc,Kc,g0,R,ee];by_cases aG:b.getD n 0<a.getD n 0
     ·have J:((b.getD n 0:Nat):Int)<((a.getD n 0:Nat):Int):=by omega
      have:val b<val a:=by
       rw[U,V];have aD:val (b.drop n)+1≤val (a.drop n):=by rw[H,I,he];omega
       have aG:=Nat.mul_le_mul_left (B^n) aD;rw[eg,Nat.mul_one] at aG;omega
      rw[a7 J,ba,b1];simp [iC,this,Nat.not_lt.2 (Nat.le_of_lt this)]
     ·have J:¬((b.getD n 0:Nat):Int)<((a.getD n 0:Nat):Int):=by omega
      have ae:a.getD n 0=b.getD n 0:=by omega
      rw[aM J,bc,Kb,nj,gJ _ (by omega) (by omega)];exact aa (by omega) (by rw[H,I,he,ae])
  rw[aM (by simpa using e),bc,Kf,y,nj,gJ _ (by omega) (by omega)];exact loop a.length (aX _) (by rw[List.drop_length,br,List.drop_length])
 ·have e:¬(a.length:Int)=(b.length:Int):=by omega
  rw[a7 e,ba,y,Q,be];by_cases aD:a.length<b.length
  ·have h:(a.length:Int)<(b.length:Int):=by omega
   have:=kN M Z aD;rw[a7 h,ba,b1];simp [iC,this]
  ·have h:¬(a.length:Int)<(b.length:Int):=by omega
   have:=kN N Y (by omega:b.length<a.length);rw[aM h,bc,Ka,b1];simp [iC,this,Nat.not_lt.2 (Nat.le_of_lt this)]
theorem ahX(s:aq)(I J:ai)(a b:List Nat)(O:jC s I a)(Q:jC s J b)(K:ci a)(R:ci b)(hlen:b.length≤a.length)(hle:val b≤val a)(fO:a.length<4294967296):
  ∃v q,az au G X 160 [I,J] s=.ok v s∧gT v q∧ci q∧cX q∧val q=val a-val b:=by
 have L:=fun(S:aq) (k:a1)=>O.len (T:=au) (G:=G) (X:=X) k S
 have ac:=fun(S:aq) (k:a1)=>Q.len (T:=au) (G:=G) (X:=X) k S
 have loop:∀(m i r:Nat) (out:List Nat) (S:aq),i+m=a.length→Child s S→fT S s.af.own.length out→out.length=a.length→ci out→r≤1→val (out.take i)+val (b.take i)=val (a.take i)+r*B^i→
   ∃v q,td (aH au G X) I J (.cw (.l s.af.own.length) 0 a.length a.length 1) (.int .u64 (r:Int)) (.int .i64 (i:Int)) S=.ok v s∧gT v q∧ci q∧cX q∧val q=val a-val b:=by
  intro m
  induction m with
  |zero=>
   intro i r out S bk u cp br H M bG;have h:¬((i:Int)<(a.length:Int)):=by omega
   obtain⟨v,f1,f2⟩:=rH G X u cp a.length br.symm (by omega);refine⟨v,dO out,?_,f1,gL H,fu out,?_⟩
   ·rw[wo,L,be,aM h,bc,Ki,fD];exact f2
   ·rw[gP];rw[show i=a.length by omega] at bG;exact QQ K H M hlen br hle bG
  |succ m V=>
   intro i r out S bk u cp br H M bG;have h:(i:Int)<(a.length:Int):=by omega
   have Y:=L4 (by omega:i<out.length) K R H M bG;have fj:=K.getD i;have Z:=R.getD i;have ad:=jU;rw[ad] at fj Z;have g0:=fun(k:a1)=>(O.jO u.jO).get (T:=au) (G:=G) (X:=X) .i64 i (by omega) k
   have N:=fun(S:aq) (k:a1)=>fC (T:=au) (G:=G) (X:=X) (s:=S) (k:=k) (a.getD i 0) fj
   have ae:=fun(S:aq) (k:a1)=>fC (T:=au) (G:=G) (X:=X) (s:=S) (k:=k) (b.getD i 0) Z
   have n7:=fun y (k:a1)=>cp.ez (T:=au) (G:=G) (X:=X) i a.length a.length y (by omega) (by omega) k
   have aa:=fun S k=>fJ G X S k i (by omega)
   have ag:∃v q,tc (aH au G X) I J (.cw (.l s.af.own.length) 0 a.length a.length 1) (.int .i64 (i:Int)) (.int .u64 ((r+b.getD i 0:Nat):Int)) S=.ok v s∧gT v q∧ci q∧cX q∧val q=val a-val b:=by
    rw[Kg,g0,N,be];by_cases ab:a.getD i 0<r+b.getD i 0
    ·obtain⟨gw,hj⟩:=Y.1 ab;have e:((a.getD i 0:Nat):Int)<((r+b.getD i 0:Nat):Int):=by omega
     have aj:=fun(S:aq) (k:a1)=>lR (T:=au) (G:=G) (X:=X) (s:=S) (k:=k) (a.getD i 0) 4294967296
     have ak:∀(S:aq) (k:a1),(aH au G X).ah S k (al .add (.int .u64 ((a.getD i 0:Nat):Int)) (.int .u64 4294967296))=k (.int .u64 ((a.getD i 0+4294967296:Nat):Int)) S:=fun S k=>by refine(aj S k).trans ?_;rw[fm (by omega)]
     have es:nO (a.getD i 0+4294967296) (r+b.getD i 0)=a.getD i 0+4294967296-(r+b.getD i 0):=by unfold nO;omega
     have em:(a.getD i 0+4294967296-(r+b.getD i 0))%4294967296=a.getD i 0+4294967296-(r+b.getD i 0):=fm (by omega);obtain⟨v,q,g1,g2⟩:=V (i+1) 1 _ _ (by omega) (u.put _ _) (cp.put (out.set i (a.getD i 0+4294967296-(r+b.getD i 0)))) (by simpa using br) (H.set _ _ gw) (by omega) hj;refine⟨v,q,?_,g2⟩;rw[a7 e,ba,g0,N,ak,pb,es,g7,em];simp only[cy];rw[n7,wm,aa];exact g1
    ·obtain⟨gw,hj⟩:=Y.2 ab;have e:¬((a.getD i 0:Nat):Int)<((r+b.getD i 0:Nat):Int):=by omega
     have es:nO (a.getD i 0) (r+b.getD i 0)=a.getD i 0-(r+b.getD i 0):=by unfold nO;omega
     have em:(a.getD i 0-(r+b.getD i 0))%4294967296=a.getD i 0-(r+b.getD i 0):=fm (by omega);obtain⟨v,q,g1,g2⟩:=V (i+1) 0 _ _ (by omega) (u.put _ _) (cp.put (out.set i (a.getD i 0-(r+b.getD i 0)))) (by simpa using br) (H.set _ _ gw) (by omega) hj;refine⟨v,q,?_,g2⟩;rw[aM e,bc,g0,N,pb,es,g7,em];simp only[cy];rw[n7,wm,aa];exact g1
   obtain⟨v,q,g1,g2⟩:=ag;refine⟨v,q,?_,g2⟩;rw[wo,L,be,a7 h,ba,Kh,ac,be];by_cases am:i<b.length
   ·have e:(i:Int)<(b.length:Int):=by omega
    have an:=fun(k:a1)=>(Q.jO u.jO).get (T:=au) (G:=G) (X:=X) .i64 i am k
    rw[a7 e,ba,an,ae,lR,fm (by omega)];exact g1
   ·have e:¬(i:Int)<(b.length:Int):=by omega
    rw[getD_none b i (by omega),Nat.add_zero] at g1;rw[aM e,bc];exact g1
 have mk:=fun(S:aq) (k:a1)=>lQ (T:=au) (G:=G) (X:=X) (s:=S) (k:=k) (U 0) 4 a.length a.length (aX _) (by omega)
 obtain⟨v,q,g1,g2⟩:=loop a.length 0 0 _ _ (by omega) ((Child.af s).new (.cells (List.replicate a.length (U 0)))) (fT.make _ _) (by simp) (la _) (by omega) (by simp [val]);refine⟨v,q,?_,g2⟩;rw[PU,agL,L];refine(mk _ _).trans ?_;exact g1
theorem ahY(s:aq)(r u:ai)(a b:List Nat)(M:jC s r a)(O:jC s u b)(Q:ci a)(R:ci b)(as:a.length<4294967295)(av:b.length<4294967295):
  ∃v q,az au G X 156 [r,u] s=.ok v s∧gT v q∧ci q∧cX q∧val q=val a+val b:=by
 have V:=fun(S:aq) (k:a1)=>M.len (T:=au) (G:=G) (X:=X) k S
 have Y:=fun(S:aq) (k:a1)=>O.len (T:=au) (G:=G) (X:=X) k S
 obtain⟨N,pE,ab,ac,aw⟩:∃N,N=(if a.length<b.length then b.length else a.length)+1∧a.length+1≤N∧b.length+1≤N∧N<4294967296:=⟨_,rfl,by split<;> omega,by split<;> omega,by split<;> omega⟩;have loop:∀(m i c:Nat) (out:List Nat) (S:aq),i+m=N→Child s S→fT S s.af.own.length out→out.length=N→ci out→c≤1→val (out.take i)+c*B^i=val (a.take i)+val (b.take i)→
   ∃v q,s6 (aH au G X) r u (.cw (.l s.af.own.length) 0 N N 1) (.int .u64 (c:Int)) (.int .i64 (i:Int)) S=.ok v s∧gT v q∧ci q∧cX q∧val q=val a+val b:=by
  intro m
  induction m with
  |zero=>
   intro i c out S bk H cp br I a9 bG;have h:¬((i:Int)<(N:Int)):=by omega
   obtain⟨v,f1,f2⟩:=rH G X H cp N br.symm (by omega);refine⟨v,dO out,?_,f1,gL I,fu out,?_⟩
   ·rw[wj,jA,be,aM h,bc,J6,fD];exact f2
   ·rw[gP];rw[show i=N by omega] at bG;exact aaW Q R ab ac br bG
  |succ m ad=>
   intro i c out S bk H cp br I a9 bG;have h:(i:Int)<(N:Int):=by omega
   have ae:=QP (by omega:i<out.length) bG;have fj:=Q.getD i;have J:=R.getD i;have ag:=aaV a9 fj J;have Z:=jU;rw[Z] at fj J;have aj:=fun(S:aq) (k:a1)=>fC (T:=au) (G:=G) (X:=X) (s:=S) (k:=k) (a.getD i 0) fj
   have ak:=fun(S:aq) (k:a1)=>fC (T:=au) (G:=G) (X:=X) (s:=S) (k:=k) (b.getD i 0) J
   have n7:=fun y (k:a1)=>cp.ez (T:=au) (G:=G) (X:=X) i N N y (by omega) (by omega) k
   have am:=fun S k=>fJ G X S k i (by omega)
   obtain⟨v,q,g1,g2⟩:=ad (i+1) _ _ _ (by omega) (H.put _ _) (cp.put (out.set i ((c+a.getD i 0+b.getD i 0)%B))) (by simpa using br) (I.set _ _ (Nat.mod_lt _ gp)) ag ae;refine⟨v,q,?_,g2⟩;rw[Z] at g1;have K:s4 (aH au G X) r u (.cw (.l s.af.own.length) 0 N N 1) (.int .i64 (i:Int)) (.int .u64 ((c+a.getD i 0+b.getD i 0:Nat):Int)) S=.ok v s:=by
    have an:∀(S:aq) (k:a1),(aH au G X).ah S k (al .quo (.int .u64 ((c+a.getD i 0+b.getD i 0:Nat):Int)) (.int .u64 4294967296))=k (.int .u64 (((c+a.getD i 0+b.getD i 0)/4294967296:Nat):Int)) S:=fun S k=>xj _ 4294967296 (by decide) (by omega)
    rw[J3,g7];simp only[cy];rw[n7,an,J2,am];exact g1
   have L:s5 (aH au G X) r u (.cw (.l s.af.own.length) 0 N N 1) (.int .i64 (i:Int)) (.int .u64 ((c+a.getD i 0:Nat):Int)) S=.ok v s:=by
    rw[J4,Y,be];by_cases ao:i<b.length
    ·have e:(i:Int)<(b.length:Int):=by omega
     have ap:=fun(k:a1)=>(O.jO H.jO).get (T:=au) (G:=G) (X:=X) .i64 i ao k
     rw[a7 e,ba,ap,ak,lR,fm (by omega)];exact K
    ·have e:¬(i:Int)<(b.length:Int):=by omega
     rw[getD_none b i (by omega),Nat.add_zero] at K;rw[aM e,bc];exact K
   rw[wj,jA,be,a7 h,ba,J5,V,be];by_cases ar:i<a.length
   ·have e:(i:Int)<(a.length:Int):=by omega
    have g0:=fun(k:a1)=>(M.jO H.jO).get (T:=au) (G:=G) (X:=X) .i64 i ar k
    rw[a7 e,ba,g0,aj,lR,fm (by omega)];exact L
   ·have e:¬(i:Int)<(a.length:Int):=by omega
    rw[getD_none a i (by omega),Nat.add_zero] at L;rw[aM e,bc];exact L
 have mk:=fun(S:aq) (k:a1)=>lQ (T:=au) (G:=G) (X:=X) (s:=S) (k:=k) (U 0) 4 N N (aX _) (by omega)
 obtain⟨v,q,g1,g2⟩:=loop N 0 0 _ _ (by omega) ((Child.af s).new (.cells (List.replicate N (U 0)))) (fT.make _ _) (by simp) (la _) (by omega) (by simp [val]);refine⟨v,q,?_,g2⟩;have em:(if((a.length:Nat):Int)<((b.length:Nat):Int) then((b.length:Nat):Int) else((a.length:Nat):Int))=((N-1:Nat):Int):=by rw[pE,Nat.add_sub_cancel];split<;> split<;> omega
 have aa:=fun S k=>fJ G X S k (N-1) (by omega)
 rw[show N-1+1=N by omega] at aa;rw[PQ,agH,V,Y,cy,cy,ajc];simp only[gt_iff_lt];rw[em,aa];refine(mk _ _).trans ?_;exact g1
theorem L5(s:aq)(L:ai)(l:List Nat)(n:Nat)(M:jC s L l)(u:ci l)(bX:n<4294967296)(fO:l.length<4294967296)(j N:Nat)(pE:N=l.length+n/32+1):∀m i out S,i+m=l.length→Child s S→fT S j out→out.length=N→ci out→val (out.take (i+n/32+1))=val (l.take i)*2^(32*(n/32)+n%32)→out.getD (i+n/32) 0<2^(n%32)→
  ∃v q,tf (aH au G X) L (.int .i64 (n:Int)) (.cw (.l j) 0 N N 1) (.int .i64 (i:Int)) S=.ok v s∧gT v q∧ci q∧cX q∧val q=val l*2^n:=by
 intro m;have O:=fun(S:aq) (k:a1)=>M.len (T:=au) (G:=G) (X:=X) k S
 induction m with
 |zero=>
  intro i out S bk r cp br H bG a9;have h:¬((i:Int)<(l.length:Int)):=by omega
  obtain⟨v,f1,f2⟩:=rH G X r cp N br.symm (by omega);refine⟨v,dO out,?_,f1,gL H,fu out,?_⟩
  ·rw[wq,O,be,aM h,bc,Kl,fD];exact f2
  have bU:i=l.length:=by omega
  rw[bU] at bG;rw[gP,←List.take_length (l:=out),br,pE,bG,List.take_length,Nat.div_add_mod]
 |succ m U=>
  intro i out S bk r cp br H bG a9;have h:(i:Int)<(l.length:Int):=by omega
  have aQ:n%32<32:=Nat.mod_lt _ (by omega);obtain⟨q,Q,V⟩:=vb (l.getD i 0) (n%32) aQ;have I:=vc (l.getD i 0) (n%32) (u.getD i) aQ;have e:=AG l out i (n/32) (n%32) aQ (by omega) (by omega) H u bG a9 _ rfl _ rfl;simp only[] at e;have aT:=u.getD i;have Y:B=4294967296:=rfl;have ak:2^(n%32)≤2^32:=Nat.pow_le_pow_right (by omega) (by omega);rw[Y] at Q V I e aT;generalize Z:l.getD i 0=x at *;have g0:=fun(k:a1)=>(M.jO r.jO).get (T:=au) (G:=G) (X:=X) .i64 i (by omega) k
  rw[Z] at g0;have aa:=fun(S:aq) (k:a1)=>fC (T:=au) (G:=G) (X:=X) (s:=S) (k:=k) x aT
  have hG:=fun(S:aq) (k:a1)=>mV (T:=au) (G:=G) (X:=X) (s:=S) (k:=k) n
  have J:=fun(S:aq) (k:a1)=>kL (T:=au) (G:=G) (X:=X) (s:=S) (k:=k) n (by omega)
  have s1:=fun(S:aq) (k:a1)=>sD (T:=au) (G:=G) (X:=X) (s:=S) (k:=k) .i64 x (n%32) (by omega)
  have es:x*2^(n%32)%18446744073709551616=x*2^(n%32):=fm I.2;have K:=fun(S:aq) (k:a1)=>g8 (T:=au) (G:=G) (X:=X) (s:=S) (k:=k) i (n/32) (by omega)
  have ab:=fun S k=>fJ G X S k (i+n/32) (by omega)
  have ac:=fun S k=>fJ G X S k i (by omega)
  have g1:=fun(k:a1)=>cp.get (T:=au) (G:=G) (X:=X) (i+n/32) N N (by omega) (by omega) k
  have ad:=fun(S:aq) (k:a1)=>Zx G X (s:=S) (k:=k) (out.getD (i+n/32) 0) (x*2^(n%32)%4294967296) q (n%32) a9 Q (by omega)
  have ae:∀(S:aq) (k:a1),(aH au G X).ah S k (al .quo (.int .u64 ((x*2^(n%32):Nat):Int)) (.int .u64 4294967296))=k (.int .u64 ((x*2^(n%32)/4294967296:Nat):Int)) S:=fun S k=>xj _ 4294967296 (by decide) I.2
  have n7:=fun y (k:a1)=>cp.ez (T:=au) (G:=G) (X:=X) (i+n/32) N N y (by omega) (by omega) k
  have R:=cp.put (out.set (i+n/32) (out.getD (i+n/32) 0+x*2^(n%32)%4294967296));have af:=fun y (k:a1)=>R.ez (T:=au) (G:=G) (X:=X) (i+n/32+1) N N y (by simp;omega) (by omega) k
  have ag:x*2^(n%32)/4294967296%4294967296=x*2^(n%32)/4294967296:=fm (by omega);have aj:=R.put ((out.set (i+n/32) (out.getD (i+n/32) 0+x*2^(n%32)%4294967296)).set (i+n/32+1) (x*2^(n%32)/4294967296))
  have:=U (i+1) _ _ (by omega) ((r.put _ _).put _ _) aj (by simp [br]) e.1 e.2.2.1 e.2.2.2;refine Exists.imp (fun v aG=>Exists.imp (fun q bz=>⟨?_,bz.2⟩) aG) this;rw[wq,O,be,a7 h,ba];rw[Kk,g0,aa,hG,s1,es,J,K,J,K,g1,g7,ad];simp only[cy];rw[n7,J,K,ab,ae,g7,ag];simp only[cy];rw[af,Kj,ac];exact bz.1
theorem ahZ(s:aq)(e:ai)(l:List Nat)(n:Nat)(h:jC s e l)(r:ci l)(bX:n<4294967296)(fO:l.length<4294967296):
  ∃v q,az au G X 161 [e,.int .i64 (n:Int)] s=.ok v s∧gT v q∧ci q∧cX q∧val q=val l*2^n:=by
 rw[PV,agM];have u:=fun(S:aq) (k:a1)=>h.len (T:=au) (G:=G) (X:=X) k S
 have y:=fun(S:aq) (k:a1)=>kL (T:=au) (G:=G) (X:=X) (s:=S) (k:=k) n (by omega)
 have B:=fun(S:aq) (k:a1)=>g8 (T:=au) (G:=G) (X:=X) (s:=S) (k:=k) l.length (n/32) (by omega)
 have H:=fun S k=>fJ G X S k (l.length+n/32) (by omega)
 have I:=fun(S:aq) (k:a1)=>lQ (T:=au) (G:=G) (X:=X) (s:=S) (k:=k) (U 0) 4 (l.length+n/32+1) (l.length+n/32+1) (aX _) (by omega)
 have J:∀m i,(List.replicate m 0).getD i 0=0:=fun m i=>by simp only[List.getD,List.getElem?_replicate];split<;> rfl
 have K:=L5 G X s e l n h r bX fO s.af.own.length _ rfl l.length 0 _ _ (by omega) ((Child.af s).new (.cells (List.replicate (l.length+n/32+1) (U 0)))) (fT.make _ _) (by simp) (la _) (by rw[List.take_replicate,AD];simp [val]) (by rw[J];exact Nat.two_pow_pos _);refine Exists.imp (fun v aG=>Exists.imp (fun q bz=>⟨?_,bz.2⟩) aG) K;rw[u,y,B,H];refine(I _ _).trans ?_;exact bz.1
theorem E2(a b:Int):∃c,∀(s:aq) (k:a1),(aH au G X).ah s k (al .and (.int .u64 a) (.int .u64 b))=k (.int .u64 c) s:=AK G X .u64 a b
theorem L6(s:aq)(M:ai)(l:List Nat)(n:Nat)(lost:Bool)(I:jC s M l)(H:ci l)(bX:n<4294967296)(fO:l.length<4294967296)(bl:n/32<l.length)(j N:Nat)(pE:N=l.length-n/32):∀m i out S,i+m=N→Child s S→fT S j out→out.length=N→ci out→
  val (out.take i)*2^(n%32)+l.getD (n/32) 0%2^(n%32)=val ((l.drop (n/32)).take i)+B^i*(l.getD (n/32+i) 0%2^(n%32))→
  ∃v q r,tn (aH au G X) M (.int .i64 (n:Int)) (.bool lost) (.cw (.l j) 0 N N 1) (.int .i64 (i:Int)) S=.ok (.cT [v,.bool r]) s∧gT v q∧ci q∧cX q∧val q=val l/2^n:=by
 have ab:=fun(S:aq) (k:a1)=>I.len (T:=au) (G:=G) (X:=X) k S
 have hG:=fun(S:aq) (k:a1)=>mV (T:=au) (G:=G) (X:=X) (s:=S) (k:=k) n
 have J:=fun(S:aq) (k:a1)=>kL (T:=au) (G:=G) (X:=X) (s:=S) (k:=k) n (by omega)
 intro m
 induction m with
 |zero=>
  intro i out S bk u cp br K bG;have h:¬((i:Int)<(N:Int)):=by omega
  have s1:∀(S:aq) (k:a1),(aH au G X).ah S k (al .shl (.int .u64 1) (.int .i64 ((n%32:Nat):Int)))=k (.int .u64 ((1*2^(n%32)%18446744073709551616:Nat):Int)) S:=fun S k=>sD .i64 1 (n%32) (by omega)
  have aT:=H.getD (n/32);rw[jU] at aT;have O:=fun(S:aq) (k:a1)=>fC (T:=au) (G:=G) (X:=X) (s:=S) (k:=k) (l.getD (n/32) 0) aT
  have g0:=fun(k:a1)=>(I.jO u.jO).get (T:=au) (G:=G) (X:=X) .i64 (n/32) bl k
  obtain⟨c,a9⟩:=E2 G X ((l.getD (n/32) 0:Nat):Int) ((nO (1*2^(n%32)%18446744073709551616) 1:Nat):Int);have U:=cp.rd N N (by omega) (aX _);rw[gG (by omega)] at U;have V:=AM G X S _ out U (by omega);have hle:=hP out out.length;have fin:∀r,∃v,gT v (dO out)∧(aH au G X).aB false [some (kj (.cw (.g S.aa j) 0 N N 1) (fg out out.length)),some (.bool r)] S=.ok (.cT [v,.bool r]) s:=fun r=>by
   obtain⟨v,aD,aG⟩:=kM (S:=S) (j:=j) (off:=0) (cap:=N) (dO out) (n:=fg out out.length) (fP out).symm cp (by rw[bT,fP];simp [dO,List.map_take]) (by rw[fP];simpa using hle)
   exact⟨v,aG,h0 u _ _ _ _ aD rfl⟩
  have Y:val (dO out)=val l/2^n:=by rw[gP];have kR:l.getD (n/32+i) 0=0:=getD_none l _ (by omega);rw[kR,Nat.zero_mod,Nat.mul_zero,Nat.add_zero,gG (by omega),gG (by simp;omega)] at bG;exact AJ l out (n/32) (n%32) n (Nat.div_add_mod n 32).symm H bl bG
  cases lost with
  |true=>obtain⟨v,f1,f2⟩:=fin true;refine⟨v,dO out,true,?_,f1,gL K,fu out,Y⟩;rw[qf,jA,be,aM h,bc,ue,hG,s1,pX,fD,aK V];simp only[ej,cR];exact f2
  |false=>obtain⟨v,f1,f2⟩:=fin (decide (¬c=0));refine⟨v,dO out,decide (¬c=0),?_,f1,gL K,fu out,Y⟩;rw[qf,jA,be,aM h,bc,ue,hG,s1,pX,fD,aK V];simp only[de,df,↓J,↓g0,↓O,↓a9,↓dC];exact f2
 |succ m ac=>
  intro i out S bk u cp br K bG;have h:(i:Int)<(N:Int):=by omega
  have aQ:n%32<32:=Nat.mod_lt _ (by omega);have Z:=wR l out (n/32) i (n%32) aQ H K (by omega) (by omega) bG;have aT:=H.getD (n/32+i);have dX:=H.getD (n/32+i+1);have ad:B=4294967296:=rfl;rw[ad] at aT dX;have g0:=fun(k:a1)=>(I.jO u.jO).get (T:=au) (G:=G) (X:=X) .i64 (n/32+i) (by omega) k
  have O:=fun(S:aq) (k:a1)=>fC (T:=au) (G:=G) (X:=X) (s:=S) (k:=k) (l.getD (n/32+i) 0) aT
  have ae:=fun(S:aq) (k:a1)=>fC (T:=au) (G:=G) (X:=X) (s:=S) (k:=k) (l.getD (n/32+i+1) 0) dX
  have L:=fun(S:aq) (k:a1)=>g8 (T:=au) (G:=G) (X:=X) (s:=S) (k:=k) i (n/32) (by omega)
  have Q:=fun S k=>fJ G X S k (i+n/32) (by omega)
  have af:=fun S k=>fJ G X S k i (by omega)
  have ag:i+n/32=n/32+i:=Nat.add_comm _ _;simp only[ag] at L Q;have n7:=fun y (k:a1)=>cp.ez (T:=au) (G:=G) (X:=X) i N N y (by omega) (by omega) k
  have s1:=fun t (S:aq) (k:a1)=>xk (T:=au) (G:=G) (X:=X) (s:=S) (k:=k) .i64 t (n%32) (by omega)
  have this:=ac (i+1) _ _ (by omega) (u.put _ _) (cp.put (out.set i ((l.getD (n/32+i) 0+B*l.getD (n/32+i+1) 0)/2^(n%32)%B))) (by simp [br]) Z.1 Z.2;obtain⟨v,q,r,g1,g2⟩:=this;refine⟨v,q,r,?_,g2⟩;have R:tm (aH au G X) M (.int .i64 (n:Int)) (.bool lost) (.cw (.l j) 0 N N 1) (.int .i64 (i:Int)) (.int .u64 ((l.getD (n/32+i) 0+4294967296*l.getD (n/32+i+1) 0:Nat):Int)) S=.ok (.cT [v,.bool r]) s:=by rw[Kx,hG,s1,g7];simp only[cy];rw[n7,Kw,af];exact g1
  rw[qf,jA,be,a7 h,ba,Ky,J,L,g0,O,J,L,Q,ab,be];by_cases aj:n/32+i+1<l.length
  ·have ak:=fun(k:a1)=>(I.jO u.jO).get (T:=au) (G:=G) (X:=X) .i64 (n/32+i+1) aj k
   have e:((n/32+i+1:Nat):Int)<(l.length:Int):=by omega
   have xl:∀(S:aq) (k:a1),(aH au G X).ah S k (al .mul (.int .u64 ((l.getD (n/32+i+1) 0:Nat):Int)) (.int .u64 4294967296))=k (.int .u64 ((4294967296*l.getD (n/32+i+1) 0:Nat):Int)) S:=fun S k=>by refine(DK _ 4294967296).trans ?_;rw[fm (by omega),dE]
   rw[a7 e,ba,J,L,Q,ak,ae,xl,lR,fm (by omega)];exact R
  ·have e:¬((n/32+i+1:Nat):Int)<(l.length:Int):=by omega
   rw[getD_none l _ (by omega:l.length≤n/32+i+1),Nat.mul_zero,Nat.add_zero] at R;rw[aM e,bc];exact R
theorem ah0(s:aq)(r:ai)(l:List Nat)(n:Nat)(y:jC s r l)(H:ci l)(bX:n<4294967296)(fO:l.length<4294967296):
  ∃v q lost,az au G X 179 [r,.int .i64 (n:Int)] s=.ok (.cT [v,.bool lost]) s∧gT v q∧ci q∧cX q∧val q=val l/2^n:=by
 have I:=Child.af s;have B:=fun(S:aq) (k:a1)=>y.len (T:=au) (G:=G) (X:=X) k S
 have u:=fun(S:aq) (k:a1)=>kL (T:=au) (G:=G) (X:=X) (s:=S) (k:=k) n (by omega)
 rw[P1,agS,u,B,fG];by_cases bl:n/32<l.length
 ·have h:¬((l.length:Int)≤((n/32:Nat):Int)):=by omega
  have L:∀m i lost,i+m=n/32→∃e,to (aH au G X) r (.int .i64 (n:Int)) (.bool lost) (.int .i64 (i:Int)) s.af=zl (aH au G X) r (.int .i64 (n:Int)) (.bool e) s.af:=by
   intro m
   induction m with
   |zero=>
    intro i lost bk;have h:¬(i:Int)<((n/32:Nat):Int):=by omega
    exact⟨lost,by rw[qg,u,be,aM h,bc]⟩
   |succ m J=>
    intro i lost bk;have h:(i:Int)<((n/32:Nat):Int):=by omega
    have g0:=fun(k:a1)=>(y.jO I.jO).get (T:=au) (G:=G) (X:=X) .i64 i (by omega) k
    have K:=fun S k=>fJ G X S k i (by omega)
    cases lost with
    |true=>obtain⟨e,g⟩:=J (i+1) true (by omega);refine⟨e,?_⟩;rw[qg,u,be,a7 h,ba,wy];simp -implicitDefEqProofs only[ej,cR];rw[wx,K];exact g
    |false=>obtain⟨e,g⟩:=J (i+1) (decide (¬((l.getD i 0:Nat):Int)=0)) (by omega);refine⟨e,?_⟩;rw[qg,u,be,a7 h,ba,wy];simp only[de,df,↓g0,↓dC];rw[wx,K];exact g
  obtain⟨e,g⟩:=L (n/32) 0 false (by omega);have M:=fun(S:aq) (k:a1)=>mD (T:=au) (G:=G) (X:=X) (s:=S) (k:=k) l.length (n/32) (by omega) (by omega)
  have N:=fun(S:aq) (k:a1)=>lQ (T:=au) (G:=G) (X:=X) (s:=S) (k:=k) (U 0) 4 (l.length-n/32) (l.length-n/32) (aX _) (by omega)
  obtain⟨v,q,O,g1,g2⟩:=L6 G X s r l n e y H bX fO bl s.af.own.length _ rfl (l.length-n/32) 0 _ _ (by omega) (I.new (.cells (List.replicate (l.length-n/32) (U 0)))) (fT.make _ _) (by simp) (la _) (by simp [val]);refine⟨v,q,O,?_,g2⟩;rw[aM h,bc,KA];refine g.trans ?_;rw[Kz,B,u,M];refine(N _ _).trans ?_;exact g1
 ·have h:(l.length:Int)≤((n/32:Nat):Int):=by omega
  refine⟨.aW 1 [] .nil,[],decide ((0:Int)<(l.length:Int)),?_,gT.nil,(fun x (h:x∈[])=>absurd h mc:ci []),(fun h=>absurd rfl h:cX []),?_⟩
  ·rw[a7 h,ba,B,ee];exact h0 (.af s) _ _ _ _ rfl rfl
  ·rw[wS l n H (by omega)];rfl
theorem AO(s:aq)(v:ai)(l:List Nat)(h:jC s v l)(r:ci l)(cL:val l≠0)(fO:l.length≤4096):
  ∃(w:ai) (q:List Nat) (n:Nat),az au G X 158 [v] s=.ok w s∧gT w q∧ci q∧cX q∧val l=2^n*val q∧val q%2=1:=by
 have u:=Child.af s;have M:val l<2^(32*l.length):=by rw[Nat.pow_mul];exact eI l r
 have loop:∀m n:Nat,n+m=32*l.length→2^n ∣ val l→∃(w:ai) (q:List Nat) (y:Nat),s8 (aH au G X) v (.int .i64 (n:Int)) s.af=.ok w s∧gT w q∧ci q∧cX q∧val l=2^y*val q∧val q%2=1:=by
  intro m
  induction m with
  |zero=>
   intro n bX bI
   have:=LV _ n cL bI;rw[show n=32*l.length by omega] at this;omega
  |succ m I=>
   intro n bX bI;have B:=AN G X s.af v l n (h.jO u.jO) r (by omega);have J:=fun S k=>fJ G X S k n (by omega)
   rcases Nat.mod_two_eq_zero_or_one (val l/2^n) with e|e
   ·obtain⟨w,q,y,g1,g2⟩:=I (n+1) (by omega) (nr _ n bI e);refine⟨w,q,y,?_,g2⟩;rw[wk,h.ak,cy,aK B,e,bi,show decide (((0:Nat):Int)=0)=true from rfl,ba,J8,J];exact g1
   ·obtain⟨w,q,lost,g1,g2,K,L,H⟩:=ah0 G X s.af v l n (h.jO u.jO) r (by omega) (by omega);refine⟨w,q,n,?_,g2,K,L,by rw[H];exact aaR _ n bI,by rw[H];exact e⟩;rw[wk,h.ak,cy,aK B,e,bi,show decide (((1:Nat):Int)=0)=false from rfl,bc,J9,h.ak,cy,aK g1,hv,hx];exact gV u _ _ (g2.freeze _)
 obtain⟨w,q,n,g1,g2⟩:=loop (32*l.length) 0 (by omega) (by rw[Nat.pow_zero];exact Nat.one_dvd _);refine⟨w,q,n,?_,g2⟩;rw[PS,agJ];exact g1
theorem ve{S:aq}{v:ai}{l:List Nat}(h:jC S v l)(e:l.length<4294967296):∃g os,(∀k:a1,(aH au G X).cn S k 1 4 (some (.l 0)) (.aW 1 [] .exact) v=k (.aW 1 (l.map U) g) {S with own:=S.own++os})∧(g=.exact∨∃i,g=.bQ (.l i)):=by
 cases l with
 |nil=>refine⟨.exact,[],fun k=>?_,.inl rfl⟩;rw[gS];unfold er;simp only;unfold fl;rw[h.k9];simp only[List.map_nil,ek,fE,cG,Nat.add_zero,Nat.zero_mul,show Nat.ble 0 1099511627776=true from rfl,cb,gf]
 |cons x l=>refine⟨.bQ (.l S.own.length),[.tok (0+(l.length+1))],fun k=>?_,.inr ⟨_,rfl⟩⟩;rw[gS];unfold er;simp only;unfold fl;rw[h.k9];simp only[fU,c0,b2,ek,fE,cG,show Nat.ble ((0+(l.length+1))*4) 1099511627776=true from dN (by simp at e;omega),cb,aq.gg];rfl
theorem Zy{S:aq}{l:List Nat}{g:cd}(bD:g=.exact∨∃i,g=.bQ (.l i)):jC S (ai.ak S.aa (.aW 1 (l.map U) g)) l:=by
 refine .aW l (g.ak S.aa) (fun a e=>?_);rcases bD with rfl |⟨i,rfl⟩
 ·cases e
 ·simp only[cd.ak,Loc.ak,cd.bQ.injEq] at e;exact⟨S.aa,i,e.symm,aX _⟩
theorem L7(s:aq)(neg:Bool)(v:ai)(l:List Nat)(h:jC s v l)(ab:ci l)(y:l.length<4294967296)(br:(dO l).length≤128):
  ∃w,az au G X 155 [.bool neg,v] s=.ok (.cT [hf (neg&&decide (dO l≠[])) w,.int .i64 0]) s∧gT w (dO l):=by
 have B:=Child.af s
 let S0:=s.af.new (.cells [.bool false,.aW 1 [] .nil])
 have cL:jC S0 v l:=h.jO (abf.trans B.jO (abf.new _ _));have K:=AM G X S0 v l cL (by omega);have a9:jC S0 (kj v (fg l l.length)) (dO l):=cL.cut _ (hP _ _);generalize ac:kj v (fg l l.length)=ad at *;generalize hm:dO l=m at *;have H:=fun(S:aq) (k:a1)=>a9.len (T:=au) (G:=G) (X:=X) k S
 have L:¬(128:Int)<(m.length:Int):=by omega
 obtain⟨g,os,I,bD⟩:=ve G X a9 (by omega);have eB:=fun(k:a1)=>l4 (T:=au) (G:=G) (X:=X) (s:=S0) (k:=k) []
 let r:aq:={S0 with own:=S0.own++os}
 have J:Child s S0:=B.new _;have ku:Child s r:=⟨J.up,J.ro⟩;have M:r.own[0]? =some (.cells [.bool false,.aW 1 [] .nil]):=rfl;have fin:∀b:Bool,∃w,(aH au G X).cH [.bool false,.aW 1 [] .nil] [(0,1,.bool b),(1,1,.aW 1 (m.map U) g)] r (fun N s=>(aH au G X).a6 s (fun ae s=>(aH au G X).aB false [eF s (.ref (.l 0) 0) (some 2),some (.int .i64 0)] s) 2 (.ref (.l 0) 0) (ai.ak s.aa N))=.ok (.cT [hf b w,.int .i64 0]) s∧gT w m:=fun b=>by
  have y:∀k:a1,(aH au G X).cH [.bool false,.aW 1 [] .nil] [(0,1,.bool b),(1,1,.aW 1 (m.map U) g)] r k=k (.agg [.bool b,.aW 1 (m.map U) (g.ak r.aa)]) r:=fun k=>rfl
  have O:=fun(k:a1)=>ix (T:=au) (G:=G) (X:=X) (S:=r) (k:=k) (n:=2) (vs:=[.bool b,.aW 1 (m.map U) (g.ak r.aa)]) M rfl rfl rfl
  let u:aq:={r with own:=r.own.set 0 (.cells [.bool b,.aW 1 (m.map U) (g.ak r.aa)])}
  have Q:Child s u:=⟨ku.up,ku.ro⟩;have R:∃w,dT u (.aW 1 (m.map U) (g.ak r.aa))=some w∧gT w m:=by
   rcases bD with rfl |⟨i,rfl⟩
   ·exact⟨_,rfl,_,rfl,fun a e=>by cases e⟩
   ·refine⟨.aW 1 (m.map U) .any,?_,_,rfl,fun a e=>by cases e⟩;show(if r.aa<u.aa then _ else if ai.bj (m.map U)=true then some (ai.aW 1 (m.map U) .any) else none)=_;rw[if_neg (by show¬r.aa<r.aa;omega),if_pos (gb m)]
  obtain⟨w,aD,aG⟩:=R;refine⟨w,?_,aG⟩;rw[y,dd];refine(O _).trans ?_;have V:eF u (.ref (.l 0) 0) (some 2)=some (.agg [.bool b,.aW 1 (m.map U) (g.ak r.aa)]):=ht (j:=0) (by rfl) rfl;show(aH au G X).aB false [eF u (.ref (.l 0) 0) (some 2),some (.int .i64 0)] u=_;rw[V];refine h0 Q _ _ _ _ ?_ rfl;show(ha (dT u) [_,_]).map ai.agg=_;simp only[ha];rw[show dT u (.bool b)=some (.bool b) from rfl,aD];rfl
 have Y:decide ((0:Int)<(m.length:Int))=decide (m≠[]):=by
  congr 1;cases m with
  |nil=>simp
  |cons x m=>simp
 obtain⟨w,hw,Z⟩:=fin (neg&&decide (m≠[]));refine⟨w,?_,Z⟩;rw[PP,agG,gI,cL.ak,aK K,H,ee,cq,if_neg (by simpa using L),J1,RW,g6];cases neg with
 |false=>rw[if_neg (by decide)];refine(eB _).trans ?_;refine(I _).trans ?_;exact hw
 |true=>
  rw[if_pos rfl]
  dsimp only
  rw[H,ee,Y];rw[cG] at hw;rw[cG];refine(eB _).trans ?_;refine(I _).trans ?_;exact hw
theorem uu(s:aq)(neg:Bool)(v:ai)(l:List Nat)(h:gT v l)(u:l.length<9223372036854775807):az au G X 133 [hf neg v] s=.ok (.bool (f5 neg l)) s:=by
 have y:=Child.af s;have e:=fun(S:aq) (k:a1)=>(h.rd S).len (T:=au) (G:=G) (X:=X) k S
 rw[PL,agC];by_cases aD:l.length≤128
 ·have bU:¬(128:Int)<(l.length:Int):=by omega
  by_cases cL:l.length=0
  ·have kR:(l.length:Int)=0:=by omega
   simp only[↓cq,↓bx,↓bu,↓c3,↓bi,↓ee,↓eY,↓bE,bT,dt,↓reduceIte,dk,c9,co,↓e,eq_false bU,wg,eq_true kR,f5,if_pos cL]
  ·have kR:¬(l.length:Int)=0:=by omega
   have g:=fun(k:a1)=>(h.rd s.af).get (T:=au) (G:=G) (X:=X) .i64 (l.length-1) (by omega) k
   have r:=fun(S:aq) (k:a1)=>iS (T:=au) (G:=G) (X:=X) (s:=S) (k:=k) l.length (by omega) (by omega)
   simp only[↓cq,↓bx,↓bu,↓c3,↓bi,↓dC,↓ee,↓eY,↓bE,bT,dt,↓reduceIte,c9,co,↓e,eq_false bU,wg,eq_false kR,JM,↓r,↓g,f5,if_neg cL,a7 aD,cG];congr 3;simp only[ne_eq,eq_iff_iff];omega
 ·have bU:(128:Int)<(l.length:Int):=by omega
  have cL:¬l.length=0:=by omega
  simp only[↓cq,↓bx,↓bu,↓c3,↓ee,↓bE,bT,dt,↓reduceIte,dk,↓e,eq_true bU,f5,if_neg cL,aM aD,c1]
theorem ah1(s:aq)(n:Bool)(v:ai)(l:List Nat)(h:gT v l):az au G X 134 [hf n v] s=.ok (.bool (decide (l=[]))) s:=by
 have e:=fun(S:aq) (k:a1)=>(h.rd S).len (T:=au) (G:=G) (X:=X) k S
 rw[P3,agU];simp only[↓bx,↓bu,↓c3,↓bi,↓bE,bT,dt,↓e];congr 3;rw[eq_iff_iff];cases l<;> simp <;> omega
theorem ah2(s:aq)(n:Bool)(v:ai)(l:List Nat)(h:gT v l):az au G X 136 [hf n v] s=.ok (.bool (ns n l)) s:=by
 have r:=fun(S:aq) (k:a1)=>(h.rd S).len (T:=au) (G:=G) (X:=X) k S
 rw[P4,agV];cases n with
 |true=>simp only[↓bx,↓bu,↓c3,↓g6,↓lO,↓lP,↓eY,↓bE,bT,dt,↓reduceIte,co,eV,ns,c1]
 |false=>
  by_cases aD:l.length=1
  ·have e:(l.length:Int)=1:=by omega
   have g:=fun(k:a1)=>(h.rd s.af).get (T:=au) (G:=G) (X:=X) .i64 0 (by omega) k
   have g':∀k:a1,(aH au G X).aZ s.af (fun v S=>(aH au G X).aj S k none v) 1 v (.int .i64 0)=k (U (l.getD 0 0)) s.af:=g;simp only[↓bx,↓bu,↓c3,↓g6,↓lO,↓lP,↓bi,↓eY,↓bE,bT,dt,↓reduceIte,dk,eC,ns,cG,↓r,eq_true e,↓g'];congr 3;rw[eq_iff_iff,CM aD];omega
  ·have e:¬(l.length:Int)=1:=by omega
   have:¬l=[1]:=fun e=>aD (by rw[e];rfl)
   simp only[↓bx,↓bu,↓c3,↓g6,↓lO,↓lP,↓bi,↓eY,↓bE,bT,dt,↓reduceIte,c9,co,eC,ns,cG,↓r,eq_false e,eq_false this]
theorem AP{a b:List Nat}:iC (val a) (val b)=0↔val a=val b:=by
 unfold iC;split
 ·simp;omega
 ·split
  ·simp;omega
  ·simp;omega
theorem qU{l:List Nat}(e:cX l)(h:val l<B^128):l.length≤128:=pf e h
theorem L8(s S:aq)(af:Child s S)(ag:S.own[0]? =some (.cells [.bool false,.aW 1 [] .nil]))(n D:Nat)(bX:n<4294967296)(ah:D<B^128):∀(b:Nat) (e u:ai) (x y:List Nat),val x+val y<b→gT e x→gT u y→ci x→ci y→cX x→cX y→x.length≤128→y.length≤128→val x%2=1→val y%2=1→Nat.gcd (val x) (val y)*2^n=D→
  ∃w r,sW (aH au G X) (.ref (.l 0) 0) e u (.int .i64 (n:Int)) S=.ok (.cT [hf false w,.int .i64 0]) s∧gT w r∧ci r∧cX r∧val r=D:=by
 intro b
 induction b with
 |zero=>intro e u x y h;omega
 |succ b aj=>
  intro e u x y ab H I J L Q M R U Z O bD;have ac:=ahW G X S e u x y (H.rd _) (I.rd _) J L Q M (by omega) (by omega);rw[JR,H.ak,I.ak,aK ac,dC];have step:∀(e u:ai) (x y:List Nat),val x+val y<b+1→gT e x→gT u y→ci x→ci y→cX x→cX y→x.length≤128→y.length≤128→val x%2=1→val y%2=1→Nat.gcd (val x) (val y)*2^n=D→val y<val x→
    ∃w r,sV (aH au G X) (.ref (.l 0) 0) e u (.int .i64 (n:Int)) S=.ok (.cT [hf false w,.int .i64 0]) s∧gT w r∧ci r∧cX r∧val r=D:=by
   intro e u x y ab H I J L Q M R U Z O bD V;have hlen:y.length≤x.length:=by
    by_cases h:y.length≤x.length
    ·exact h
    ·have:=kN J M (Nat.not_le.1 h);omega
   obtain⟨v,d,al,fd,ad,am,an⟩:=ahX G X S e u x y (H.rd _) (I.rd _) J L hlen (by omega) (by omega);have ao:d.length≤128:=by have bz:=eI x J;have cz:B^x.length≤B^128:=ih R;exact qU am (by omega)
   obtain⟨w,q,m,ap,Y,K,N,eq,ar⟩:=AO G X S v d (fd.rd _) ad (by omega) (by omega);have dQ:val q≤val d:=by
    rw[eq]
    have:=e7 (val q) (Nat.two_pow_pos m);omega
   have as:q.length≤128:=by have bz:=eI d ad;have cz:B^d.length≤B^128:=ih ao;exact qU N (by omega)
   have az:0<val y:=by omega
   obtain⟨av,r,g1,g2⟩:=aj w u q y (by omega) Y I K L N M as U ar O (by rw[←bD,E1 (val x) (val y) m (val q) (by omega) O (by rw[←an,eq])])
   refine⟨av,r,?_,g2⟩;rw[JO,H.ak,I.ak,aK al,fd.ak,aK ap];exact g1
  by_cases he:val x=val y
  ·have kR:iC (val x) (val y)=0:=AP.2 he;rw[←he,Nat.gcd_self] at bD;obtain⟨v,q,aw,Y,K,N,eq⟩:=ahZ G X S e x n (H.rd _) J bX (by omega);have ae:dO q=q:=by
    have aD:=gP q;exact val_inj (gL K) K (pe (gL K) K (fu q) N aD) aD
   have ax:q.length≤128:=qU N (by rw[eq,bD];exact ah);obtain⟨w,ay,aa⟩:=L7 G X S false v q (Y.rd _) K (by omega) (by rw[ae];exact ax);rw[ae] at aa;refine⟨w,q,?_,aa,K,N,by rw[eq,bD]⟩;rw[kR,show decide (¬(0:Int)=0)=false from rfl,bc,JQ,H.ak,cy,aK aw,oB,Y.ak,aK ay,hv,hx,dd];exact ur G X af ag rfl _ aa 0
  ·have kR:¬iC (val x) (val y)=0:=fun h=>he (AP.1 h)
   rw[a7 kR,ba,JP,H.ak,I.ak,aK ac,be];by_cases V:val x<val y
   ·have bU:iC (val x) (val y)<0:=by simp [iC,V]
    rw[a7 bU,ba];exact step u e y x (by omega) I H L J M Q U R O Z (by rw[Nat.gcd_comm];exact bD) V
   ·have bU:¬iC (val x) (val y)<0:=by
     simp only[iC,if_neg V];split<;> decide
    rw[aM bU,bc];exact step e u x y ab H I J L Q M R U Z O bD (by omega)
theorem uv{n i q:Nat}(dQ:q%2=1)(h:2^n ∣ 2^i*q):n≤i:=by
 by_cases hle:n≤i
 ·exact hle
 ·obtain⟨k,cg⟩:=h;have e:2^n=2^i*(2*2^(n-i-1)):=by rw[←Nat.pow_succ',←Nat.pow_add];congr 1;omega
  rw[e,e6] at cg
  have:=Nat.eq_of_mul_eq_mul_left (Nat.two_pow_pos i) cg;rw[e6] at this;omega
theorem uw{n i q:Nat}(hle:n≤i)(h:2^i*q/2^n%2=1):n=i:=by
 have e:2^i*q=2^n*(2^(i-n)*q):=by rw[←e6,←Nat.pow_add];congr 2;omega
 rw[e,Nat.mul_div_cancel_left _ (Nat.two_pow_pos n)] at h;by_cases io:i-n=0
 ·omega
 ·obtain⟨k,cg⟩:∃k,i-n=k+1:=⟨i-n-1,by omega⟩;rw[cg,Nat.pow_succ',e6] at h;omega
theorem ah3(s:aq)(h5 hW:Bool)(v1 v2:ai)(x y:List Nat)(aj:gT v1 x)(al:gT v2 y)(J:ci x)(K:ci y)(aT:f5 h5 x=true)(dX:f5 hW y=true):
  ∃w r,az au G X 135 [hf h5 v1,hf hW v2] s=.ok (.cT [hf false w,.int .i64 0]) s∧gT w r∧ci r∧cX r∧val r=Nat.gcd (val x) (val y):=by
 obtain⟨aJ,am⟩:=i5 aT;obtain⟨aL,an⟩:=i5 dX
 let S0:=s.af.new (.cells [.bool false,.aW 1 [] .nil])
 have ao:Child s S0:=(Child.af s).new _;have ap:=uu G X S0 h5 v1 x aj (by omega);have as:=uu G X S0 hW v2 y al (by omega);rw[aT] at ap;rw[dX] at as;obtain⟨g1,aN,aO,aP⟩:=ve G X (aj.rd S0) (by omega);have aQ:=fun(k:a1)=>l4 (T:=au) (G:=G) (X:=X) (s:=S0) (k:=k) []
 let Q:aq:={S0 with own:=S0.own++aN}
 have aR:=fun(k:a1)=>l4 (T:=au) (G:=G) (X:=X) (s:=Q) (k:=k) []
 obtain⟨g2,aS,aU,aV⟩:=ve G X (al.rd Q) (by omega)
 let u:aq:={Q with own:=Q.own++aS}
 have av:Child s u:=⟨ao.up,ao.ro⟩;have aw:u.own[0]? =some (.cells [.bool false,.aW 1 [] .nil]):=rfl;have rx:jC u (ai.ak u.aa (.aW 1 (x.map U) g1)) x:=Zy aP;have ab:jC u (ai.ak u.aa (.aW 1 (y.map U) g2)) y:=Zy aV;have aY:=fun(S:aq) (k:a1)=>bg (T:=au) (G:=G) (X:=X) (s:=S) (k:=k) 1 (x.map U) g1
 have aZ:=fun(S:aq) (k:a1)=>bg (T:=au) (G:=G) (X:=X) (s:=S) (k:=k) 1 (y.map U) g2
 have a0:∃w r,(if x=[]∨y=[] then(aH au G X).ar u (fun a2 s=>(aH au G X).ar s (fun ax s=>(aH au G X).bh s (fun a3 s=>(aH au G X).bh s (fun a4 s=>(aH au G X).a6 s (fun bE s=>(aH au G X).aB false [eF s (.ref (.l 0) 0) (some 2),some a4] s) 2 (.ref (.l 0) 0) (ai.ak s.aa a3)) 1 ax) 0 ax) 155 [(ai.ak s.aa (.bool false)),(ai.ak s.aa a2)]) 156 [(ai.ak u.aa (.aW 1 (x.map U) g1)),(ai.ak u.aa (.aW 1 (y.map U) g2))] else zg (aH au G X) (.ref (.l 0) 0) (.aW 1 (x.map U) g1) (.aW 1 (y.map U) g2) u)=.ok (.cT [hf false w,.int .i64 0]) s∧gT w r∧ci r∧cX r∧val r=Nat.gcd (val x) (val y):=by
  by_cases cL:x=[]∨y=[]
  ·obtain⟨v,q,a5,ay,H,ac,eq⟩:=ahY G X u _ _ x y rx ab J K (by omega) (by omega);have a8:val q=Nat.gcd (val x) (val y):=by
    rw[eq];rcases cL with rfl |rfl
    ·simp [val]
    ·simp [val]
   have aA:dO q=q:=by have aD:=gP q;exact val_inj (gL H) H (pe (gL H) H (fu q) ac aD) aD
   have a9:q.length≤128:=by
    refine qU ac ?_;rw[eq];have bz:=eI x J;have cz:B^x.length≤B^128:=ih am;have bF:=eI y K;have bG:B^y.length≤B^128:=ih an;rcases cL with rfl |rfl
    ·simp only[val];omega
    ·simp only[val];omega
   obtain⟨w,bb,ad⟩:=L7 G X u false v q (ay.rd _) H (by omega) (by rw[aA];exact a9);rw[aA] at ad;refine⟨w,q,?_,ad,H,ac,a8⟩;rw[if_pos cL,aK a5,oB,ay.ak,aK bb,hv,hx,dd];exact ur G X av aw rfl _ ad 0
  ·have om:val x≠0:=fun h=>cL (.inl ((nR aJ).1 h))
   have I:val y≠0:=fun h=>cL (.inr ((nR aL).1 h))
   have R:=eI x J;have bH:B^x.length≤B^128:=ih am;have bI:=eI y K;have bJ:B^y.length≤B^128:=ih an;have bd:val x<2^4096:=by
    have:B^128=2^4096:=by rw[uh,←Nat.pow_mul,show 32*128=4096 from rfl]
    omega
   obtain⟨be,L,i,bf,bj,bk,aC,V,ae⟩:=AO G X u _ x rx J om (by omega);obtain⟨bl,Y,j,bm,bn,bo,aE,ag,ah⟩:=AO G X u _ y ab K I (by omega);have bp:L.length≤128:=by
    refine qU aC ?_
    have:=e7 (val L) (Nat.two_pow_pos i);omega
   have bq:Y.length≤128:=by
    refine qU aE ?_
    have:=e7 (val Y) (Nat.two_pow_pos j);omega
   have aF:∀n,n≤i→n≤j→(n=i∨n=j)→∃w r,zf (aH au G X) (.ref (.l 0) 0) (.aW 1 (x.map U) g1) (.aW 1 (y.map U) g2) (.int .i64 (n:Int)) u=.ok (.cT [hf false w,.int .i64 0]) s∧gT w r∧ci r∧cX r∧val r=Nat.gcd (val x) (val y):=fun n M N br=>by
    have bs:Nat.gcd (val L) (val Y)*2^n=Nat.gcd (val x) (val y):=by rw[V,ag];exact(aaQ i j _ _ n ae ah M N br).symm
    have bt:Nat.gcd (val x) (val y)<B^128:=Nat.lt_of_le_of_lt (Nat.gcd_le_left _ (by omega)) (by omega);have bv:n<4294967296:=by
     have aD:2^i≤val x:=by
      rw[V]
      have:1≤val L:=by omega
      have:=Nat.mul_le_mul_left (2^i) this;omega
     have:i<4096:=(Nat.pow_lt_pow_iff_right (by omega)).1 (Nat.lt_of_le_of_lt aD bd);omega
    obtain⟨w,r,gw,hj⟩:=L8 G X s u av aw n _ bv bt _ be bl L Y (Nat.lt_succ_self _) bj bn bk bo aC aE bp bq ae ah bs;refine⟨w,r,?_,hj⟩;rw[JS,aK bf,aK bm];exact gw
   have bw:∀m n:Nat,n+m=4096→2^n ∣ val x→2^n ∣ val y→∃w r,sX (aH au G X) (.ref (.l 0) 0) (.aW 1 (x.map U) g1) (.aW 1 (y.map U) g2) (.int .i64 (n:Int)) u=.ok (.cT [hf false w,.int .i64 0]) s∧gT w r∧ci r∧cX r∧val r=Nat.gcd (val x) (val y):=by
    intro m
    induction m with
    |zero=>
     intro n bX Z
     have:=LV _ n om Z;rw[show n=4096 by omega] at this;omega
    |succ m bA=>
     intro n bX Z aG;have R:=AN G X u _ x n rx J (by omega);have aI:=AN G X u _ y n ab K (by omega);have M:n≤i:=uv ae (by rw[←V];exact Z);have N:n≤j:=uv ah (by rw[←ag];exact aG);have bB:=fun S k=>fJ G X S k n (by omega)
     rcases Nat.mod_two_eq_zero_or_one (val x/2^n) with ex|ex
     ·rcases Nat.mod_two_eq_zero_or_one (val y/2^n) with O|O
      ·obtain⟨w,r,gw,hj⟩:=bA (n+1) (by omega) (nr _ n Z ex) (nr _ n aG O);refine⟨w,r,?_,hj⟩;rw[qe,cy,aK R,ex,bi,show decide (((0:Nat):Int)=0)=true from rfl];simp only[dP,cy,↓(aK aI),O,↓bi];rw[show decide (((0:Nat):Int)=0)=true from rfl];simp only[cR,ba,JN,↓bB];exact gw
      ·obtain⟨w,r,gw,hj⟩:=aF n M N (.inr (uw N (by rw[←ag];exact O)));refine⟨w,r,?_,hj⟩;rw[qe,cy,aK R,ex,bi,show decide (((0:Nat):Int)=0)=true from rfl];simp only[dP,cy,↓(aK aI),O,↓bi];rw[show decide (((1:Nat):Int)=0)=false from rfl];simp -implicitDefEqProofs only[cR,bc];exact gw
     ·obtain⟨w,r,gw,hj⟩:=aF n M N (.inl (uw M (by rw[←V];exact ex)));refine⟨w,r,?_,hj⟩;rw[qe,cy,aK R,ex,bi,show decide (((1:Nat):Int)=0)=false from rfl];simp -implicitDefEqProofs only[fh,df,bc];exact gw
   obtain⟨w,r,gw,hj⟩:=bw 4096 0 (by omega) (by simp) (by simp);refine⟨w,r,?_,hj⟩;rw[if_neg cL,JT];exact gw
 obtain⟨w,r,gw,hj⟩:=a0;refine⟨w,r,?_,hj⟩;have bC:az au G X 133 [hf h5 v1] (s.af.new (.cells [.bool false,.aW 1 [] .nil]))=.ok (.bool true) (s.af.new (.cells [.bool false,.aW 1 [] .nil])):=ap;have bD:az au G X 133 [hf hW v2] (s.af.new (.cells [.bool false,.aW 1 [] .nil]))=.ok (.bool true) (s.af.new (.cells [.bool false,.aW 1 [] .nil])):=as;rw[PN,agE];simp only[↓gI,↓cq,↓bx,↓bu,↓c3,↓k6,↓ni,↓eY,bT,dt,↓reduceIte,dd,oB,cf,c0,ek,Nat.reduceAdd,↓ed,aX,hI,hn,co,↓(aK bC),↓(aK bD),eV,JU];refine(aQ _).trans ?_;refine(aO _).trans ?_;refine(aR _).trans ?_;refine(aU _).trans ?_;rw[aY,bi,k6];by_cases om:x=[]
 ·rw[if_pos (.inl om)] at gw;have e:((x.map U).length:Int)=0:=by rw[om];rfl
  rw[a7 e,if_pos rfl];exact gw
 ·have e:¬((x.map U).length:Int)=0:=by
   rw[b2];have:=List.length_pos_iff.2 om;omega
  rw[aM e,if_neg (by decide),aZ,bi];by_cases I:y=[]
  ·rw[if_pos (.inr I)] at gw;have e:((y.map U).length:Int)=0:=by rw[I];rfl
   rw[a7 e];exact gw
  ·have e:¬((y.map U).length:Int)=0:=by
    rw[b2];have:=List.length_pos_iff.2 I;omega
   rw[if_neg (by simp [om,I])] at gw;rw[aM e];exact gw
theorem apJ(s:aq)(h5 hW:Bool)(v1 v2:ai)(x y:List Nat)(H:gT v1 x)(B:gT v2 y)(K:ci x)(L:ci y)(M:x.length<9223372036854775807)(N:y.length<9223372036854775807):
  az au G X 86 [.agg [.bool h5,v1,.bool hW,v2]] s=.ok (.bool (jQ h5 hW x y)) s:=by
 have e:=uu G X s.af h5 v1 x H M;have h:=uu G X s.af hW v2 y B N;have I:=ah1 G X s.af hW v2 y B;rw[aai,apc];cases bU:f5 h5 x with
 |false=>rw[bU] at e;simp only[↓cq,↓bx,↓bu,↓c3,↓k6,↓yX,↓ni,↓eY,↓bE,bT,dt,↓reduceIte,dd,cf,c0,ek,Nat.reduceAdd,↓ed,Nat.reduceLeDiff,aX,hI,hn,↓(aK e),↓(aK h),eC,jQ,bU,c1]
 |true=>
  rw[bU] at e;cases u:f5 hW y with
  |false=>rw[u] at h;simp only[↓cq,↓bx,↓bu,↓c3,↓k6,↓yX,↓ni,↓eY,↓bE,bT,dt,↓reduceIte,dd,cf,c0,ek,Nat.reduceAdd,↓ed,Nat.reduceLeDiff,aX,hI,hn,co,↓(aK e),↓(aK h),eV,eC,jQ,bU,u,c1,Bool.and_false]
  |true=>
   rw[u] at h;cases hW with
   |true=>simp only[↓cq,↓bx,↓bu,↓c3,↓k6,↓yX,↓ni,↓eY,↓bE,bT,dt,↓reduceIte,dd,cf,c0,ek,Nat.reduceAdd,eD,↓ed,Nat.reduceLeDiff,aX,hI,hn,co,↓(aK e),↓(aK h),eV,jQ,bU,u,c1,Bool.and_false]
   |false=>
    by_cases dX:y=[]
    ·simp only[↓cq,↓bx,↓bu,↓c3,↓k6,↓yX,↓ni,↓eY,↓bE,bT,dt,↓reduceIte,dd,cf,c0,ek,Nat.reduceAdd,↓ed,Nat.reduceLeDiff,aX,hI,hn,dk,c9,co,↓(aK e),↓(aK h),↓(aK I),eV,jQ,bU,dX,c1,Bool.and_false,ne_eq,not_true_eq_false]
    ·obtain⟨Y,Z⟩:=i5 u;obtain⟨w,r,O,J,or,Q,R⟩:=ah3 G X s.af h5 false v1 v2 x y H B K L bU u;have U:=fun S:aq=>ah2 G X S false w r J
     have V:=fun(k:a1)=>kx (T:=au) (G:=G) (X:=X) (s:=s.af) (k:=k) 2 [.bool false,w] [.bool false,.aW 1 [] .nil] rfl rfl (by simp only[List.all_cons,J.dZ,List.all_nil];rfl)
     simp only[↓gI,↓cq,↓bx,↓bu,↓c3,↓k6,↓yX,↓ni,↓eY,↓DJ,bT,dt,↓reduceIte,dd,cf,c0,ek,Nat.reduceAdd,eD,↓ed,Nat.reduceLeDiff,aX,hI,hn,dk,c9,co,↓(aK e),↓(aK h),↓(aK I),eV,jQ,bU,u,eq_false dX,eC,cG,ne_eq,not_false_eq_true,NV,ns,co,↓(aK O),↓hv,↓hx,↓V,↓(aK (U _))];rw[eH ((Child.af s).new _)];congr 3;rw[eq_iff_iff,AL or Q,R]
abbrev I(n:Int):ai:=.int .i64 n
structure iT where
 neg:Bool
 l5:List Nat
 g:cd
def iT.v(n:iT):ai:=.aW 1 (n.l5.map U) n.g
structure oI (n:iT):Prop where
 g:∀a,n.g≠.bQ a
 ok:ci n.l5
 len:n.l5.length<9223372036854775807
theorem oI.lv{n:iT}(h:oI n):gT n.v n.l5:=⟨n.g,rfl,h.g⟩
structure aO where
 name:List Nat
 op:Int
 args:List Int
 g0:cd
 wT:iT
 fj:iT
 B7:iT
 xW:iT
 oS:Int
abbrev dx(l:List Int)(g:cd):ai:=.aW 1 (l.map I) g
def aO.cs(x:aO):List ai:=[.str x.name,I x.op,dx x.args x.g0,.bool x.wT.neg,x.wT.v,.bool x.fj.neg,x.fj.v,.bool x.B7.neg,x.B7.v,.bool x.xW.neg,x.xW.v,I x.oS]
def aO.enc(x:aO):ai:=.agg x.cs
structure mh (x:aO):Prop where
 g0:∀a,x.g0≠.bQ a
 Dj:x.args.length<9223372036854775807
 wT:oI x.wT
 fj:oI x.fj
 B7:oI x.B7
 xW:oI x.xW
theorem rI{g:cd}(h:∀a,g≠.bQ a)(sz:Nat)(es:List ai):ai.bp (.aW sz es g)=true:=by cases g<;> first|rfl |exact absurd rfl (h _)
theorem QR{g:cd}(h:∀a,g≠.bQ a)(d:Nat):g.ak d=g:=by cases g<;> first|rfl |exact absurd rfl (h _)
theorem vf{g:cd}(h:∀a,g≠.bQ a)(S:aq)(sz:Nat)(es:List ai):Ab.freeze S (.aW sz es g)=some (.aW sz es g):=by show Ab.dT S _=_;cases g<;> first|rfl |exact absurd rfl (h _)
theorem mh.bp{x:aO}(h:mh x):x.enc.bp=true:=by simp only[aO.enc,aO.cs,ai.bp,ai.bj,iT.v,rI h.g0,rI h.wT.g,rI h.fj.g,rI h.B7.g,rI h.xW.g,eD]
theorem aO.cells(x:aO):x.cs.all ai.dZ=true:=rfl
def h9(op:Int):List Int:=
 if op=2 then[0] else if op=3 then[1,1] else if op=4 then[2,2] else if op=5 then[1,1] else if op=6∨op=7 then[1,1,1] else if op=8 then[2,3] else if op=9 then[3,3]
 else if op=10∨op=11 then[1,2] else if op=12 then[1,1] else if op=13 then[1,2] else if op=14 then[1,1,1] else if op=15 then[1,3] else if op=16 then[3] else[]
def dg(op:Int):Int:=
 if op=1∨op=2∨op=4∨op=8∨op=9∨op=12∨op=13∨op=16 then 1 else if op=3∨op=10∨op=11∨op=14∨op=15 then 2 else if op=5∨op=6∨op=7 then 3 else 0
def l6(op:Int):Bool:=decide (op=8∨op=9∨op=14∨op=15)
def AQ(op:Int):cd:=if 2≤op∧op≤16 then .exact else .nil
abbrev CN(op:Int):ai:=.cT [dx (h9 op) (AQ op),I (dg op),.bool (l6 op)]
theorem ah4{S:aq}{k:a1}(l:List Int):(aH au G X).av S k 1 (l.map I)=k (dx l .exact) S:=by
 refine iY 1 _ ?_ ?_
 ·induction l with
  |nil=>rfl
  |cons x l e=>simp only[fU,ai.bj,e,Bool.and_true];rfl
 ·induction l with
  |nil=>rfl
  |cons x l e=>simp only[fU,List.all_cons,e,Bool.and_true];rfl
theorem aqQ{s S:aq}(e:Child s S)(v:ai)(n:Int)(b:Bool)(bG:Ab.freeze S v=some v):(aH au G X).aB false [some v,some (.int .i64 n),some (.bool b)] S=.ok (.cT [v,.int .i64 n,.bool b]) s:=by obtain⟨aD,aG⟩:=e;show oy false [some v,some (.int .i64 n),some (.bool b)] S=_;unfold oy;simp only[ha,hk,eU,cond_false,bG,show Ab.freeze S (.int .i64 n)=some (.int .i64 n) from rfl,show Ab.freeze S (.bool b)=some (.bool b) from rfl,q7,aD,aG]
theorem rJ(op:Int):op=1∨op=2∨op=3∨op=4∨op=5∨op=6∨op=7∨op=8∨op=9∨op=10∨op=11∨op=12∨op=13∨op=14∨op=15∨op=16∨(op≠1∧op≠2∧op≠3∧op≠4∧op≠5∧op≠6∧op≠7∧op≠8∧op≠9∧op≠10∧op≠11∧op≠12∧op≠13∧op≠14∧op≠15∧op≠16):=by omega
theorem AR(op:Int)(s:aq):az au G X 115 [I op] s=.ok (CN op) s:=by
 rw[P9,ag0];rcases rJ op with h|h|h|h|h|h|h|h|h|h|h|h|h|h|h|h|h
 all_goals try (subst h;kernel_rfl)
 obtain⟨aD,aG,bz,cz,r,u,y,B,H,J,K,L,M,N,O,Q⟩:=h;simp only[bi,bc,aM aD,aM aG,aM bz,aM cz,aM r,aM u,aM y,aM B,aM H,aM J,aM K,aM L,aM M,aM N,aM O,aM Q,KH,KG,KF];have e:CN op=.cT [dx [] .nil,I 0,.bool false]:=by
  unfold CN;have g:AQ op=.nil:=by unfold AQ;rw[if_neg (by omega)]
  rw[g];simp [h9,dg,l6,aD,aG,bz,cz,r,u,y,B,H,J,K,L,M,N,O,Q]
 rw[e];exact aqQ G X (.af s) _ _ _ rfl
theorem E3(op:Int)(s:aq):az au G X 83 [I op] s=.ok (CN op) s:=by
 rw[aav,apq];rcases rJ op with h|h|h|h|h|h|h|h|h|h|h|h|h|h|h|h|h
 all_goals try (subst h;kernel_rfl)
 obtain⟨aD,aG,bz,cz,r,u,y,B,H,J,K,L,M,N,O,Q⟩:=h;simp only[bi,bc,aM aD,aM aG,aM bz,aM cz,aM r,aM u,aM y,aM B,aM H,aM J,aM K,aM L,aM M,aM N,aM O,aM Q,Ow,Ov,Ou];have e:CN op=.cT [dx [] .nil,I 0,.bool false]:=by
  unfold CN;have g:AQ op=.nil:=by unfold AQ;rw[if_neg (by omega)]
  rw[g];simp [h9,dg,l6,aD,aG,bz,cz,r,u,y,B,H,J,K,L,M,N,O,Q]
 rw[e];exact aqQ G X (.af s) _ _ _ rfl
theorem E4(op:Int)(s:aq):az au G X 85 [I op] s=.ok (I (dg op)) s:=by rw[aax,aps,cy,aK (E3 G X op s.af),hv,hx,pY,b1]
theorem E5(x:aO)(s:aq):az au G X 74 [x.enc] s=.ok (I (dg x.op)) s:=by rw[aau,apo];simp only[aO.enc,aO.cs,↓bx,↓bu,↓c3,↓b1,bT,dt,cy,↓(aK (AR G X x.op _)),hv,hx,pY]
theorem apK(x:aO)(s:aq):az au G X 71 [x.enc] s=.ok (.bool (l6 x.op)) s:=by rw[aar,apl];simp only[aO.enc,aO.cs,↓bx,↓bu,↓c3,↓bE,bT,dt,cy,↓(aK (AR G X x.op _)),hv,hx,pY]
def acc(want is:Int):Bool:=decide (is=want)||(decide (want=0)&&(decide (is=2)||decide (is=3)))
theorem L9(want is:Int)(s:aq):az au G X 103 [I want,I is] s=.ok (.bool (acc want is)) s:=by
 rw[P7,agY,bi];unfold acc;by_cases aD:is=want
 ·simp only[a7 aD,ej,cR,bE,Bool.true_or,eG]
 ·simp only[aM aD,de,df,Bool.false_or,bi];by_cases aG:want=0
  ·simp only[a7 aG,dP,bi,cG];by_cases bz:is=2
   ·simp only[a7 bz,ej,cR,bE,Bool.true_or]
   ·simp only[aM bz,de,df,cR,bE,Bool.false_or,bi]
  ·simp only[aM aG,fh,df,bE,c1,eG]
theorem Zz(is want:Int)(s:aq)(hw:0≤is)(cL:want=0→is≠0):az au G X 84 [I is,I want] s=.ok (.bool (acc want is)) s:=by
 rw[aaw,apr,bi];unfold acc;by_cases aG:want=0
 ·have bz:¬is=want:=fun e=>cL aG (by rw[e,aG])
  simp only[a7 aG,ba,bi,aM bz,Bool.false_or,cG];by_cases cz:is=2
  ·simp only[a7 cz,ej,cR,bE,Bool.true_or]
  ·simp only[aM cz,de,df,bi,bE,Bool.false_or]
 ·simp only[aM aG,bc,Ox,bi,bE,c1,Bool.or_false]
def lc(h5 hW:iT):Bool:= !h5.neg&& !hW.neg&&decide (h5.l5=[])&&decide (hW.l5=[])
abbrev ux(h5 hW:iT):ai:=.agg [.bool h5.neg,h5.v,.bool hW.neg,hW.v]
theorem awe(l:List Nat):decide (((l.map U).length:Int)=0)=decide (l=[]):=by congr 1;rw[eq_iff_iff];cases l<;> simp <;> omega
theorem Ma(h5 hW:iT)(s:aq):az au G X 117 [ux h5 hW] s=.ok (.bool (lc h5 hW)) s:=by
 rw[Qa,ag1];unfold lc;cases aD:h5.neg with
 |true=>simp only[iT.v,aD,↓bx,↓bg,↓bu,↓c3,↓g6,↓lO,↓lP,↓bi,↓eY,↓bE,bT,dt,↓reduceIte,co,eV,c1]
 |false=>
  cases aG:hW.neg with
  |true=>simp only[iT.v,aD,aG,↓bx,↓bg,↓bu,↓c3,↓g6,↓lO,↓lP,↓bi,↓eY,↓bE,bT,dt,↓reduceIte,co,eV,eC,c1,Bool.and_false]
  |false=>
   by_cases bz:h5.l5=[]
   ·simp only[iT.v,aD,aG,↓bx,↓bg,↓bu,↓c3,↓g6,↓lO,↓lP,↓bi,↓eY,↓bE,bT,dt,↓reduceIte,eD,dk,eC,cG,awe,eq_true bz]
   ·have e:¬((h5.l5.map U).length:Int)=0:=by
     rw[b2];have:=List.length_pos_iff.2 bz;omega
    simp only[iT.v,aD,aG,↓bx,↓bg,↓bu,↓c3,↓g6,↓lO,↓lP,↓bi,↓eY,↓bE,bT,dt,↓reduceIte,eD,c9,co,eC,cG,eq_false e,eq_false bz,c1]
theorem qV{s:aq}{k:a1}(a b:List Nat):(aH au G X).ah s k (al .eql (.str a) (.str b))=k (.bool (decide (a=b))) s:=by show k (.bool (a==b)) s=_;congr 2;exact(by rw[Bool.eq_iff_iff];simp)
theorem apL{S:aq}{k:a1}{d j o:Nat}{cs:List ai}{c:ai}(h:S.get (.g d j)=some (.cells cs))(a9:cs[o]? =some c):(aH au G X).aj S k none (.ref (.g d j) o)=k c S:=by
 rw[k5];simp only[fq,h,fc]
 have:cs.drop o=c::cs.drop (o+1):=by have e:=(bZ.1 a9);rw[gl e.1,e.2]
 rw[this];rfl
theorem ah5(o x:aO)(s:aq)(d j:Nat)(bI:d≤s.aa)(h:s.get (.g d j)=some (.cells x.cs)):az au G X 119 [o.enc,.ref (.g d j) 0] s=.ok (.bool (decide (o.name=x.name))) s:=by
 have aG:s.af.get (.g d j)=some (.cells x.cs):=(Child.af s).jO.2 d j _ bI h;have l:=fun(k:a1)=>apL G X (k:=k) (o:=0+0) aG (c:=.str x.name) rfl
 rw[Qc,ag3];simp only[aO.enc];rw[bx];simp only[aO.cs] at *;rw[c3,bT,bu,aA,l,qV,bE]
def qm(e:List Nat):List aO→Nat→Int
 |[],_=> -1
 |o::r,i=>if o.name=e then(i:Int) else qm e r (i+1)
theorem rp(u:List Nat):∀(l:List aO) (i:Nat),decide (0≤qm u l i)=l.any fun o=>decide (o.name=u)
 |[],i=>rfl
 |o::r,i=>by
  rw[List.any_cons];by_cases h:o.name=u
  ·have e:qm u (o::r) i=(i:Int):=if_pos h;simp [e,h]
  ·have e:qm u (o::r) i=qm u r (i+1):=if_neg h;have y:=rp u r (i+1);simp [e,h] at y ⊢;exact y
abbrev bP(l:List aO)(g:cd):ai:=.aW 12 (l.map aO.enc) g
theorem xY(x:aO):x.cs.take 12=x.cs:=rfl
theorem ah6(l:List aO)(g:cd)(x:aO)(s:aq)(d j:Nat)(bI:d≤s.aa)(h:s.get (.g d j)=some (.cells x.cs))(br:l.length<9223372036854775807):az au G X 151 [bP l g,.fn 119 [.ref (.g d j) 0]] s=.ok (I (qm x.name l 0)) s:=by
 have loop:∀n i:Nat,i+n=l.length→tu (aH au G X) (bP l g) (.fn 119 [.ref (.g d j) 0]) (.int .i64 (l.length:Int)) (.int .i64 (i:Int)) s.af=.ok (I (qm x.name (l.drop i) i)) s:=by
  intro n
  induction n with
  |zero=>
   intro i bk;have e:¬(i:Int)<(l.length:Int):=by omega
   rw[wA,be,aM e,bc,KK,b1,hl (by omega)];rfl
  |succ n u=>
   intro i bk;have e:(i:Int)<(l.length:Int):=by omega
   have r:i<l.length:=by omega
   have y:(l.map aO.enc)[i]? =some l[i].enc:=by simp [r]
   have c:=ah5 G X l[i] x s.af d j (by have:=(Child.af s).aa;omega) ((Child.af s).jO.2 d j _ bI h);have B:=fun S k=>fJ G X S k i (by omega)
   rw[wA,be,a7 e,ba,KJ,iw _ _ _ _ _ _ y];simp only[aO.enc,ai.cells];rw[ed _ _ (aX 12),xY,dd,Gg];simp only[aO.enc] at c;simp only[List.cons_append,List.nil_append];rw[aK c,gl r,qm];by_cases bX:l[i].name=x.name
   ·rw[a7 bX,ba,b1,if_pos bX]
   ·rw[aM bX,bc,KI,B,if_neg bX];exact u (i+1) (by omega)
 rw[Qe,ag5,bg,b2];exact loop l.length 0 (by omega)
theorem ah7(l:List aO)(g:cd)(bD:∀a,g≠.bQ a)(x:aO)(s:aq)(d j:Nat)(bI:d≤s.aa)(h:s.get (.g d j)=some (.cells x.cs))(br:l.length<9223372036854775807):az au G X 118 [bP l g,.fn 119 [.ref (.g d j) 0]] s=.ok (.bool (l.any fun o=>decide (o.name=x.name))) s:=by
 have c:=ah6 G X l g x s.af d j (by have:=(Child.af s).aa;omega) ((Child.af s).jO.2 d j _ bI h) br;rw[Qb,ag2];have e:ai.ak s.af.aa (bP l g)=bP l g:=by simp only[ai.ak,QR bD]
 rw[e,RZ,aK c,fG,rp,bE]
def n9(pre:List aO)(w a:Int):Bool:=decide (0≤a∧a<(pre.length:Int))&&acc w (match pre[a.toNat]? with |some o=>dg o.op|none=>0)
def gE(pre:List aO):List Int→List Int→Bool
 |w::ws,a::as=>n9 pre w a&&gE pre ws as
 |_,_=>true
def uy(op oS:Int):Bool:=if l6 op=true then decide (oS=1∨oS=2) else decide (oS=0)
def lT(h5 hW:iT):Bool:=jQ h5.neg hW.neg h5.l5 hW.l5
def qn(x:aO):Bool:=
 if x.op=1 then lT x.wT x.fj&&lT x.B7 x.xW else if x.op=2 then lT x.wT x.fj&&lc x.B7 x.xW else lc x.wT x.fj&&lc x.B7 x.xW
def mG(pre:List aO)(x:aO):Bool:=pre.any fun o=>decide (o.name=x.name)
def wf(pre:List aO)(x:aO):Bool:=
 decide (dg x.op≠0)&&decide ((h9 x.op).length=x.args.length)&&decide (x.name≠[])&&(gE pre (h9 x.op) x.args&&(uy x.op x.oS&&(qn x&& !mG pre x)))
section
variable(x:aO)(s:aq)(k:a1)
theorem ah8:(aH au G X).aj (s.new (.cells x.cs)) k none (.ref (.l s.own.length) 0)=k (.str x.name) (s.new (.cells x.cs)):=ajb _ _
theorem l7(o:Nat)(c:ai)(h:x.cs[o]? =some c):(aH au G X).aj (s.new (.cells x.cs)) k none (.ref (.l s.own.length) o)=k c (s.new (.cells x.cs)):=Cx (by simp [aq.new]) h
theorem qo:(aH au G X).aj (s.new (.cells x.cs)) k none (.ref (.l s.own.length) 1)=k (I x.op) (s.new (.cells x.cs)):=l7 G X x s k 1 _ rfl
theorem ZA:(aH au G X).aj (s.new (.cells x.cs)) k none (.ref (.l s.own.length) 2)=k (dx x.args x.g0) (s.new (.cells x.cs)):=l7 G X x s k 2 _ rfl
theorem nt:(aH au G X).aj (s.new (.cells x.cs)) k none (.ref (.l s.own.length) 11)=k (I x.oS) (s.new (.cells x.cs)):=l7 G X x s k 11 _ rfl
theorem aqR(o:Nat)(h:o+4≤12):(aH au G X).aj (s.new (.cells x.cs)) k (some 4) (.ref (.l s.own.length) o)=k (.agg ((x.cs.drop o).take 4)) (s.new (.cells x.cs)):=by rw[k5];simp only[fq,pa,fc];rw[show Nat.ble 4 (x.cs.drop o).length=true from dN (by simp;show 4≤12-o;omega)];rfl
theorem CO:(aH au G X).aj (s.new (.cells x.cs)) k (some 4) (.ref (.l s.own.length) 3)=k (ux x.wT x.fj) (s.new (.cells x.cs)):=aqR G X x s k 3 (by omega)
theorem CP:(aH au G X).aj (s.new (.cells x.cs)) k (some 4) (.ref (.l s.own.length) 7)=k (ux x.B7 x.xW) (s.new (.cells x.cs)):=aqR G X x s k 7 (by omega)
end
theorem CQ{h5 hW:iT}(aD:oI h5)(aG:oI hW)(s:aq):az au G X 116 [ux h5 hW] s=.ok (.bool (lT h5 hW)) s:=ahU G X s h5.neg hW.neg h5.v hW.v h5.l5 hW.l5 aD.lv aG.lv aD.ok aG.ok aD.len aG.len
theorem Mb{h5 hW:iT}(aD:oI h5)(aG:oI hW)(s:aq):az au G X 86 [ux h5 hW] s=.ok (.bool (lT h5 hW)) s:=apJ G X s h5.neg hW.neg h5.v hW.v h5.l5 hW.l5 aD.lv aG.lv aD.ok aG.ok aD.len aG.len
end Go.h6
end
