/- What the claim's texts say of a part of the evaluator and of the program's functions: for every argument that they name. -/
import Derived.Test.YtnafklimohmfkaaGreatDoorA4
import Derived.Test.YtnafklimohmfkaaGreatDoorA2
set_option linter.unusedSectionVars false
set_option linter.unusedSimpArgs false
set_option linter.unusedVariables false
section
namespace Go.iY
def B:Nat:=4294967296
theorem lX:B=4294967296:=rfl
theorem gR:0 < B:=by decide
def val:List Nat→Nat
 | []=>0
 | x :: xs=>x+B * val xs
def bV(l:List Nat):Prop:=∀x,x∈l→x < B
theorem bV.tail{x:Nat}{l:List Nat}(h:bV (x :: l)):bV l:=fun y hy=>h y (by simp [hy])
theorem bV.take{l:List Nat}(h:bV l)(n:Nat):bV (l.take n):=fun y hy=>h y (List.mem_of_mem_take hy)
theorem bV.drop{l:List Nat}(h:bV l)(n:Nat):bV (l.drop n):=fun y hy=>h y (List.mem_of_mem_drop hy)
theorem bV.getD{l:List Nat}(h:bV l)(i:Nat):l.getD i 0 < B:=by
 by_cases hi:i < l.length
 ·have:l.getD i 0=l[i]:=by simp [List.getD,hi]
  rw[this];exact h _ (nd hi)
 ·have:l.getD i 0=0:=by simp [List.getD,Nat.not_lt.1 hi]
  rw[this];exact gR
theorem bV.set{l:List Nat}(h:bV l)(i x:Nat)(hx:x < B):bV (l.set i x):=fun y hy=>by
 rcases List.mem_or_eq_of_mem_set hy with h1 | h1
 ·exact h y h1
 ·exact h1 ▸ hx
theorem nE(n:Nat):bV (List.replicate n 0):=fun y hy=>by rw[(List.mem_replicate.1 hy).2];exact gR
theorem qZ:∀(a b:List Nat),val (a ++ b)=val a+B ^ a.length * val b
 | [],b=>by simp [val]
 | x :: a,b=>by
  simp only[List.cons_append,val,qZ a b,cP,Nat.pow_succ,Nat.mul_add]
  rw[Nat.mul_comm (B ^ a.length) B,Nat.mul_assoc];omega
theorem eK:∀(l:List Nat),bV l→val l < B ^ l.length
 | [],_=>by simp [val]
 | x :: l,h=>by
  have h1:=eK l h.tail
  have h2:=h x (by simp)
  simp only[val,cP,Nat.pow_succ]
  have h3:B * (val l+1)≤B * B ^ l.length:=Nat.mul_le_mul_left _ h1
  rw[Nat.mul_add,Nat.mul_one] at h3
  rw[Nat.mul_comm (B ^ l.length)]
  omega
theorem Gy(n:Nat):val (List.replicate n 0)=0:=by
 induction n with
 | zero=>rfl
 | succ n ih=>simp [List.replicate_succ,val,ih]
theorem val_succ(l:List Nat)(i:Nat)(h:i < l.length):val (l.take (i+1))=val (l.take i)+B ^ i * l.getD i 0:=by
 rw[List.take_succ_eq_append_getElem h,qZ]
 have:(l.take i).length=i:=by simp;omega
 rw[this]
 simp [val,List.getD,h]
theorem jZ(l:List Nat)(i:Nat)(h:i≤l.length):val l=val (l.take i)+B ^ i * val (l.drop i):=by
 have:=qZ (l.take i) (l.drop i)
 rw[List.take_append_drop] at this
 rw[this]
 have:(l.take i).length=i:=by simp;omega
 rw[this]
theorem lO(l:List Nat)(i:Nat)(h:i < l.length):val (l.drop i)=l.getD i 0+B * val (l.drop (i+1)):=by
 rw[List.drop_eq_getElem_cons h]
 simp [val,List.getD,h]
theorem nF{l:List Nat}{i j x:Nat}(h:i≤j):(l.set j x).take i=l.take i:=by
 apply List.ext_getElem?
 intro n
 rw[List.getElem?_take,List.getElem?_take]
 split
 ·rw[eM (by omega)]
 ·rfl
theorem zO{l:List Nat}{i j x:Nat}(h:j < i):(l.set j x).drop i=l.drop i:=by
 apply List.ext_getElem?
 intro n
 rw[List.getElem?_drop,List.getElem?_drop,eM (by omega)]
theorem fj{l:List Nat}{i x:Nat}(h:i < l.length):(l.set i x).getD i 0=x:=by simp [List.getD,h]
theorem getD_set_ne{l:List Nat}{i j x:Nat}(h:i≠j):(l.set i x).getD j 0=l.getD j 0:=by
 simp only[List.getD]
 rw[eM h]
def fA(l:List Nat):Nat→Nat
 | 0=>0
 | n+1=>if l.getD n 0=0 then fA l n else n+1
theorem jh(l:List Nat):∀n,fA l n≤n
 | 0=>Nat.le_refl _
 | n+1=>by
  unfold fA
  split
  ·exact Nat.le_succ_of_le (jh l n)
  ·exact Nat.le_refl _
def dz(l:List Nat):List Nat:=l.take (fA l l.length)
def cN(l:List Nat):Prop:=l≠[]→l.getD (l.length - 1) 0≠0
theorem Gz(l:List Nat):∀n,n≤l.length→val (l.take (fA l n))=val (l.take n)
 | 0,_=>rfl
 | n+1,h=>by
  unfold fA
  split
  ·rename_i h0
   rw[Gz l n (by omega),val_succ l n (by omega),h0,Nat.mul_zero,Nat.add_zero]
  ·rfl
theorem zP(l:List Nat):∀n,fA l n≠0→l.getD (fA l n - 1) 0≠0
 | 0,h=>absurd rfl h
 | n+1,h=>by
  unfold fA at h ⊢
  split
  ·rename_i h0
   rw[if_pos h0] at h
   exact zP l n h
  ·rename_i h0
   exact h0
theorem im(l:List Nat):val (dz l)=val l:=by
 unfold dz
 rw[Gz l _ (Nat.le_refl _),List.take_length]
theorem f9(l:List Nat):(dz l).length=fA l l.length:=by
 unfold dz
 rw[List.length_take]
 have:=jh l l.length
 omega
theorem fP(l:List Nat):cN (dz l):=fun h=>by
 have h1:fA l l.length≠0:=fun e=>h (by unfold dz;rw[e];rfl)
 have h2:=zP l l.length h1
 rw[f9]
 unfold dz
 simp only[List.getD] at h2 ⊢
 rw[List.getElem?_take,if_pos (by omega)]
 exact h2
theorem ig{l:List Nat}(h:bV l):bV (dz l):=h.take _
theorem vD(l:List Nat)(h:cN l)(cK:l≠[]):B ^ (l.length - 1)≤val l:=by
 have hl:0 < l.length:=List.length_pos_iff.2 cK
 have h1:=val_succ l (l.length - 1) (by omega)
 rw[show l.length - 1+1=l.length by omega,List.take_length] at h1
 have h2:=h cK
 rw[h1]
 have:B ^ (l.length - 1) * 1≤B ^ (l.length - 1) * l.getD (l.length - 1) 0:=Nat.mul_le_mul_left _ (by omega)
 omega
theorem q0{l:List Nat}(h:cN l):val l=0↔l=[]:=by
 constructor
 ·intro h0
  by_cases cK:l=[]
  ·exact cK
  ·have:=vD l h cK
   have:=Nat.pow_pos (n:=l.length - 1) gR
   omega
 ·intro e;subst e;rfl
theorem jH{m n:Nat}(h:m≤n):B ^ m≤B ^ n:=Nat.pow_le_pow_right gR h
theorem m7{a b:List Nat}(ha:bV a)(hb:cN b)(h:a.length < b.length):val a < val b:=by
 have h1:=eK a ha
 have h2:=vD b hb (by intro e;subst e;simp at h)
 have h3:B ^ a.length≤B ^ (b.length - 1):=jH (by omega)
 omega
theorem tg{a b:List Nat}(ha:bV a)(hb:bV b)(ca:cN a)(cb:cN b)(h:val a=val b):a.length=b.length:=by
 rcases Nat.lt_trichotomy a.length b.length with h1 | h1 | h1
 ·have:=m7 ha cb h1;omega
 ·exact h1
 ·have:=m7 hb ca h1;omega
theorem th{l:List Nat}(hc:cN l){n:Nat}(h:val l < B ^ n):l.length≤n:=by
 by_cases e:l=[]
 ·subst e;simp
 ·have h1:=vD l hc e
  by_cases h2:l.length≤n
  ·exact h2
  ·have h3:B ^ n≤B ^ (l.length - 1):=jH (by omega)
   omega
theorem val_inj:∀{a b:List Nat},bV a→bV b→a.length=b.length→val a=val b→a=b
 | [],[],_,_,_,_=>rfl
 | [],y :: b,_,_,h,_=>by simp at h
 | x :: a,[],_,_,h,_=>by simp at h
 | x :: a,y :: b,ha,hb,hl,h=>by
  have hx:=ha x (by simp)
  have hy:=hb y (by simp)
  simp only[val] at h
  have h1:x=y:=by
   have e1:(x+B * val a) % B=x:=by rw[Nat.add_mul_mod_self_left,Nat.mod_eq_of_lt hx]
   have e2:(y+B * val b) % B=y:=by rw[Nat.add_mul_mod_self_left,Nat.mod_eq_of_lt hy]
   rw[←e1,←e2,h]
  subst h1
  have h2:B * val a=B * val b:=by omega
  have h3:=Nat.eq_of_mul_eq_mul_left gR h2
  rw[val_inj ha.tail hb.tail (by simpa using hl) h3]
end Go.iY
namespace Go.iY
theorem zQ:B=2 ^ 32:=rfl
theorem GA(w r:Nat):B ^ w * 2 ^ r=2 ^ (32 * w+r):=by rw[zQ,←Nat.pow_mul,←Nat.pow_add]
theorem AT(x r:Nat)(hr:r < 32):∃q,x * 2 ^ r % B=q * 2 ^ r∧q * 2 ^ r+2 ^ r≤B:=by
 refine⟨x % 2 ^ (32 - r),?_,?_⟩
 ·have:B=2 ^ (32 - r) * 2 ^ r:=by rw[←Nat.pow_add,zQ];congr 1;omega
  rw[this,Nat.mul_mod_mul_right]
 ·have:B=2 ^ (32 - r) * 2 ^ r:=by rw[←Nat.pow_add,zQ];congr 1;omega
  have h1:x % 2 ^ (32 - r)+1≤2 ^ (32 - r):=Nat.mod_lt _ (Nat.two_pow_pos _)
  have h2:=Nat.mul_le_mul_right (2 ^ r) h1
  rw[Nat.add_mul,Nat.one_mul] at h2
  rw[this]
  exact h2
theorem AU(x r:Nat)(hx:x < B)(hr:r < 32):x * 2 ^ r / B < 2 ^ r∧x * 2 ^ r < 18446744073709551616:=by
 have h1:x * 2 ^ r < B * 2 ^ r:=Nat.mul_lt_mul_of_pos_right hx (Nat.two_pow_pos _)
 refine⟨by rw[Nat.div_lt_iff_lt_mul gR,Nat.mul_comm (2 ^ r)];exact h1,?_⟩
 have h2:B * 2 ^ r≤B * 2 ^ 32:=Nat.mul_le_mul_left _ (Nat.pow_le_pow_right (by omega) (by omega))
 have h3:B * 2 ^ 32=18446744073709551616:=by decide
 omega
theorem GB(l out:List Nat)(i w r:Nat)(hr:r < 32)(hi:i < l.length)(hl:l.length+w < out.length)(oo:bV out)(ol:bV l)(hv:val (out.take (i+w+1))=val (l.take i) * 2 ^ (32 * w+r))(hc:out.getD (i+w) 0 < 2 ^ r)(c:Nat)(hcc:c=out.getD (i+w) 0)(y:Nat)(hy:y=c+l.getD i 0 * 2 ^ r % B):
  let o2:=(out.set (i+w) y).set (i+w+1) (l.getD i 0 * 2 ^ r / B)
  bV o2∧o2.length=out.length∧val (o2.take (i+1+w+1))=val (l.take (i+1)) * 2 ^ (32 * w+r)∧o2.getD (i+1+w) 0 < 2 ^ r:=by
 have hx:=ol.getD i
 have Sn:=AU (l.getD i 0) r hx hr
 obtain⟨q,Ls,So⟩:=AT (l.getD i 0) r hr
 have h2r:2 ^ r≤2 ^ 32:=Nat.pow_le_pow_right (by omega) (by omega)
 have hyB:y < B:=by omega
 have aIQ:(2:Nat) ^ 32=B:=rfl
 have e1:i+1+w=i+w+1:=by omega
 refine⟨(oo.set _ _ hyB).set _ _ (by omega),by simp,?_,?_⟩
 ·have s1:=val_succ ((out.set (i+w) y).set (i+w+1) (l.getD i 0 * 2 ^ r / B)) (i+w+1) (by simp;omega)
  have s2:=val_succ (out.set (i+w) y) (i+w) (by simp;omega)
  have s3:=val_succ out (i+w) (by omega)
  have g1:((out.set (i+w) y).set (i+w+1) (l.getD i 0 * 2 ^ r / B)).getD (i+w+1) 0=l.getD i 0 * 2 ^ r / B:=fj (by simp;omega)
  have g2:(out.set (i+w) y).getD (i+w) 0=y:=fj (by omega)
  rw[e1,s1,g1,nF (Nat.le_refl _),s2,g2,nF (Nat.le_refl _),val_succ l i hi,Nat.add_mul,←hv,s3,←hcc]
  have e2:B ^ i * l.getD i 0 * 2 ^ (32 * w+r)=B ^ (i+w) * (l.getD i 0 * 2 ^ r):=by
   rw[←GA,Nat.pow_add,Nat.mul_assoc,Nat.mul_assoc,Nat.mul_left_comm (l.getD i 0)]
  have e3:B ^ (i+w) * (l.getD i 0 * 2 ^ r)=B ^ (i+w) * (l.getD i 0 * 2 ^ r % B)+B ^ (i+w) * (B * (l.getD i 0 * 2 ^ r / B)):=by rw[←Nat.mul_add,Nat.mod_add_div]
  rw[e2,e3,hy,Nat.mul_add,Nat.pow_succ,Nat.mul_assoc (B ^ (i+w)) B]
  omega
 ·have g1:((out.set (i+w) y).set (i+w+1) (l.getD i 0 * 2 ^ r / B)).getD (i+w+1) 0=l.getD i 0 * 2 ^ r / B:=fj (by simp;omega)
  rw[e1,g1]
  exact Sn.1
theorem Sp(a out:List Nat)(n d rest:Nat)(hd:d≠0)(hn:n < a.length)(hl:out.length=a.length)(oa:bV a)(oo:bV out)(hr:rest < d)(hv:val (a.drop (n+1))=val (out.drop (n+1)) * d+rest):
  (rest * B+a.getD n 0) / d < B∧bV (out.set n ((rest * B+a.getD n 0) / d))∧(rest * B+a.getD n 0) % d < d∧val (a.drop n)=val ((out.set n ((rest * B+a.getD n 0) / d)).drop n) * d+(rest * B+a.getD n 0) % d:=by
 have hx:=oa.getD n
 have h1:rest * B+a.getD n 0 < d * B:=by
  have:(rest+1) * B≤d * B:=Nat.mul_le_mul_right _ hr
  rw[Nat.add_mul,Nat.one_mul] at this
  omega
 have hq:(rest * B+a.getD n 0) / d < B:=by rw[Nat.div_lt_iff_lt_mul (by omega),Nat.mul_comm B];exact h1
 refine⟨hq,oo.set _ _ hq,Nat.mod_lt _ (by omega),?_⟩
 have s1:=lO (out.set n ((rest * B+a.getD n 0) / d)) n (by simp;omega)
 have g1:(out.set n ((rest * B+a.getD n 0) / d)).getD n 0=(rest * B+a.getD n 0) / d:=fj (by omega)
 rw[lO a n hn,hv,s1,g1,zO (by omega),Nat.add_mul]
 have hm:=Nat.div_add_mod (rest * B+a.getD n 0) d
 have e1:B * (val (out.drop (n+1)) * d+rest)=B * val (out.drop (n+1)) * d+rest * B:=by rw[Nat.mul_add,Nat.mul_assoc,Nat.mul_comm B rest]
 rw[e1]
 have e2:(rest * B+a.getD n 0) / d * d=d * ((rest * B+a.getD n 0) / d):=Nat.mul_comm _ _
 omega
end Go.iY
end
section
namespace Go.jY
open Go.Ab Go.iY
variable(G:Nat→AV)(X:Nat→List AV→St→ax)
theorem kF(S:St)(k:K1)(sz:Nat)(es:List AV)(g:Gr)(kk:IntKind)(i:Nat)(e:AV)(h:es[i]? =some e):(PP T1 G X).aX S k sz (.sl sz es g) (.int kk (i:Int))=k (.bO e.cells) S:=l9 sz es g kk i e h
theorem gD(S:St)(k:K1)(a:Nat)(h:a+1 < 9223372036854775808):(PP T1 G X).ak S k (au .add (.int .i64 (a:Int)) (.int .i64 1))=k (.int .i64 ((a+1:Nat):Int)) S:=qB a h
theorem zCl(S:St)(k:K1){f:Nat}{args:List AV}{v:AV}{s':St}(h:aJ T1 G X f args S= .ok v s')(hd:s'.aa=S.aa):(PP T1 G X).aB S k f args=k v s':=dJ h hd
theorem Sq(s:St)(v:AV)(l:List Nat)(h:Rd s v l)(hb:l.length < 9223372036854775807)(S:St)(hS:Child s S):∀n,n≤l.length→yx (PP T1 G X) v (.int .i64 (n:Int)) S= .ok (mw v (fA l n)) s:=by
 have j3:∀n,n≤l.length→E4 (PP T1 G X) v (.int .i64 (n:Int)) S= .ok (mw v n) s:=fun n hn=>by
  rw[Om _ (aA _ _ _),h.slice n hn]
  exact jv hS _ _ ((h.cut n hn).same hS)
 intro n
 induction n with
 | zero=>
  intro hn
  rw[BZ _ (aA _ _ _)]
  have h0:¬((0:Int) < ((0:Nat):Int)):=by omega
  simp only[↓cc,↓iG,↓J6,↓dV,↓reduceIte,decide_false,co,eq_false h0]
  exact j3 0 (Nat.zero_le _)
 | succ n ih=>
  intro hn
  have h0:(0:Int) < ((n+1:Nat):Int):=by omega
  have g:=fun(k:K1)=>(h.vw hS.vw).get (T:=T1) (G:=G) (X:=X) .i64 n (by omega) k
  have a1:=fun(S:St) (k:K1)=>ku (T:=T1) (G:=G) (X:=X) (s:=S) (k:=k) (n+1) (by omega) (by omega)
  simp only[Nat.add_sub_cancel] at a1
  rw[BZ _ (aA _ _ _)]
  by_cases hz:l.getD n 0=0
  ·have hz':((l.getD n 0:Nat):Int)=0:=by omega
   simp only[↓cc,↓iG,↓J6,↓bj,↓dV,↓reduceIte,decide_true,eq_true h0,a1,↓g,hz',Ol _ (aA _ _ _),fA,if_pos hz]
   exact ih (by omega)
  ·have hz':¬((l.getD n 0:Nat):Int)=0:=by omega
   simp only[↓cc,↓iG,↓J6,↓bj,↓dV,↓reduceIte,decide_true,decide_false,co,eq_true h0,a1,↓g,eq_false hz',fA,if_neg hz]
   exact j3 (n+1) hn
theorem qD(s:St)(v:AV)(l:List Nat)(h:Rd s v l)(hb:l.length < 9223372036854775807):aJ T1 G X 191 [v] s= .ok (mw v (fA l l.length)) s:=by
 rw[UT,alW,h.len]
 exact Sq G X s v l h hb s.ai (.ai s) l.length (Nat.le_refl _)
theorem aht{s S:St}(hS:Child s S){j:Nat}{l:List Nat}(h:gj S j l)(n:Nat)(hn:n=l.length)(hb:l.length < 9223372036854775807):∃v,Fz v (dz l)∧(PP T1 G X).aB S (fun v s=>(PP T1 G X).aI false [some v] s) 191 [.ck (.g S.aa j) 0 n n 1]= .ok v s:=by
 subst hn
 have hr:=h.rd l.length l.length (Nat.le_refl _) (Nat.le_refl _)
 rw[List.take_length] at hr
 rw[aN (qD G X S _ l hr hb)]
 have hle:=jh l l.length
 obtain⟨v,h1,h2⟩:=m6 (S:=S) (j:=j) (off:=0) (cap:=l.length) (dz l) (n:=fA l l.length) (f9 l).symm h (by
  rw[bW,f9];simp [dz,List.map_take]) (by rw[f9];simpa using hle)
 exact⟨v,h2,jv hS _ _ h1⟩
theorem GC{s S:St}(hS:Child s S){j:Nat}{l:List Nat}(h:gj S j l)(n:Nat)(hn:n=l.length)(hb:l.length < 9223372036854775807)(w:AV)(hw:w.plain=true):∃v,Fz v (dz l)∧(PP T1 G X).aB S (fun v s=>(PP T1 G X).aI false [some v,some w] s) 191 [.ck (.g S.aa j) 0 n n 1]= .ok (.cS [v,w]) s:=by
 subst hn
 have hr:=h.rd l.length l.length (Nat.le_refl _) (Nat.le_refl _)
 rw[List.take_length] at hr
 rw[aN (qD G X S _ l hr hb)]
 have hle:=jh l l.length
 obtain⟨v,h1,h2⟩:=m6 (S:=S) (j:=j) (off:=0) (cap:=l.length) (dz l) (n:=fA l l.length) (f9 l).symm h (by
  rw[bW,f9];simp [dz,List.map_take]) (by rw[f9];simpa using hle)
 exact⟨v,h2,iB hS _ _ _ _ h1 (Ih hw)⟩
def jS(x y:Nat):Int:=if x < y then -1 else if y < x then 1 else 0
theorem Sr(s:St)(va vb:AV)(a b:List Nat)(ha:Rd s va a)(hb:Rd s vb b)(oa:bV a)(ob:bV b)(hl:a.length=b.length)(f8:a.length < 9223372036854775807)(S:St)(hS:Child s S):∀n k,k+n=a.length→val (a.drop n)=val (b.drop n)→
  yr (PP T1 G X) va vb (.int .i64 (a.length:Int)) (.int .i64 (k:Int)) S= .ok (.int .i64 (jS (val a) (val b))) s:=by
 intro n
 induction n with
 | zero=>
  intro k hk he
  have h:¬((k:Int) < (a.length:Int)):=by omega
  rw[BW _ (aA _ _ _)]
  simp only[↓cc,↓bb,↓reduceIte,decide_false,co,eq_false h,Oc _ (aA _ _ _)]
  simp only[bW] at he
  rw[lj hS,he]
  simp [jS]
 | succ n ih=>
  intro k hk he
  have h:(k:Int) < (a.length:Int):=by omega
  have ga:=fun(k:K1)=>(ha.vw hS.vw).get (T:=T1) (G:=G) (X:=X) .i64 n (by omega) k
  have gb:=fun(k:K1)=>(hb.vw hS.vw).get (T:=T1) (G:=G) (X:=X) .i64 n (by omega) k
  have ln:=fun(S:St) (k:K1)=>ha.len (T:=T1) (G:=G) (X:=X) k S
  have a1:=fun(S:St) (k:K1)=>ku (T:=T1) (G:=G) (X:=X) (s:=S) (k:=k) a.length (by omega) (by omega)
  have a2:=fun(S:St) (k':K1)=>pG (T:=T1) (G:=G) (X:=X) (s:=S) (k:=k') (a.length - 1) k (by omega) (by omega)
  have a3:=fun(S:St) (k':K1)=>qB (T:=T1) (G:=G) (X:=X) (s:=S) (k:=k') k (by omega)
  have en:a.length - 1 - k=n:=by omega
  simp only[en] at a2
  have da:=lO a n (by omega)
  have db:=lO b n (by omega)
  have sa:=jZ a n (by omega)
  have sb:=jZ b n (by omega)
  have la:=eK (a.take n) (oa.take n)
  have lb:=eK (b.take n) (ob.take n)
  have la':(a.take n).length=n:=by simp;omega
  have lb':(b.take n).length=n:=by simp;omega
  rw[la'] at la
  rw[lb'] at lb
  rw[BW _ (aA _ _ _)]
  simp only[↓cc,↓bb,↓reduceIte,decide_true,eq_true h]
  rw[Ob _ (aA _ _ _)]
  by_cases e:a.getD n 0=b.getD n 0
  ·have e':((a.getD n 0:Nat):Int)=((b.getD n 0:Nat):Int):=by omega
   simp only[↓cc,↓eO,↓reduceIte,decide_false,co,↓ln,↓a1,↓a2,↓ga,↓gb,e',not_true_eq_false]
   rw[Oa _ (aA _ _ _),a3]
   exact ih (k+1) (by omega) (by rw[da,db,e,he])
  ·have e':¬((a.getD n 0:Nat):Int)=((b.getD n 0:Nat):Int):=by omega
   by_cases e2:a.getD n 0 < b.getD n 0
   ·have e3:((a.getD n 0:Nat):Int) < ((b.getD n 0:Nat):Int):=by omega
    simp only[↓cc,↓eO,↓bb,↓reduceIte,decide_true,↓ln,↓a1,↓a2,↓ga,↓gb,eq_false e',not_false_eq_true,eq_true e3]
    rw[lj hS]
    have:val a < val b:=by
     rw[sa,sb]
     have h1:val (a.drop n)+1≤val (b.drop n):=by rw[da,db,he];omega
     have h2:=Nat.mul_le_mul_left (B ^ n) h1
     rw[Nat.mul_add,Nat.mul_one] at h2
     omega
    simp [jS,this]
   ·have e3:¬((a.getD n 0:Nat):Int) < ((b.getD n 0:Nat):Int):=by omega
    simp only[↓cc,↓eO,↓bb,↓reduceIte,decide_true,decide_false,co,↓ln,↓a1,↓a2,↓ga,↓gb,eq_false e',not_false_eq_true,eq_false e3,N9 _ (aA _ _ _)]
    rw[lj hS]
    have:val b < val a:=by
     rw[sa,sb]
     have h1:val (b.drop n)+1≤val (a.drop n):=by rw[da,db,he];omega
     have h2:=Nat.mul_le_mul_left (B ^ n) h1
     rw[Nat.mul_add,Nat.mul_one] at h2
     omega
    simp [jS,this,Nat.not_lt.2 (Nat.le_of_lt this)]
theorem an4(s:St)(va vb:AV)(a b:List Nat)(ha:Rd s va a)(hb:Rd s vb b)(oa:bV a)(ob:bV b)(ca:cN a)(cb:cN b)(f8:a.length < 9223372036854775807)(an5:b.length < 9223372036854775807):
  aJ T1 G X 189 [va,vb] s= .ok (.int .i64 (jS (val a) (val b))) s:=by
 rw[UR,alU]
 have ln:=fun(S:St) (k:K1)=>ha.len (T:=T1) (G:=G) (X:=X) k S
 have Xx:=fun(S:St) (k:K1)=>hb.len (T:=T1) (G:=G) (X:=X) k S
 by_cases e:a.length=b.length
 ·have e':(a.length:Int)=(b.length:Int):=by omega
  simp only[↓cc,↓eO,↓reduceIte,decide_false,co,↓ln,↓Xx,eq_true e',not_true_eq_false]
  rw[Od _ (aA _ _ _),ln]
  exact Sr G X s va vb a b ha hb oa ob e f8 s.ai (.ai s) a.length 0 (by omega) (by rw[List.drop_length,e,List.drop_length])
 ·have e':¬(a.length:Int)=(b.length:Int):=by omega
  by_cases e2:a.length < b.length
  ·have e3:(a.length:Int) < (b.length:Int):=by omega
   have:=m7 oa cb e2
   simp only[↓cc,↓eO,↓bb,↓b8,↓reduceIte,decide_true,↓ln,↓Xx,eq_false e',not_false_eq_true,eq_true e3]
   simp [jS,this]
  ·have e3:¬(a.length:Int) < (b.length:Int):=by omega
   have:=m7 ob ca (by omega:b.length < a.length)
   simp only[↓cc,↓eO,↓bb,↓b8,↓reduceIte,decide_true,decide_false,co,↓ln,↓Xx,eq_false e',not_false_eq_true,eq_false e3,N8 _ (aA _ _ _)]
   simp [jS,this,Nat.not_lt.2 (Nat.le_of_lt this)]
def bl(x:Nat):Nat:=if x=0 then 0 else x.log2+1
theorem aEs:∀x,x < 256→bl x≤8∧x < 2 ^ bl x∧(x≠0→2 ^ bl x≤2 * x):=by decide +kernel
theorem gS{s:St}{k:K1}(bs:List Nat)(kk:IntKind)(i n:Nat)(h:bs[i]? =some n):(PP T1 G X).cZ s k (.str bs) (.int kk (i:Int))=k (.int .u8 (n:Int)) s:=by
 show kR (EV G (aJ T1 G X) bX) s k (.str bs) (.int kk (i:Int))=_
 unfold kR
 simp only[iW,h]
 rfl
theorem CB(s:St)(x m:Nat)(hx:x < 256)(hm:m≤24):∃n:Nat,ul (PP T1 G X) (.int .u32 (x:Int)) (.int .i64 (m:Int)) s.ai= .ok (.int .i64 ((m+n:Nat):Int)) s∧n≤8∧x < 2 ^ n∧(x≠0→2 ^ n≤2 * x):=by
 obtain⟨h2,h3⟩:=aEs x hx
 refine⟨bl x,?_,h2,h3⟩
 have c8:∀(S:St) (k:K1),(PP T1 G X).bc S k .u8 (.int .u32 (x:Int))=k (.int .u8 (x:Int)) S:=fun S k=>by
  show k (.int .u8 (IntKind.wrap .u8 (x:Int))) S=_
  have:IntKind.wrap .u8 (x:Int)=(x:Int):=by
   unfold IntKind.wrap
   simp only[show IntKind.bits .u8=8 from rfl,show IntKind.signed .u8=false from rfl,Bool.false_and]
   show(x:Int) % 256=x
   omega
  rw[this]
 have c64:∀(S:St) (k:K1),(PP T1 G X).bc S k .i64 (.int .u8 (bl x:Int))=k (.int .i64 (bl x:Int)) S:=fun S k=>by
  show k (.int .i64 (IntKind.wrap .i64 (bl x:Int))) S=_
  rw[ie _ (by omega) (by omega)]
 have a1:=fun(S:St) (k:K1)=>iI (T:=T1) (G:=G) (X:=X) (s:=S) (k:=k) m (bl x) (by omega)
 rw[OY _ (aA _ _ _),c8]
 refine(gS G X _ _ x (bl x) ?_).trans ?_
 ·clear a1 c64 c8 h3 h2
  revert x
  decide +kernel
 ·rw[c64,a1,b8]
theorem an6(s:St)(x:Nat)(hx:x < 4294967296):∃n:Nat,aJ T1 G X 204 [U x] s= .ok (.int .i64 (n:Int)) s∧n≤32∧x < 2 ^ n∧(x≠0→2 ^ n≤2 * x):=by
 rw[U1,al7]
 have s16:=fun(S:St) (k:K1)=>wL (T:=T1) (G:=G) (X:=X) (s:=S) (k:=k) .u64 x 16 (by omega)
 have j1:∀y m:Nat,y < 65536→m≤16→∃n:Nat,si (PP T1 G X) (.int .u32 (y:Int)) (.int .i64 (m:Int)) s.ai= .ok (.int .i64 ((m+n:Nat):Int)) s∧n≤16∧y < 2 ^ n∧(y≠0→2 ^ n≤2 * y):=fun y m hy hm=>by
  have s8:=fun(S:St) (k:K1)=>wL (T:=T1) (G:=G) (X:=X) (s:=S) (k:=k) .u64 y 8 (by omega)
  have a8:=fun(S:St) (k:K1)=>iI (T:=T1) (G:=G) (X:=X) (s:=S) (k:=k) m 8 (by omega)
  rw[OZ _ (aA _ _ _)]
  by_cases c:256≤y
  ·have c':(256:Int)≤(y:Int):=by omega
   obtain⟨n,h1,h2,h3,h4⟩:=CB G X s (y / 2 ^ 8) (m+8) (by omega) (by omega)
   refine⟨n+8,?_,by omega,?_,fun h0=>?_⟩
   ·have e1:(PP T1 G X).ak s.ai (fun v10 s=>(PP T1 G X).ak s (fun v12 s=>ul (PP T1 G X) v10 v12 s) (au .add (.int .i64 (m:Int)) (.int .i64 8))) (au .shr (.int .u32 (y:Int)) (.int .u64 8))= .ok (.int .i64 ((m+(n+8):Nat):Int)) s:=by
     refine(s8 _ _).trans ?_
     refine(a8 _ _).trans ?_
     rw[h1];congr 3;omega
    simp only[↓cc,↓gQ,↓reduceIte,decide_true,eq_true c',e1]
   ·rw[Nat.pow_add];omega
   ·rw[Nat.pow_add];omega
  ·have c':¬(256:Int)≤(y:Int):=by omega
   obtain⟨n,h1,h2,h3,h4⟩:=CB G X s y m (by omega) (by omega)
   refine⟨n,?_,by omega,h3,h4⟩
   simp only[↓cc,↓gQ,↓reduceIte,decide_false,co,eq_false c',h1]
 by_cases c:65536≤x
 ·have c':(65536:Int)≤(x:Int):=by omega
  obtain⟨n,h1,h2,h3,h4⟩:=j1 (x / 2 ^ 16) 16 (by omega) (by omega)
  refine⟨16+n,?_,by omega,?_,fun h0=>?_⟩
  ·have e1:(PP T1 G X).ak s.ai (fun v6 s=>si (PP T1 G X) v6 (.int .i64 16) s) (au .shr (.int .u32 (x:Int)) (.int .u64 16))= .ok (.int .i64 ((16+n:Nat):Int)) s:=by
    refine(s16 _ _).trans ?_
    exact h1
   simp only[↓cc,↓gQ,↓reduceIte,decide_true,eq_true c',e1]
   try rfl
  ·rw[Nat.pow_add];omega
  ·rw[Nat.pow_add];omega
 ·have c':¬(65536:Int)≤(x:Int):=by omega
  obtain⟨n,h1,h2,h3,h4⟩:=j1 x 0 (by omega) (by omega)
  refine⟨n,?_,by omega,h3,h4⟩
  rw[Nat.zero_add] at h1
  have nk:si (PP T1 G X) (.int .u32 (x:Int)) (.int .i64 0) s.ai= .ok (.int .i64 (n:Int)) s:=h1
  simp only[↓cc,↓gQ,↓reduceIte,decide_false,co,eq_false c',nk]
theorem an7(s:St)(x:Nat)(hx:x < 4294967296)(h0:x≠0):∃c:Nat,aJ T1 G X 192 [U x] s= .ok (.int .i64 (c:Int)) s∧c < 32∧2147483648≤x * 2 ^ c∧x * 2 ^ c < 4294967296:=by
 obtain⟨n,h1,h2,h3,h4⟩:=an6 G X s.ai x hx
 have h5:=h4 h0
 have hn:n≠0:=fun e=>by subst e;omega
 have e32:2 ^ n * 2 ^ (32 - n)=4294967296:=by rw[←Nat.pow_add,show n+(32 - n)=32 by omega]
 refine⟨32 - n,?_,by omega,?_,?_⟩
 ·have a1:=fun(S:St) (k:K1)=>pG (T:=T1) (G:=G) (X:=X) (s:=S) (k:=k) 32 n h2 (by omega)
  rw[UU,alX,cD,aN h1]
  refine(a1 _ _).trans ?_
  rw[b8]
 ·have:=Nat.mul_le_mul_right (2 ^ (32 - n)) h5
  rw[Nat.mul_assoc] at this
  omega
 ·have:=Nat.mul_lt_mul_of_pos_right h3 (Nat.two_pow_pos (32 - n))
  omega
theorem Ss(s:St)(va:AV)(a:List Nat)(d:Nat)(ha:Rd s va a)(oa:bV a)(hd:d≠0)(hdB:d < 4294967296)(f8:a.length < 9223372036854775807)(j:Nat):∀n k rest out S,k+n=a.length→Child s S→gj S j out→out.length=a.length→bV out→rest < d→val (a.drop n)=val (out.drop n) * d+rest→
  ∃v q,yv (PP T1 G X) va (.int .u32 (d:Int)) (.ck (.l j) 0 a.length a.length 1) (.int .u64 (rest:Int)) (.int .i64 (a.length:Int)) (.int .i64 (k:Int)) S= .ok (.cS [v, .int .u32 ((val a % d:Nat):Int)]) s∧Fz v q∧bV q∧cN q∧val q=val a / d:=by
 intro n
 induction n with
 | zero=>
  intro k rest out S hk hS hj hl oo hr hv
  have h:¬((k:Int) < (a.length:Int)):=by omega
  have hrB:rest % 4294967296=rest:=by omega
  rw[BY _ (aA _ _ _)]
  simp only[↓cc,↓bb,↓iH,↓reduceIte,decide_false,co,eq_false h,Oj _ (aA _ _ _),fX,hrB]
  obtain⟨v,f1,f2⟩:=GC G X hS hj a.length hl.symm (by omega) (.int .u32 (rest:Int)) rfl
  simp only[bW] at hv
  refine⟨v,dz out,?_,f1,ig oo,fP out,?_⟩
  ·rw[f2,hv,Nat.mul_comm,Nat.mul_add_mod,Nat.mod_eq_of_lt hr]
  ·rw[im,hv,Nat.mul_comm,Nat.mul_add_div (by omega),Nat.div_eq_of_lt hr,Nat.add_zero]
 | succ n ih=>
  intro k rest out S hk hS hj hl oo hr hv
  have h:(k:Int) < (a.length:Int):=by omega
  obtain⟨q1,q2,q3,q4⟩:=Sp a out n d rest hd (by omega) hl oa oo hr hv
  have hx:=oa.getD n
  rw[lX] at q1 q2 q3 q4 hx
  have ga:=fun(k:K1)=>(ha.vw hS.vw).get (T:=T1) (G:=G) (X:=X) .i64 n (by omega) k
  have st:=fun x (k:K1)=>hj.st (T:=T1) (G:=G) (X:=X) n a.length a.length x (by omega) (by omega) k
  have ln:=fun(S:St) (k:K1)=>ha.len (T:=T1) (G:=G) (X:=X) k S
  have a1:=fun(S:St) (k:K1)=>ku (T:=T1) (G:=G) (X:=X) (s:=S) (k:=k) a.length (by omega) (by omega)
  have a2:=fun(S:St) (k':K1)=>pG (T:=T1) (G:=G) (X:=X) (s:=S) (k:=k') (a.length - 1) k (by omega) (by omega)
  have a3:=fun(S:St) (k':K1)=>qB (T:=T1) (G:=G) (X:=X) (s:=S) (k:=k') k (by omega)
  have en:a.length - 1 - k=n:=by omega
  simp only[en] at a2
  have er:rest * 4294967296 % 18446744073709551616=rest * 4294967296:=by omega
  have c1:=fun(S:St) (k:K1)=>fW (T:=T1) (G:=G) (X:=X) (s:=S) (k:=k) (a.getD n 0) hx
  have c2:=fun(S:St) (k:K1)=>fW (T:=T1) (G:=G) (X:=X) (s:=S) (k:=k) d hdB
  have o1:=fun(S:St) (k:K1)=>EP (T:=T1) (G:=G) (X:=X) (s:=S) (k:=k) rest (a.getD n 0) hx (by omega)
  have d1:=fun(S:St) (k:K1)=>C2 (T:=T1) (G:=G) (X:=X) (s:=S) (k:=k) (rest * 4294967296+a.getD n 0) d hd (by omega)
  have d2:=fun(S:St) (k:K1)=>J9 (T:=T1) (G:=G) (X:=X) (s:=S) (k:=k) (rest * 4294967296+a.getD n 0) d hd
  have em:(rest * 4294967296+a.getD n 0) / d % 4294967296=(rest * 4294967296+a.getD n 0) / d:=Nat.mod_eq_of_lt q1
  rw[BY _ (aA _ _ _)]
  simp only[↓cc,↓bb,↓reduceIte,decide_true,eq_true h]
  rw[Oi _ (aA _ _ _),ln,a1,a2,u9,er,ga,c1,o1,c2,d1,iH,em]
  simp only[cD]
  rw[st,c2,d2,Oh _ (aA _ _ _),a3]
  exact ih (k+1) _ _ _ (by omega) (hS.put _ _) (hj.put _) (by simp [hl]) q2 q3 q4
theorem an8(s:St)(va:AV)(a:List Nat)(d:Nat)(ha:Rd s va a)(oa:bV a)(hd:d≠0)(hdB:d < 4294967296)(f8:a.length < 4294967296):
  ∃v q,aJ T1 G X 190 [va,U d] s= .ok (.cS [v, .int .u32 ((val a % d:Nat):Int)]) s∧Fz v q∧bV q∧cN q∧val q=val a / d:=by
 rw[US,alV]
 have ln:=fun(S:St) (k:K1)=>ha.len (T:=T1) (G:=G) (X:=X) k S
 have AW:=fun(S:St) (k:K1)=>ow (T:=T1) (G:=G) (X:=X) (s:=S) (k:=k) (U 0) 4 a.length a.length (Nat.le_refl _) (by omega)
 rw[ln]
 refine Exists.imp (fun v h=>Exists.imp (fun q h=>?_) h) (Ss G X s va a d ha oa hd hdB (by omega) _ a.length 0 0 _ _ (by omega) ((Child.ai s).new (.cells (List.replicate a.length (U 0)))) (gj.make _ _) (by simp) (nE _) (by omega) (by rw[List.drop_length,List.drop_of_length_le (by simp)];simp [val]))
 refine⟨?_,h.2⟩
 refine(AW _ _).trans ?_
 rw[ln]
 exact h.1
theorem an9(a b:Nat)(ha:a < 4294967296)(hb:b < 4294967296):((BitVec.ofInt 32 (a:Int) ||| BitVec.ofInt 32 (b:Int)).toNat:Int)=((a ||| b:Nat):Int):=by
 rw[BitVec.toNat_or]
 simp only[BitVec.toNat_ofInt]
 congr 1
 have h1:(((a:Int) % ((2 ^ 32:Nat):Int))).toNat=a:=by omega
 have h2:(((b:Int) % ((2 ^ 32:Nat):Int))).toNat=b:=by omega
 rw[h1,h2]
theorem af4{s:St}{k:K1}(c y q p:Nat)(hc:c < 2 ^ p)(hy:y=q * 2 ^ p)(hq:q * 2 ^ p+c < 4294967296):(PP T1 G X).ak s k (au .or (.int .u32 (c:Int)) (.int .u32 (y:Int)))=k (.int .u32 ((c+y:Nat):Int)) s:=by
 subst hy
 have e:au .or (.int .u32 (c:Int)) (.int .u32 ((q * 2 ^ p:Nat):Int))=some (.int .u32 (IntKind.wrap .u32 ((BitVec.ofInt 32 (c:Int) ||| BitVec.ofInt 32 ((q * 2 ^ p:Nat):Int)).toNat:Int))):=by
  simp only[au,gV,↓reduceIte]
  rfl
 rw[e,an9 _ _ (by omega) (by omega),rA,wrap_u32]
 congr 2
 have:c ||| q * 2 ^ p=c+q * 2 ^ p:=by
  rw[Nat.or_comm,Nat.mul_comm,←Nat.two_pow_add_eq_or_of_lt hc,Nat.add_comm]
 rw[this]
 omega
theorem Su(s:St)(va:AV)(l:List Nat)(n:Nat)(ha:Rd s va l)(ol:bV l)(hn:n < 4294967296)(f8:l.length < 4294967296)(j N:Nat)(hN:N=l.length+n / 32+1):∀m i out S,i+m=l.length→Child s S→gj S j out→out.length=N→bV out→val (out.take (i+n / 32+1))=val (l.take i) * 2 ^ (32 * (n / 32)+n % 32)→out.getD (i+n / 32) 0 < 2 ^ (n % 32)→
  ∃v q,yz (PP T1 G X) va (.int .i64 (n:Int)) (.ck (.l j) 0 N N 1) (.int .i64 (l.length:Int)) (.int .i64 (i:Int)) S= .ok v s∧Fz v q∧bV q∧cN q∧val q=val l * 2 ^ n:=by
 intro m
 induction m with
 | zero=>
  intro i out S hi hS hj hl oo hv hc
  have h:¬((i:Int) < (l.length:Int)):=by omega
  rw[B0 _ (aA _ _ _)]
  simp only[↓cc,↓bb,↓reduceIte,decide_false,co,eq_false h,Ov _ (aA _ _ _),fX]
  obtain⟨v,f1,f2⟩:=aht G X hS hj N hl.symm (by omega)
  refine⟨v,dz out,f2,f1,ig oo,fP out,?_⟩
  have e1:i=l.length:=by omega
  rw[e1] at hv
  rw[im,←List.take_length (l:=out),hl,hN,hv,List.take_length,Nat.div_add_mod]
 | succ m ih=>
  intro i out S hi hS hj hl oo hv hc
  have h:(i:Int) < (l.length:Int):=by omega
  have hr:n % 32 < 32:=Nat.mod_lt _ (by omega)
  obtain⟨q,Ls,So⟩:=AT (l.getD i 0) (n % 32) hr
  have Sn:=AU (l.getD i 0) (n % 32) (ol.getD i) hr
  have lz:=GB l out i (n / 32) (n % 32) hr (by omega) (by omega) oo ol hv hc _ rfl _ rfl
  simp only[] at lz
  have hx:=ol.getD i
  have hB:B=4294967296:=rfl
  have h2r:2 ^ (n % 32)≤2 ^ 32:=Nat.pow_le_pow_right (by omega) (by omega)
  rw[hB] at Ls So Sn lz hx
  generalize Ij:l.getD i 0=x at *
  have ga:=fun(k:K1)=>(ha.vw hS.vw).get (T:=T1) (G:=G) (X:=X) .i64 i (by omega) k
  rw[Ij] at ga
  have c1:=fun(S:St) (k:K1)=>fW (T:=T1) (G:=G) (X:=X) (s:=S) (k:=k) x hx
  have r1:=fun(S:St) (k:K1)=>pW (T:=T1) (G:=G) (X:=X) (s:=S) (k:=k) n
  have q1:=fun(S:St) (k:K1)=>m5 (T:=T1) (G:=G) (X:=X) (s:=S) (k:=k) n (by omega)
  have s1:=fun(S:St) (k:K1)=>yj (T:=T1) (G:=G) (X:=X) (s:=S) (k:=k) .i64 x (n % 32) (by omega)
  have es:x * 2 ^ (n % 32) % 18446744073709551616=x * 2 ^ (n % 32):=Nat.mod_eq_of_lt Sn.2
  have a1:=fun(S:St) (k:K1)=>iI (T:=T1) (G:=G) (X:=X) (s:=S) (k:=k) i (n / 32) (by omega)
  have a2:=fun(S:St) (k:K1)=>gD G X S k (i+n / 32) (by omega)
  have a3:=fun(S:St) (k:K1)=>gD G X S k i (by omega)
  have g1:=fun(k:K1)=>hj.get (T:=T1) (G:=G) (X:=X) (i+n / 32) N N (by omega) (by omega) k
  have o1:=fun(S:St) (k:K1)=>af4 G X (s:=S) (k:=k) (out.getD (i+n / 32) 0) (x * 2 ^ (n % 32) % 4294967296) q (n % 32) hc Ls (by omega)
  have rC:=fun y (k:K1)=>hj.st (T:=T1) (G:=G) (X:=X) (i+n / 32) N N y (by omega) (by omega) k
  have AG:=hj.put (out.set (i+n / 32) (out.getD (i+n / 32) 0+x * 2 ^ (n % 32) % 4294967296))
  have Sv:=fun y (k:K1)=>AG.st (T:=T1) (G:=G) (X:=X) (i+n / 32+1) N N y (by simp;omega) (by omega) k
  have ehi:x * 2 ^ (n % 32) / 4294967296 % 4294967296=x * 2 ^ (n % 32) / 4294967296:=Nat.mod_eq_of_lt (by omega)
  have hj3:=AG.put ((out.set (i+n / 32) (out.getD (i+n / 32) 0+x * 2 ^ (n % 32) % 4294967296)).set (i+n / 32+1) (x * 2 ^ (n % 32) / 4294967296))
  have:=ih (i+1) _ _ (by omega) ((hS.put _ _).put _ _) hj3 (by simp [hl]) lz.1 lz.2.2.1 lz.2.2.2
  refine Exists.imp (fun v h2=>Exists.imp (fun q h3=>⟨?_,h3.2⟩) h2) this
  rw[B0 _ (aA _ _ _)]
  simp only[↓cc,↓bb,↓reduceIte,decide_true,eq_true h]
  rw[Ou _ (aA _ _ _),ga,c1,r1,s1,es,q1,a1,g1,iH,o1]
  simp only[cD]
  rw[rC,q1,a1,a2,vk,iH,ehi]
  simp only[cD]
  rw[Sv,Ot _ (aA _ _ _),a3]
  exact h3.1
theorem Sw(s:St)(va:AV)(l:List Nat)(n:Nat)(ha:Rd s va l)(ol:bV l)(hn:n < 4294967296)(f8:l.length < 4294967296):
  ∃v q,aJ T1 G X 193 [va, .int .i64 (n:Int)] s= .ok v s∧Fz v q∧bV q∧cN q∧val q=val l * 2 ^ n:=by
 rw[UW,alY]
 have ln:=fun(S:St) (k:K1)=>ha.len (T:=T1) (G:=G) (X:=X) k S
 have q1:=fun(S:St) (k:K1)=>m5 (T:=T1) (G:=G) (X:=X) (s:=S) (k:=k) n (by omega)
 have a1:=fun(S:St) (k:K1)=>iI (T:=T1) (G:=G) (X:=X) (s:=S) (k:=k) l.length (n / 32) (by omega)
 have a2:=fun(S:St) (k:K1)=>gD G X S k (l.length+n / 32) (by omega)
 have AW:=fun(S:St) (k:K1)=>ow (T:=T1) (G:=G) (X:=X) (s:=S) (k:=k) (U 0) 4 (l.length+n / 32+1) (l.length+n / 32+1) (Nat.le_refl _) (by omega)
 have rep:∀m i,(List.replicate m 0).getD i 0=0:=fun m i=>by
  simp only[List.getD,List.getElem?_replicate];split <;> rfl
 have l1:=Su G X s va l n ha ol hn f8 s.ai.own.length _ rfl l.length 0 _ _ (by omega) ((Child.ai s).new (.cells (List.replicate (l.length+n / 32+1) (U 0)))) (gj.make _ _) (by simp) (nE _) (by rw[List.take_replicate,Gy];simp [val]) (by rw[rep];exact Nat.two_pow_pos _)
 refine Exists.imp (fun v h2=>Exists.imp (fun q h3=>⟨?_,h3.2⟩) h2) l1
 rw[ln,q1,a1,a2]
 refine(AW _ _).trans ?_
 rw[ln]
 exact h3.1
end Go.jY
end
section
namespace Go.iY
def n7(a b:Nat):Nat:=(((a:Int) - (b:Int)) % 18446744073709551616).toNat
theorem I5(u p c:Nat)(hu:u < 4294967296)(hp:p < 4294967296)(hc:c≤4294967296)(hpc:p+c≤4294967296):n7 (n7 u p) c % 4294967296+p+c=u+4294967296 * (n7 (n7 u p) c / 9223372036854775808)∧n7 (n7 u p) c / 9223372036854775808≤1:=by
 unfold n7
 omega
theorem GD(l:List Nat)(j i:Nat):(l.drop j).getD i 0=l.getD (j+i) 0:=by simp [List.getD,List.getElem?_drop]
def eQ(l:List Nat)(j i:Nat):Nat:=val ((l.drop j).take i)
theorem I6(l:List Nat)(j:Nat):eQ l j 0=0:=by simp [eQ,val]
theorem gf(l:List Nat)(j i:Nat)(h:j+i < l.length):eQ l j (i+1)=eQ l j i+B ^ i * l.getD (j+i) 0:=by
 unfold eQ
 rw[val_succ _ i (by simp;omega),GD]
theorem zR(l:List Nat)(j i k x:Nat)(h:j+i≤k):eQ (l.set k x) j i=eQ l j i:=by
 unfold eQ
 rw[List.drop_set]
 split
 ·rfl
 ·rw[nF (by omega)]
theorem Lt(vs:List Nat)(i:Nat):eQ vs 0 i=val (vs.take i):=by simp [eQ]
theorem zS(l:List Nat)(j n:Nat)(h:j+n≤l.length):val (l.drop j)=eQ l j n+B ^ n * val (l.drop (j+n)):=by
 have:=jZ (l.drop j) n (by simp;omega)
 rw[this,List.drop_drop]
 rfl
theorem zT(l:List Nat)(j i:Nat)(h:bV l):eQ l j i < B ^ i:=by
 have:=eK ((l.drop j).take i) ((h.drop j).take i)
 have h2:((l.drop j).take i).length≤i:=by simp;omega
 exact Nat.lt_of_lt_of_le this (jH h2)
theorem Xy(us hH vs:List Nat)(j i q carry dZ:Nat)(hq:q < B)(hi:i < vs.length)(hj:j+i < us.length)(ov:bV vs)(ou:bV us)(hc:carry < B)(hb:dZ≤1)(Mv:us.getD (j+i) 0=hH.getD (j+i) 0)(hl:us.length=hH.length)
  (hv:eQ us j i+q * eQ vs 0 i=eQ hH j i+(carry+dZ) * B ^ i):
  let p:=q * vs.getD i 0+carry
  let t:=n7 (n7 (us.getD (j+i) 0) (p % B)) dZ
  p < 18446744073709551616∧p / B < B∧t / 9223372036854775808≤1∧t % B < B∧bV (us.set (j+i) (t % B))∧eQ (us.set (j+i) (t % B)) j (i+1)+q * eQ vs 0 (i+1)=eQ hH j (i+1)+(p / B+t / 9223372036854775808) * B ^ (i+1):=by
 have hvi:=ov.getD i
 have hp:q * vs.getD i 0+carry < B * B:=by
  have h1:q * vs.getD i 0≤(B - 1) * (B - 1):=Nat.mul_le_mul (by omega) (by omega)
  have h2:(B - 1) * (B - 1)+B≤B * B:=by decide
  omega
 have hBB:B * B=18446744073709551616:=by decide
 have hd:=I5 (us.getD (j+i) 0) ((q * vs.getD i 0+carry) % B) dZ (ou.getD _) (Nat.mod_lt _ gR) (by have:=lX;omega) (by have:=Nat.mod_lt (q * vs.getD i 0+carry) gR;rw[lX] at this ⊢;omega)
 have htB:n7 (n7 (us.getD (j+i) 0) ((q * vs.getD i 0+carry) % B)) dZ % B < B:=Nat.mod_lt _ gR
 refine⟨by omega,by rw[Nat.div_lt_iff_lt_mul gR];exact hp,hd.2,htB,ou.set _ _ htB,?_⟩
 rw[gf _ _ _ (by simpa using hj),zR _ _ _ _ _ (Nat.le_refl _),fj hj,gf vs 0 i (by omega),gf hH j i (by omega),Nat.zero_add,←Mv]
 have hm:=Nat.mod_add_div (q * vs.getD i 0+carry) B
 rw[←lX] at hd
 generalize n7 (n7 (us.getD (j+i) 0) ((q * vs.getD i 0+carry) % B)) dZ=t at *
 generalize t / 9223372036854775808=b2 at *
 generalize t % B=y at *
 generalize hpB:(q * vs.getD i 0+carry) % B=pl at *
 generalize (q * vs.getD i 0+carry) / B=ph at *
 generalize us.getD (j+i) 0=u at *
 have key:y+q * vs.getD i 0+carry+dZ=u+(ph+b2) * B:=by
  rw[Nat.add_mul,Nat.mul_comm ph B,Nat.mul_comm b2 B];omega
 have k2:B ^ i * (y+q * vs.getD i 0+carry+dZ)=B ^ i * (u+(ph+b2) * B):=by rw[key]
 have e1:B ^ i * (y+q * vs.getD i 0+carry+dZ)=B ^ i * y+q * (B ^ i * vs.getD i 0)+(carry+dZ) * B ^ i:=by
  rw[show y+q * vs.getD i 0+carry+dZ=y+(q * vs.getD i 0+(carry+dZ)) from by omega,Nat.mul_add,Nat.mul_add,Nat.mul_left_comm,Nat.mul_comm (B ^ i) (carry+dZ)];omega
 have e2:B ^ i * (u+(ph+b2) * B)=B ^ i * u+(ph+b2) * B ^ (i+1):=by
  rw[Nat.mul_add,Nat.pow_succ,Nat.mul_left_comm]
 rw[e1,e2] at k2
 rw[Nat.mul_add]
 generalize (ph+b2) * B ^ (i+1)=z1 at *
 generalize (carry+dZ) * B ^ i=z2 at *
 generalize q * (B ^ i * vs.getD i 0)=z3 at *
 generalize q * eQ vs 0 i=z4 at *
 omega
theorem Xz(us hH vs:List Nat)(j i carry:Nat)(hi:i < vs.length)(hj:j+i < us.length)(ov:bV vs)(ou:bV us)(hc:carry≤1)(Mv:us.getD (j+i) 0=hH.getD (j+i) 0)(hl:us.length=hH.length)
  (hv:eQ us j i+carry * B ^ i=eQ hH j i+eQ vs 0 i):
  let t:=us.getD (j+i) 0+vs.getD i 0+carry
  t < 18446744073709551616∧t / B≤1∧bV (us.set (j+i) (t % B))∧eQ (us.set (j+i) (t % B)) j (i+1)+t / B * B ^ (i+1)=eQ hH j (i+1)+eQ vs 0 (i+1):=by
 have hvi:=ov.getD i
 have hui:=ou.getD (j+i)
 have hB:=lX
 have htB:(us.getD (j+i) 0+vs.getD i 0+carry) % B < B:=Nat.mod_lt _ gR
 refine⟨by omega,?_,ou.set _ _ htB,?_⟩
 ·have:(us.getD (j+i) 0+vs.getD i 0+carry) / B < 2:=by rw[Nat.div_lt_iff_lt_mul gR];omega
  omega
 rw[gf _ _ _ (by simpa using hj),zR _ _ _ _ _ (Nat.le_refl _),fj hj,gf vs 0 i (by omega),gf hH j i (by omega),Nat.zero_add,←Mv]
 have hm:=Nat.mod_add_div (us.getD (j+i) 0+vs.getD i 0+carry) B
 generalize (us.getD (j+i) 0+vs.getD i 0+carry) % B=y at *
 generalize (us.getD (j+i) 0+vs.getD i 0+carry) / B=c2 at *
 generalize us.getD (j+i) 0=u at *
 generalize vs.getD i 0=v at *
 have k2:B ^ i * (y+B * c2)=B ^ i * (u+v+carry):=by rw[hm]
 have e1:B ^ i * (y+B * c2)=B ^ i * y+c2 * B ^ (i+1):=by rw[Nat.mul_add,Nat.pow_succ,Nat.mul_comm c2,Nat.mul_assoc]
 have e2:B ^ i * (u+v+carry)=B ^ i * u+B ^ i * v+carry * B ^ i:=by rw[Nat.mul_add,Nat.mul_add,Nat.mul_comm carry]
 rw[e1,e2] at k2
 generalize c2 * B ^ (i+1)=z1 at *
 generalize carry * B ^ i=z2 at *
 omega
theorem Sx(U V q n U' V' u0 u1 u2 v1 v2:Nat)(hU:U=(u0 * B * B+u1 * B+u2) * B ^ n+U')(hV:V=(v1 * B+v2) * B ^ n+V')(hU':U' < B ^ n)(hV':V' < B ^ n)(Ik:B≤2 * v1)(hq:q < B)(h1:q * (v1 * B+v2)≤u0 * B * B+u1 * B+u2)(h2:∀q',q' < B→q' * (v1 * B+v2)≤u0 * B * B+u1 * B+u2→q'≤q)(cM:U < B * V):
  U / V≤q∧q≤U / V+1:=by
 have XA:0 < V:=by
  have:1≤v1:=by have:=gR;omega
  have h3:1 * B≤v1 * B:=Nat.mul_le_mul_right _ this
  have h4:1 * B ^ n≤(v1 * B+v2) * B ^ n:=Nat.mul_le_mul_right _ (by have:=gR;omega)
  have:=Nat.pow_pos (n:=n) gR
  omega
 constructor
 ·refine h2 _ (by rw[Nat.div_lt_iff_lt_mul XA];exact cM) ?_
  have h3:U / V * V≤U:=Nat.div_mul_le_self U V
  have h4:U / V * (v1 * B+v2) * B ^ n≤U / V * V:=by
   rw[Nat.mul_assoc];exact Nat.mul_le_mul_left _ (by omega)
  have h5:U / V * (v1 * B+v2) * B ^ n < (u0 * B * B+u1 * B+u2+1) * B ^ n:=by rw[Nat.add_mul _ 1,Nat.one_mul];omega
  have:=Nat.lt_of_mul_lt_mul_right h5
  omega
 ·have h3:q * V≤U+V:=by
   rw[hV,Nat.mul_add,←Nat.mul_assoc]
   have h4:q * (v1 * B+v2) * B ^ n≤(u0 * B * B+u1 * B+u2) * B ^ n:=Nat.mul_le_mul_right _ h1
   have h5:q * V'≤B * B ^ n:=Nat.mul_le_mul (Nat.le_of_lt hq) (Nat.le_of_lt hV')
   have h6:B * B ^ n≤(v1 * B+v2) * B ^ n:=by
    refine Nat.mul_le_mul_right _ ?_
    have:1 * B≤v1 * B:=Nat.mul_le_mul_right _ (by have:=gR;omega)
    omega
   omega
  have h7:q * V≤(U / V+1) * V+V:=by
   have:=Nat.div_add_mod U V
   have h8:=Nat.mod_lt U XA
   rw[Nat.add_mul,Nat.one_mul,Nat.mul_comm (U / V)]
   omega
  have h9:q * V < (U / V+2) * V:=by
   rw[hV,Nat.mul_add,←Nat.mul_assoc]
   have h4:q * (v1 * B+v2) * B ^ n≤(u0 * B * B+u1 * B+u2) * B ^ n:=Nat.mul_le_mul_right _ h1
   have h5:q * V'≤B * V':=Nat.mul_le_mul_right _ (Nat.le_of_lt hq)
   have h5b:B * V' < B * B ^ n:=Nat.mul_lt_mul_of_pos_left hV' gR
   have h6:B * B ^ n≤(v1 * B+v2) * B ^ n:=by
    refine Nat.mul_le_mul_right _ ?_
    have:1 * B≤v1 * B:=Nat.mul_le_mul_right _ (by have:=gR;omega)
    omega
   have YS:q * (v1 * B+v2) * B ^ n+q * V' < U+V:=by omega
   have CV:=Nat.div_add_mod U V
   have h8:=Nat.mod_lt U XA
   rw[←hV]
   have e:(U / V+2) * V=V * (U / V)+V+V:=by rw[Nat.add_mul,Nat.mul_comm (U / V)];omega
   rw[e]
   omega
  have:=Nat.lt_of_mul_lt_mul_right h9
  omega
end Go.iY
namespace Go.iY
theorem ahv(n w x R:Nat)(h:w+B ^ n * x=B ^ (n+1)+R)(hw:w < B ^ n)(hR:R < B ^ n):x=B∧w=R:=by
 rw[Nat.pow_succ] at h
 have hx:x=B:=by
  have h1:(w+B ^ n * x) / B ^ n=x:=by rw[Nat.add_mul_div_left _ _ (Nat.pow_pos gR),Nat.div_eq_of_lt hw,Nat.zero_add]
  have h2:(B ^ n * B+R) / B ^ n=B:=by rw[Nat.add_comm,Nat.add_mul_div_left _ _ (Nat.pow_pos gR),Nat.div_eq_of_lt hR,Nat.zero_add]
  rw[←h1,h,h2]
 subst hx
 exact⟨rfl,by omega⟩
theorem zU(vs:List Nat):val vs=eQ vs 0 vs.length:=by rw[Lt,List.take_length]
theorem Sy(x y r:Nat)(hr:r < 32)(hx:x < B):x % 2 ^ r+(x+B * y) / 2 ^ r % B * 2 ^ r=x+B * (y % 2 ^ r):=by
 have hP:=Nat.two_pow_pos r
 have hBQ:B=2 ^ r * 2 ^ (32 - r):=by rw[←Nat.pow_add,zQ];congr 1;omega
 generalize hQ:(2:Nat) ^ (32 - r)=Q at *
 generalize (2:Nat) ^ r=P at *
 have e1:(x+B * y) / P=x / P+Q * y:=by rw[hBQ,Nat.mul_assoc,Nat.add_mul_div_left _ _ hP]
 have hxP:x / P < Q:=by rw[Nat.div_lt_iff_lt_mul hP,Nat.mul_comm,←hBQ];exact hx
 have e2:Q * y=B * (y / P)+Q * (y % P):=by
  conv=>lhs;rw[←Nat.div_add_mod y P]
  rw[Nat.mul_add,hBQ,←Nat.mul_assoc,Nat.mul_comm Q P]
 have cM:x / P+Q * (y % P) < B:=by
  have h1:y % P+1≤P:=Nat.mod_lt _ hP
  have h2:=Nat.mul_le_mul_left Q h1
  rw[Nat.mul_add,Nat.mul_one,Nat.mul_comm Q P,←hBQ] at h2
  omega
 have e3:(x+B * y) / P % B=x / P+Q * (y % P):=by
  rw[e1,e2,show x / P+(B * (y / P)+Q * (y % P))=x / P+Q * (y % P)+B * (y / P) by omega,Nat.add_mul_mod_self_left,Nat.mod_eq_of_lt cM]
 rw[e3,Nat.add_mul,hBQ]
 have h4:=Nat.mod_add_div x P
 have e5:Q * (y % P) * P=P * Q * (y % P):=by rw[Nat.mul_comm,←Nat.mul_assoc]
 have e6:x / P * P=P * (x / P):=Nat.mul_comm _ _
 omega
theorem CC(l out:List Nat)(w i r:Nat)(hr:r < 32)(ol:bV l)(oo:bV out)(hi:i < out.length)(hl:w+i < l.length)(hv:val (out.take i) * 2 ^ r+l.getD w 0 % 2 ^ r=val ((l.drop w).take i)+B ^ i * (l.getD (w+i) 0 % 2 ^ r)):
  bV (out.set i ((l.getD (w+i) 0+B * l.getD (w+i+1) 0) / 2 ^ r % B))∧val ((out.set i ((l.getD (w+i) 0+B * l.getD (w+i+1) 0) / 2 ^ r % B)).take (i+1)) * 2 ^ r+l.getD w 0 % 2 ^ r=val ((l.drop w).take (i+1))+B ^ (i+1) * (l.getD (w+(i+1)) 0 % 2 ^ r):=by
 refine⟨oo.set _ _ (Nat.mod_lt _ gR),?_⟩
 have h1:=Sy (l.getD (w+i) 0) (l.getD (w+i+1) 0) r hr (ol.getD _)
 generalize hy:(l.getD (w+i) 0+B * l.getD (w+i+1) 0) / 2 ^ r % B=y at *
 have s1:=val_succ (out.set i y) i (by simpa using hi)
 have s2:=val_succ (l.drop w) i (by simp;omega)
 have g1:(out.set i y).getD i 0=y:=fj hi
 rw[GD] at s2
 rw[s1,s2,g1,nF (Nat.le_refl _),Nat.add_mul,Nat.pow_succ,←Nat.add_assoc w i 1]
 have h2:B ^ i * (l.getD (w+i) 0 % 2 ^ r+y * 2 ^ r)=B ^ i * (l.getD (w+i) 0+B * (l.getD (w+i+1) 0 % 2 ^ r)):=by rw[h1]
 rw[Nat.mul_add,Nat.mul_add,←Nat.mul_assoc,←Nat.mul_assoc] at h2
 omega
theorem I7(l:List Nat)(w:Nat)(ol:bV l)(h:w≤l.length):val l / B ^ w=val (l.drop w):=by
 have h1:=jZ l w h
 have h3:=eK (l.take w) (ol.take _)
 have h4:(l.take w).length=w:=by simp;omega
 rw[h4] at h3
 rw[h1,Nat.add_mul_div_left _ _ (Nat.pow_pos gR),Nat.div_eq_of_lt h3,Nat.zero_add]
theorem GF(l out:List Nat)(w r n:Nat)(hn:n=32 * w+r)(ol:bV l)(hw:w < l.length)(hv:val out * 2 ^ r+l.getD w 0 % 2 ^ r=val (l.drop w)):val out=val l / 2 ^ n:=by
 rw[hn,←GA,←Nat.div_div_eq_div_mul,I7 l w ol (by omega),←hv,Nat.mul_comm,Nat.mul_add_div (Nat.two_pow_pos _),Nat.div_eq_of_lt (Nat.mod_lt _ (Nat.two_pow_pos _)),Nat.add_zero]
theorem CD(l:List Nat)(n:Nat)(ol:bV l)(h:l.length≤n / 32):val l / 2 ^ n=0:=by
 apply Nat.div_eq_of_lt
 have h1:=eK l ol
 have h2:B ^ l.length≤B ^ (n / 32):=jH h
 have h3:(2:Nat) ^ n=B ^ (n / 32) * 2 ^ (n % 32):=by rw[GA,Nat.div_add_mod]
 have h4:B ^ (n / 32) * 1≤B ^ (n / 32) * 2 ^ (n % 32):=Nat.mul_le_mul_left _ (Nat.two_pow_pos _)
 omega
end Go.iY
end
section
namespace Go.jY
open Go.Ab Go.iY
variable(G:Nat→AV)(X:Nat→List AV→St→ax)
theorem aob{s:St}{k:K1}(c q:Nat)(hc:c < 4294967296)(hq:q < 4294967296):(PP T1 G X).ak s k (au .or (.int .u64 (c:Int)) (.int .u64 ((q * 4294967296:Nat):Int)))=k (.int .u64 ((c+4294967296 * q:Nat):Int)) s:=by
 have e:au .or (.int .u64 (c:Int)) (.int .u64 ((q * 4294967296:Nat):Int))=some (.int .u64 (IntKind.wrap .u64 ((BitVec.ofInt 64 (c:Int) ||| BitVec.ofInt 64 ((q * 4294967296:Nat):Int)).toNat:Int))):=by
  simp only[au,gV,↓reduceIte]
  rfl
 rw[e,Uy _ _ (by omega) (by omega),rA,kC]
 congr 2
 have:c ||| q * 4294967296=c+4294967296 * q:=by
  have h:=Nat.two_pow_add_eq_or_of_lt (i:=32) (b:=c) (by omega) q
  rw[Nat.or_comm,Nat.mul_comm]
  rw[show(4294967296:Nat)=2 ^ 32 from rfl,←h,Nat.add_comm]
 rw[this]
 omega
theorem GG(kk:IntKind)(a b:Int):∃c,∀(s:St) (k:K1),(PP T1 G X).ak s k (au .and (.int kk a) (.int kk b))=k (.int kk c) s:=by
 refine⟨kk.wrap (BitVec.ofInt kk.bits a &&& BitVec.ofInt kk.bits b).toNat,fun s k=>?_⟩
 rw[show au .and (.int kk a) (.int kk b)=some (.int kk (kk.wrap (BitVec.ofInt kk.bits a &&& BitVec.ofInt kk.bits b).toNat)) from by simp [au,gV]]
 rfl
theorem Sz(s:St)(va:AV)(l:List Nat)(n:Nat)(lost:Bool)(ha:Rd s va l)(ol:bV l)(hn:n < 4294967296)(f8:l.length < 4294967296)(hs:n / 32 < l.length)(j N:Nat)(hN:N=l.length - n / 32):∀m i out S,i+m=N→Child s S→gj S j out→out.length=N→bV out→
  val (out.take i) * 2 ^ (n % 32)+l.getD (n / 32) 0 % 2 ^ (n % 32)=val ((l.drop (n / 32)).take i)+B ^ i * (l.getD (n / 32+i) 0 % 2 ^ (n % 32))→
  ∃v q,uk (PP T1 G X) va (.int .i64 (n:Int)) (.int .i64 ((n / 32:Nat):Int)) (.bool lost) (.ck (.l j) 0 N N 1) (.int .i64 (N:Int)) (.int .i64 (i:Int)) S= .ok (.cS [v, .bool lost]) s∧Fz v q∧bV q∧cN q∧val q=val l / 2 ^ n:=by
 intro m
 induction m with
 | zero=>
  intro i out S hi hS hj hl oo hv
  have h:¬((i:Int) < (N:Int)):=by omega
  rw[B4 _ (aA _ _ _)]
  simp only[↓cc,↓bb,↓reduceIte,decide_false,co,eq_false h,OW _ (aA _ _ _),fX]
  obtain⟨v,f1,f2⟩:=GC G X hS hj N hl.symm (by omega) (.bool lost) rfl
  refine⟨v,dz out,f2,f1,ig oo,fP out,?_⟩
  rw[im]
  have e0:l.getD (n / 32+i) 0=0:=by simp only[List.getD];rw[List.getElem?_eq_none (by omega)];rfl
  rw[e0,Nat.zero_mod,Nat.mul_zero,Nat.add_zero,List.take_of_length_le (by omega),List.take_of_length_le (by simp;omega)] at hv
  exact GF l out (n / 32) (n % 32) n (Nat.div_add_mod n 32).symm ol hs hv
 | succ m ih=>
  intro i out S hi hS hj hl oo hv
  have h:(i:Int) < (N:Int):=by omega
  have hr:n % 32 < 32:=Nat.mod_lt _ (by omega)
  have lz:=CC l out (n / 32) i (n % 32) hr ol oo (by omega) (by omega) hv
  have hx:=ol.getD (n / 32+i)
  have hy:=ol.getD (n / 32+i+1)
  have hB:B=4294967296:=rfl
  rw[hB] at hx hy
  have ga:=fun(k:K1)=>(ha.vw hS.vw).get (T:=T1) (G:=G) (X:=X) .i64 (n / 32+i) (by omega) k
  have c1:=fun(S:St) (k:K1)=>fW (T:=T1) (G:=G) (X:=X) (s:=S) (k:=k) (l.getD (n / 32+i) 0) hx
  have c2:=fun(S:St) (k:K1)=>fW (T:=T1) (G:=G) (X:=X) (s:=S) (k:=k) (l.getD (n / 32+i+1) 0) hy
  have r1:=fun(S:St) (k:K1)=>pW (T:=T1) (G:=G) (X:=X) (s:=S) (k:=k) n
  have ln:=fun(S:St) (k:K1)=>ha.len (T:=T1) (G:=G) (X:=X) k S
  have a1:=fun(S:St) (k:K1)=>iI (T:=T1) (G:=G) (X:=X) (s:=S) (k:=k) i (n / 32) (by omega)
  have a2:=fun(S:St) (k:K1)=>gD G X S k (i+n / 32) (by omega)
  have a3:=fun(S:St) (k:K1)=>gD G X S k i (by omega)
  have ec:i+n / 32=n / 32+i:=Nat.add_comm _ _
  simp only[ec] at a1 a2
  have rC:=fun y (k:K1)=>hj.st (T:=T1) (G:=G) (X:=X) i N N y (by omega) (by omega) k
  have s1:=fun t (S:St) (k:K1)=>C3 (T:=T1) (G:=G) (X:=X) (s:=S) (k:=k) .i64 t (n % 32) (by omega)
  have this:=ih (i+1) _ _ (by omega) (hS.put _ _) (hj.put (out.set i ((l.getD (n / 32+i) 0+B * l.getD (n / 32+i+1) 0) / 2 ^ (n % 32) % B))) (by simp [hl]) lz.1 lz.2
  refine Exists.imp (fun v h2=>Exists.imp (fun q h3=>⟨?_,h3.2⟩) h2) this
  have j4:yE (PP T1 G X) va (.int .i64 (n:Int)) (.int .i64 ((n / 32:Nat):Int)) (.bool lost) (.ck (.l j) 0 N N 1) (.int .i64 (i:Int)) (.int .u64 ((l.getD (n / 32+i) 0+4294967296 * l.getD (n / 32+i+1) 0:Nat):Int)) (.int .i64 (N:Int)) (.int .i64 (i:Int)) S= .ok (.cS [v, .bool lost]) s:=by
   rw[OU _ (aA _ _ _),r1,s1,iH]
   simp only[cD]
   rw[rC,OT _ (aA _ _ _),a3]
   exact h3.1
  rw[B4 _ (aA _ _ _)]
  simp only[↓cc,↓bb,↓reduceIte,decide_true,eq_true h]
  rw[OV _ (aA _ _ _),a1,ga,c1,a1,a2,ln,bb,cc]
  by_cases cM:n / 32+i+1 < l.length
  ·have ga2:=fun(k:K1)=>(ha.vw hS.vw).get (T:=T1) (G:=G) (X:=X) .i64 (n / 32+i+1) cM k
   have o1:=fun(S:St) (k:K1)=>aob G X (s:=S) (k:=k) (l.getD (n / 32+i) 0) (l.getD (n / 32+i+1) 0) hx hy
   have es:l.getD (n / 32+i+1) 0 * 4294967296 % 18446744073709551616=l.getD (n / 32+i+1) 0 * 4294967296:=Nat.mod_eq_of_lt (by omega)
   rw[if_pos (by simp only[jV];omega),a1,a2,ga2,c2,u9,es,o1]
   exact j4
  ·rw[if_neg (by simp only[jV];omega)]
   have e0:l.getD (n / 32+i+1) 0=0:=by simp only[List.getD];rw[List.getElem?_eq_none (by omega)];rfl
   rw[e0,Nat.mul_zero,Nat.add_zero] at j4
   exact j4
theorem aoc(s:St)(va:AV)(l:List Nat)(n:Nat)(ha:Rd s va l)(ol:bV l)(hn:n < 4294967296)(f8:l.length < 4294967296):
  ∃v q lost,aJ T1 G X 196 [va, .int .i64 (n:Int)] s= .ok (.cS [v, .bool lost]) s∧Fz v q∧bV q∧cN q∧val q=val l / 2 ^ n:=by
 rw[UZ,al6]
 have ln:=fun(S:St) (k:K1)=>ha.len (T:=T1) (G:=G) (X:=X) k S
 have q1:=fun(S:St) (k:K1)=>m5 (T:=T1) (G:=G) (X:=X) (s:=S) (k:=k) n (by omega)
 by_cases hs:n / 32 < l.length
 ·have h:¬((l.length:Int)≤((n / 32:Nat):Int)):=by omega
  rw[q1,ln,gQ,cc,if_neg (by simpa using h)]
  have hC:=Child.ai s
  have I8:=ha.cut (n / 32) (by omega)
  have hlen:(l.take (n / 32)).length=n / 32:=by simp;omega
  have GH:=qD G X s.ai (mw va (n / 32)) (l.take (n / 32)) (I8.vw hC.vw) (by rw[hlen];omega)
  have aBN:=I8.cut (fA (l.take (n / 32)) (l.take (n / 32)).length) (jh _ _)
  have Xx:=fun(S:St) (k:K1)=>aBN.len (T:=T1) (G:=G) (X:=X) k S
  have a1:=fun(S:St) (k:K1)=>pG (T:=T1) (G:=G) (X:=X) (s:=S) (k:=k) l.length (n / 32) (by omega) (by omega)
  have AW:=fun(S:St) (k:K1)=>ow (T:=T1) (G:=G) (X:=X) (s:=S) (k:=k) (U 0) 4 (l.length - n / 32) (l.length - n / 32) (Nat.le_refl _) (by omega)
  have fin:∀lost,∃v q,(PP T1 G X).aV s.ai (fun v39 s=>(PP T1 G X).ak s (fun v41 s=>(PP T1 G X).kK s (fun v42 s=>(PP T1 G X).aV s (fun v44 s=>uk (PP T1 G X) va (.int .i64 (n:Int)) (.int .i64 ((n / 32:Nat):Int)) (.bool lost) v42 v44 (.int .i64 0) s) false v42) [.int .u32 0] 4 v41 v41) (au .sub v39 (.int .i64 ((n / 32:Nat):Int)))) false va= .ok (.cS [v, .bool lost]) s∧Fz v q∧bV q∧cN q∧val q=val l / 2 ^ n:=fun lost=>by
   have l2:=Sz G X s va l n lost ha ol hn f8 hs s.ai.own.length _ rfl (l.length - n / 32) 0 _ _ (by omega) (hC.new (.cells (List.replicate (l.length - n / 32) (U 0)))) (gj.make _ _) (by simp) (nE _) (by simp [val])
   refine Exists.imp (fun v h2=>Exists.imp (fun q h3=>⟨?_,h3.2⟩) h2) l2
   rw[ln,a1]
   refine(AW _ _).trans ?_
   rw[li]
   exact h3.1
  have ga:=fun(k:K1)=>(ha.vw hC.vw).get (T:=T1) (G:=G) (X:=X) .i64 (n / 32) hs k
  have r1:=fun(S:St) (k:K1)=>pW (T:=T1) (G:=G) (X:=X) (s:=S) (k:=k) n
  have s1:∀(S:St) (k:K1),(PP T1 G X).ak S k (au .shl (.int .u32 1) (.int .i64 ((n % 32:Nat):Int)))=k (.int .u32 ((1 * 2 ^ (n % 32) % 4294967296:Nat):Int)) S:=fun S k=>Ux .i64 1 (n % 32) (by omega)
  obtain⟨c,hc⟩:=GG G X .u32 ((l.getD (n / 32) 0:Nat):Int) (IntKind.wrap .u32 (((1 * 2 ^ (n % 32) % 4294967296:Nat):Int) - 1))
  have sl:=fun(k:K1) (S:St)=>ha.slice (T:=T1) (G:=G) (X:=X) (n / 32) (by omega) k S
  rw[OX _ (aA _ _ _),sl,(I8.av _),aN GH,Xx,dV]
  by_cases h0:(0:Int) < (((l.take (n / 32)).take (fA (l.take (n / 32)) (l.take (n / 32)).length)).length:Int)
  ·obtain⟨v,q,h1,h2⟩:=fin true
   refine⟨v,q,true,?_,h2⟩
   simp only[↓nB,↓Y4,↓reduceIte,decide_true,eq_true h0]
   simpa only using h1
  ·obtain⟨v,q,h1,h2⟩:=fin (decide (¬c=0))
   refine⟨v,q,decide (¬c=0),?_,h2⟩
   simp only[↓nB,↓Y4,↓eO,↓reduceIte,decide_false,co,eq_false h0,↓ga,↓r1,↓s1,↓qv,↓hc]
   simpa only using h1
 ·have h:(l.length:Int)≤((n / 32:Nat):Int):=by omega
  refine⟨.sl 1 [] .nil,[],decide ((0:Int) < (l.length:Int)),?_,Fz.nil,(fun x (h:x∈[])=>absurd h oR:bV []),(fun h=>absurd rfl h:cN []),?_⟩
  ·rw[q1,ln,gQ,cc,if_pos (by simpa using h),ln,dV]
   exact iB (.ai s) _ _ _ _ rfl rfl
  ·rw[CD l n ol (by omega)];rfl
structure Est (q X Y:Nat):Prop where
 lt:q < B
 le:q * Y≤X
 max:∀q',q' < B→q' * Y≤X→q'≤q
theorem aoe(q:Nat)(h:0 < q)(h2:q < 18446744073709551616):qX q 1=q - 1:=by unfold qX;omega
theorem SA(s:St)(vu vv:AV)(us vs:List Nat)(j:Nat)(hu:Rd s vu us)(hv:Rd s vv vs)(ou:bV us)(ov:bV vs)(hn:2≤vs.length)(hj:j+vs.length < us.length)(f8:us.length < 4294967296)
  (Ik:B≤2 * vs.getD (vs.length - 1) 0)(hu0:us.getD (j+vs.length) 0≤vs.getD (vs.length - 1) 0)(S:St)(hS:Child s S):∀(m q r:Nat),r+m=B→0 < m→
  q * vs.getD (vs.length - 1) 0+r=us.getD (j+vs.length) 0 * B+us.getD (j+vs.length - 1) 0→
  (∀q',q' < B→q' * (vs.getD (vs.length - 1) 0 * B+vs.getD (vs.length - 2) 0)≤us.getD (j+vs.length) 0 * B * B+us.getD (j+vs.length - 1) 0 * B+us.getD (j+vs.length - 2) 0→q'≤q)→
  ∃q2:Nat,yC (PP T1 G X) vu (.int .i64 (j:Int)) vv (.int .i64 (vs.length:Int)) (.int .u64 (q:Int)) (.int .u64 (r:Int)) S= .ok (.int .u64 (q2:Int)) s∧
   Est q2 (us.getD (j+vs.length) 0 * B * B+us.getD (j+vs.length - 1) 0 * B+us.getD (j+vs.length - 2) 0) (vs.getD (vs.length - 1) 0 * B+vs.getD (vs.length - 2) 0):=by
 have hB:=lX
 have x1:=ou.getD (j+vs.length)
 have x2:=ou.getD (j+vs.length - 1)
 have x3:=ou.getD (j+vs.length - 2)
 have y1:=ov.getD (vs.length - 1)
 have y2:=ov.getD (vs.length - 2)
 obtain⟨pu,pu1,pu2⟩:=(hu.vw hS.vw).ptr (T:=T1) (G:=G) (X:=X) .i64 (j+vs.length - 2) (by omega)
 obtain⟨pv,pv1,pv2⟩:=(hv.vw hS.vw).ptr (T:=T1) (G:=G) (X:=X) .i64 (vs.length - 2) (by omega)
 have po:=fun(k:K1)=>(hv.vw hS.vw).get (T:=T1) (G:=G) (X:=X) .i64 (vs.length - 1) (by omega) k
 have i1:=fun(S:St) (k:K1)=>ku (T:=T1) (G:=G) (X:=X) (s:=S) (k:=k) vs.length (by omega) (by have:=hu.len (T:=T1) (G:=G) (X:=X);omega)
 have i2:=fun(S:St) (k:K1)=>MV (T:=T1) (G:=G) (X:=X) (s:=S) (k:=k) vs.length (by omega) (by omega)
 have i3:=fun(S:St) (k:K1)=>iI (T:=T1) (G:=G) (X:=X) (s:=S) (k:=k) j vs.length (by omega)
 have i4:=fun(S:St) (k:K1)=>MV (T:=T1) (G:=G) (X:=X) (s:=S) (k:=k) (j+vs.length) (by omega) (by omega)
 generalize us.getD (j+vs.length) 0=u0 at *
 generalize us.getD (j+vs.length - 1) 0=u1 at *
 generalize us.getD (j+vs.length - 2) 0=u2 at *
 generalize vs.getD (vs.length - 1) 0=v1 at *
 generalize vs.getD (vs.length - 2) 0=v2 at *
 have cu:=fun(S:St) (k:K1)=>fW (T:=T1) (G:=G) (X:=X) (s:=S) (k:=k) u2 (by omega)
 have cv2:=fun(S:St) (k:K1)=>fW (T:=T1) (G:=G) (X:=X) (s:=S) (k:=k) v2 (by omega)
 have cv1:=fun(S:St) (k:K1)=>fW (T:=T1) (G:=G) (X:=X) (s:=S) (k:=k) v1 (by omega)
 intro m
 induction m using Nat.strongRecOn with
 | ind m ih=>
  intro q r hm kJ hq axL
  have hrB:r < B:=by omega
  have hX:u0 * B * B+u1 * B+u2=q * v1 * B+r * B+u2:=by
   rw[←Nat.add_mul,←Nat.add_mul,hq]
  have So:q≤B+1:=by
   have h1:u0 * B≤v1 * B:=Nat.mul_le_mul_right _ hu0
   have h2:q * v1 < (B+2) * v1:=by rw[Nat.add_mul,Nat.mul_comm B v1];omega
   have:=Nat.lt_of_mul_lt_mul_right h2
   omega
  have down:0 < q→(∀q',q' < B→q' * (v1 * B+v2)≤u0 * B * B+u1 * B+u2→q'≤q - 1)→∃q2:Nat,E7 (PP T1 G X) vu (.int .i64 (j:Int)) vv (.int .i64 (vs.length:Int)) (.int .u64 (q:Int)) (.int .u64 (r:Int)) S= .ok (.int .u64 (q2:Int)) s∧Est q2 (u0 * B * B+u1 * B+u2) (v1 * B+v2):=fun h0 aog=>by
   have hq3:(q - 1) * v1+(r+v1)=u0 * B+u1:=by
    have:(q - 1) * v1+v1=q * v1:=by rw[←Nat.succ_mul];congr 1;omega
    omega
   have er:(r+v1) % 18446744073709551616=r+v1:=Nat.mod_eq_of_lt (by omega)
   have e1:=aoe q h0 (by omega)
   rw[OM _ (aA _ _ _)]
   by_cases hb:B≤r+v1
   ·have gl:(4294967296:Int)≤((r+v1:Nat):Int):=by omega
    refine⟨q - 1,?_,?_,?_,aog⟩
    ·rw[ud,e1,i1,po,cv1,oz,er,gQ,cc,if_pos (by simpa using gl),B3 _ (aA _ _ _)]
     exact lj hS _ _
    ·
     by_cases h5:q≤B
     ·omega
     ·exfalso
      have h6:q=B+1:=by omega
      rw[h6,Nat.add_mul,Nat.one_mul] at hq
      have h1:u0 * B≤v1 * B:=Nat.mul_le_mul_right _ hu0
      rw[Nat.mul_comm v1 B] at h1
      omega
    ·rw[hX]
     have h5:q - 1≤B:=by omega
     have h6:(q - 1) * v2≤B * B:=Nat.mul_le_mul h5 (by omega)
     have h7:B * B≤(r+v1) * B:=Nat.mul_le_mul_right _ hb
     have h8:(q - 1) * (v1 * B+v2)=(q - 1) * v1 * B+(q - 1) * v2:=by rw[Nat.mul_add,Nat.mul_assoc]
     have h9:(q - 1) * v1 * B+(r+v1) * B=q * v1 * B+r * B:=by rw[←Nat.add_mul,hq3,←hq,Nat.add_mul]
     omega
   ·have gl:¬(4294967296:Int)≤((r+v1:Nat):Int):=by omega
    have GI:0 < v1:=by omega
    obtain⟨q2,h1,h2⟩:=ih (B - (r+v1)) (by omega) (q - 1) (r+v1) (by omega) (by omega) hq3 aog
    refine⟨q2,?_,h2⟩
    rw[ud,e1,i1,po,cv1,oz,er,gQ,cc,if_neg (by simpa using gl)]
    exact h1
  rw[ON _ (aA _ _ _)]
  by_cases c:B≤q
  ·have c':(4294967296:Int)≤(q:Int):=by omega
   obtain⟨q2,h1,h2⟩:=down (by omega) (fun q' h _=>by omega)
   refine⟨q2,?_,h2⟩
   simp only[↓gQ,↓cc,↓J5,↓EL,eq_true c',decide_true,Bool.true_eq_false,↓reduceIte,h1]
  ·have c':¬(4294967296:Int)≤(q:Int):=by omega
   have hqv:q * v2 < 18446744073709551616:=by
    have:q * v2≤B * B:=Nat.mul_le_mul (by omega) (by omega)
    have h3:q * v2≤(B - 1) * (B - 1):=Nat.mul_le_mul (by omega) (by omega)
    have h4:(B - 1) * (B - 1) < 18446744073709551616:=by decide
    omega
   have em:q * v2 % 18446744073709551616=q * v2:=Nat.mod_eq_of_lt hqv
   have es:r * 4294967296 % 18446744073709551616=r * 4294967296:=Nat.mod_eq_of_lt (by omega)
   have o1:=fun(S:St) (k:K1)=>EP (T:=T1) (G:=G) (X:=X) (s:=S) (k:=k) r u2 (by omega) (by omega)
   have hY:q * (v1 * B+v2)=q * v1 * B+q * v2:=by rw[Nat.mul_add,Nat.mul_assoc]
   have nr:=fun(S:St) (k:K1)=>u9 (T:=T1) (G:=G) (X:=X) (s:=S) (k:=k) r
   rw[es] at nr
   have vN:=fun(S:St) (k:K1)=>J8 (T:=T1) (G:=G) (X:=X) (s:=S) (k:=k) q v2
   rw[em] at vN
   by_cases d:r * 4294967296+u2 < q * v2
   ·have d':((r * 4294967296+u2:Nat):Int) < ((q * v2:Nat):Int):=by omega
    have h0:0 < q:=by
     rcases Nat.eq_zero_or_pos q with e | e
     ·subst e;omega
     ·exact e
    obtain⟨q2,h1,h2⟩:=down h0 (fun q' h h5=>by
     have h6:=axL q' h h5
     rcases Nat.lt_or_ge q' q with h7 | h7
     ·omega
     ·have:q'=q:=by omega
      subst this
      rw[hX,hY,lX] at h5
      rw[lX] at *
      omega)
    refine⟨q2,?_,h2⟩
    simp only[↓gQ,↓dV,↓cc,↓J5,↓EL,eq_false c',decide_false,↓reduceIte,co,↓i2,↓pv1,↓pv2,↓cv2,↓vN,↓nr,↓i3,↓i4,↓pu1,↓pu2,↓cu,↓o1,decide_true,eq_true d',h1]
   ·have d':¬((r * 4294967296+u2:Nat):Int) < ((q * v2:Nat):Int):=by omega
    refine⟨q,?_,by omega,?_,axL⟩
    ·simp only[↓gQ,↓dV,↓cc,↓J5,↓EL,eq_false c',decide_false,↓reduceIte,co,↓i2,↓pv1,↓pv2,↓cv2,↓vN,↓nr,↓i3,↓i4,↓pu1,↓pu2,↓cu,↓o1,eq_false d',B3 _ (aA _ _ _)]
     exact lj hS _ _
    ·rw[hX,hY,lX] at *
     omega
theorem aoh(s:St)(vu vv:AV)(us vs:List Nat)(j:Nat)(hu:Rd s vu us)(hv:Rd s vv vs)(ou:bV us)(ov:bV vs)(hn:2≤vs.length)(hj:j+vs.length < us.length)(f8:us.length < 4294967296)
  (Ik:B≤2 * vs.getD (vs.length - 1) 0)(hu0:us.getD (j+vs.length) 0≤vs.getD (vs.length - 1) 0):
  ∃q2:Nat,aJ T1 G X 195 [vu, .int .i64 (j:Int),vv] s= .ok (.int .u64 (q2:Int)) s∧
   Est q2 (us.getD (j+vs.length) 0 * B * B+us.getD (j+vs.length - 1) 0 * B+us.getD (j+vs.length - 2) 0) (vs.getD (vs.length - 1) 0 * B+vs.getD (vs.length - 2) 0):=by
 have hB:=lX
 have hS:=Child.ai s
 have x1:=ou.getD (j+vs.length)
 have x2:=ou.getD (j+vs.length - 1)
 have y1:=ov.getD (vs.length - 1)
 have y2:=ov.getD (vs.length - 2)
 have x3:=ou.getD (j+vs.length - 2)
 have GI:vs.getD (vs.length - 1) 0≠0:=by omega
 have cM:us.getD (j+vs.length) 0 * B+us.getD (j+vs.length - 1) 0 < 18446744073709551616:=by rw[hB] at *;omega
 have l1:=SA G X s vu vv us vs j hu hv ou ov hn hj f8 Ik hu0 s.ai hS
  (B - (us.getD (j+vs.length) 0 * B+us.getD (j+vs.length - 1) 0) % vs.getD (vs.length - 1) 0) ((us.getD (j+vs.length) 0 * B+us.getD (j+vs.length - 1) 0) / vs.getD (vs.length - 1) 0) ((us.getD (j+vs.length) 0 * B+us.getD (j+vs.length - 1) 0) % vs.getD (vs.length - 1) 0)
  (by have:=Nat.mod_lt (us.getD (j+vs.length) 0 * B+us.getD (j+vs.length - 1) 0) (Nat.pos_of_ne_zero GI);omega) (by have:=Nat.mod_lt (us.getD (j+vs.length) 0 * B+us.getD (j+vs.length - 1) 0) (Nat.pos_of_ne_zero GI);omega)
  (by rw[Nat.mul_comm];exact Nat.div_add_mod _ _) (fun q' hq' h=>by
   rw[Nat.le_div_iff_mul_le (Nat.pos_of_ne_zero GI)]
   have h1:q' * vs.getD (vs.length - 1) 0 * B≤q' * (vs.getD (vs.length - 1) 0 * B+vs.getD (vs.length - 2) 0):=by rw[Nat.mul_add,Nat.mul_assoc];omega
   have h2:q' * vs.getD (vs.length - 1) 0 * B < (us.getD (j+vs.length) 0 * B+us.getD (j+vs.length - 1) 0+1) * B:=by rw[Nat.add_mul,Nat.add_mul,Nat.one_mul];omega
   have:=Nat.lt_of_mul_lt_mul_right h2
   omega)
 refine Exists.imp (fun q2 h2=>⟨?_,h2.2⟩) l1
 have h1:=h2.1
 have gu0:=fun(k:K1)=>(hu.vw hS.vw).get (T:=T1) (G:=G) (X:=X) .i64 (j+vs.length) (by omega) k
 have gu1:=fun(k:K1)=>(hu.vw hS.vw).get (T:=T1) (G:=G) (X:=X) .i64 (j+vs.length - 1) (by omega) k
 have po:=fun(k:K1)=>(hv.vw hS.vw).get (T:=T1) (G:=G) (X:=X) .i64 (vs.length - 1) (by omega) k
 have ln:=fun(S:St) (k:K1)=>hv.len (T:=T1) (G:=G) (X:=X) k S
 have i1:=fun(S:St) (k:K1)=>ku (T:=T1) (G:=G) (X:=X) (s:=S) (k:=k) vs.length (by omega) (by omega)
 have i3:=fun(S:St) (k:K1)=>iI (T:=T1) (G:=G) (X:=X) (s:=S) (k:=k) j vs.length (by omega)
 have i4:=fun(S:St) (k:K1)=>ku (T:=T1) (G:=G) (X:=X) (s:=S) (k:=k) (j+vs.length) (by omega) (by omega)
 rw[hB] at cM h1 x1 x2 y1
 clear Ik hu0 l1 h2 x3 y2
 generalize us.getD (j+vs.length) 0=u0 at *
 generalize us.getD (j+vs.length - 1) 0=u1 at *
 generalize vs.getD (vs.length - 1) 0=v1 at *
 have c0:=fun(S:St) (k:K1)=>fW (T:=T1) (G:=G) (X:=X) (s:=S) (k:=k) u0 (by omega)
 have c1:=fun(S:St) (k:K1)=>fW (T:=T1) (G:=G) (X:=X) (s:=S) (k:=k) u1 (by omega)
 have cv1:=fun(S:St) (k:K1)=>fW (T:=T1) (G:=G) (X:=X) (s:=S) (k:=k) v1 (by omega)
 have es:u0 * 4294967296 % 18446744073709551616=u0 * 4294967296:=by
  clear h1 cM gu0 gu1 po ln i1 i3 i4 c0 c1 cv1
  omega
 have o1:=fun(S:St) (k:K1)=>EP (T:=T1) (G:=G) (X:=X) (s:=S) (k:=k) u0 u1 (by omega) (by omega)
 have d1:=fun(S:St) (k:K1)=>C2 (T:=T1) (G:=G) (X:=X) (s:=S) (k:=k) (u0 * 4294967296+u1) v1 GI cM
 have d2:=fun(S:St) (k:K1)=>J9 (T:=T1) (G:=G) (X:=X) (s:=S) (k:=k) (u0 * 4294967296+u1) v1 GI
 rw[UY,al3,ln,i3,gu0,c0,u9,es,i3,i4,gu1,c1,o1,i1,po,cv1,d1,i1,po,cv1,d2]
 exact h1
theorem zV(s:St)(j:Nat)(a b:List Nat):(s.put j a).put j b=s.put j b:=by simp [St.put]
theorem qE(s:St)(j:Nat)(a:List Nat):(s.put j a).aa=s.aa:=rfl
theorem Lu{s:St}{ju:Nat}{us:List Nat}(h:gj s ju us)(i N x:Nat)(hi:i < us.length)(hN:i < N)(k:K1):(PP T1 G X).aX s.ai (fun v S=>(PP T1 G X).a7 S k 1 v (U x)) 1 (.ck (.g s.aa ju) 0 N N 1) (.int .i64 (i:Int))=k .dead (s.put ju (us.set i x)).ai:=by
 rw[qA _ _ _ _ _ _ _ hN,pV]
 have oK:(U x).fF=true:=rfl
 have hd:s.ai.aa=s.aa+1:=(Child.ai s).aa
 have kh:s.ai.get (.g s.aa ju)=some (.cells (us.map U)):=(Child.ai s).vw.2 _ _ _ (Nat.le_refl _) (by simpa [St.get,gj] using h)
 simp only[iS,oK,AV.cells,cP,eh,Nat.zero_add,Nat.beq_refl,Bool.and_self,cond_true]
 unfold lG
 rw[kh]
 simp only[Nat.mul_one,cP,eh,Nat.zero_add,show Nat.ble (i+1) (us.map U).length=true from dy (by simp;omega),show s.ai.iR (.g s.aa ju) [U x]=true from by simp [St.iR,AV.ba,AV.bo],List.all_cons,show(U x).dU=true from rfl,List.all_nil,Bool.and_self,cond_true]
 have hro:s.ro.length≤s.aa:=by unfold St.aa;omega
 have dm:s.ai.set (.g s.aa ju) (.cells ((us.map U).set i (U x)))=some (s.put ju (us.set i x)).ai:=by
  simp only[St.set,hd]
  rw[if_neg (by omega),if_pos ⟨by omega,hro⟩]
  simp [St.ai,St.put,List.map_set]
 show(match s.ai.set (.g s.aa ju) (.cells ((us.map U).set i (U x))) with | some s=>k .dead s | none=>.fail)=_
 rw[dm]
section
variable(s:St)(ju j N q:Nat)(hH vs:List Nat)(vv:AV)(h0:gj s ju hH)(hN:hH.length=N)(hv:Fz vv vs)(ov:bV vs)(hj:j+vs.length < N)(f8:N < 4294967296)
include h0 hN hv ov hj f8
theorem Dz(us:List Nat)(hl:us.length=N)(i:Nat)(hi:i < N)(k:K1):(PP T1 G X).aX (s.put ju us).ai (fun v S=>(PP T1 G X).aq S k none v) 1 (.ck (.g s.aa ju) 0 N N 1) (.int .i64 (i:Int))=k (U (us.getD i 0)) (s.put ju us).ai:=by
 have h1:=(h0.put us).rd N N (by omega) (Nat.le_refl _)
 rw[List.take_of_length_le (by omega)] at h1
 exact(h1.vw (Child.ai _).vw).get .i64 i (by omega) k
theorem SB(U:Nat)(GJ:List Nat)(ou1:bV GJ)(hq:0 < q)(hqB:q < B)(hV:U % val vs < val vs)(hU:eQ GJ j (vs.length+1)+val vs=B ^ (vs.length+1)+U % val vs):∀(m i:Nat) (us:List Nat) (carry:Nat),i+m=vs.length→us.length=N→bV us→GJ.length=N→carry≤1→(∀k,(k < j∨j+i≤k)→us.getD k 0=GJ.getD k 0)→eQ us j i+carry * B ^ i=eQ GJ j i+eQ vs 0 i→
  ∃kM,yB (PP T1 G X) (.ck (.g s.aa ju) 0 N N 1) (.int .i64 (j:Int)) vv (.int .u64 (q:Int)) (.int .u64 (carry:Int)) (.int .i64 (vs.length:Int)) (.int .i64 (i:Int)) (s.put ju us).ai= .ok (.int .u32 ((q - 1:Nat):Int)) (s.put ju kM)∧kM.length=N∧bV kM∧(∀k,(k < j∨j+vs.length < k)→kM.getD k 0=GJ.getD k 0)∧eQ kM j (vs.length+1)=U % val vs:=by
 have hB:=lX
 have lnv:=fun(S:St) (k:K1)=>(hv.rd s).len (T:=T1) (G:=G) (X:=X) k S
 intro m
 induction m with
 | zero=>
  intro i us carry hi hl ou AN hc zW hw
  have mn:i=vs.length:=by omega
  subst mn
  have h:¬((vs.length:Int) < (vs.length:Int)):=by omega
  have XB:us.getD (j+vs.length) 0=GJ.getD (j+vs.length) 0:=zW _ (.inr (Nat.le_refl _))
  have a1:=fun(S:St) (k:K1)=>iI (T:=T1) (G:=G) (X:=X) (s:=S) (k:=k) j vs.length (by omega)
  have ru:=fun(k:K1)=>Dz G X s ju j N hH vs vv h0 hN hv ov hj f8 us hl (j+vs.length) (by omega) k
  have st:=fun x (k:K1)=>Lu G X (h0.put us) (j+vs.length) N x (by omega) (by omega) k
  simp only[qE,zV] at st
  have e1:=aoe q hq (by omega)
  have e2:(q - 1) % 4294967296=q - 1:=Nat.mod_eq_of_lt (by omega)
  have ec:carry % 4294967296=carry:=Nat.mod_eq_of_lt (by omega)
  rw[←zU,gf GJ j vs.length (by omega)] at *
  have key:=ahv vs.length (eQ us j vs.length) (us.getD (j+vs.length) 0+carry) (U % val vs) (by
   rw[Nat.mul_add,XB,Nat.mul_comm _ carry];omega) (zT us j vs.length ou) (Nat.lt_trans hV (by have:=eK vs ov;exact this))
  refine⟨us.set (j+vs.length) ((us.getD (j+vs.length) 0+carry) % 4294967296),?_,by simpa using hl,ou.set _ _ (Nat.mod_lt _ (by decide)),fun k hk=>?_,?_⟩
  ·rw[B1 _ (aA _ _ _),bb,cc,if_neg (by simp),OI _ (aA _ _ _),lnv,a1,ru,iH,ec,agO]
   simp only[cD]
   rw[st,ud,e1,iH,e2,b8]
  ·exact(iY.getD_set_ne (by omega)).trans (zW k (by omega))
  ·have w1:=gf (us.set (j+vs.length) ((us.getD (j+vs.length) 0+carry) % 4294967296)) j vs.length (by simp;omega)
   have w2:(us.set (j+vs.length) ((us.getD (j+vs.length) 0+carry) % 4294967296)).getD (j+vs.length) 0=(us.getD (j+vs.length) 0+carry) % 4294967296:=iY.fj (by omega)
   rw[w1,w2,zR _ _ _ _ _ (Nat.le_refl _),key.1,key.2,←hB,Nat.mod_self,Nat.mul_zero,Nat.add_zero]
 | succ m ih=>
  intro i us carry hi hl ou AN hc zW hw
  have h:(i:Int) < (vs.length:Int):=by omega
  have fD:=Xz us GJ vs j i carry (by omega) (by omega) ov ou hc (zW _ (.inr (Nat.le_refl _))) (by omega) hw
  simp only[] at fD
  have x1:=ou.getD (j+i)
  have x2:=ov.getD i
  rw[hB] at x1 x2 fD
  have a1:=fun(S:St) (k:K1)=>iI (T:=T1) (G:=G) (X:=X) (s:=S) (k:=k) j i (by omega)
  have a3:=fun(S:St) (k:K1)=>gD G X S k i (by omega)
  have ru:=fun(k:K1)=>Dz G X s ju j N hH vs vv h0 hN hv ov hj f8 us hl (j+i) (by omega) k
  have rv:=fun(k:K1)=>(hv.rd (s.put ju us).ai).get (T:=T1) (G:=G) (X:=X) .i64 i (by omega) k
  have c1:=fun(S:St) (k:K1)=>fW (T:=T1) (G:=G) (X:=X) (s:=S) (k:=k) (us.getD (j+i) 0) x1
  have c2:=fun(S:St) (k:K1)=>fW (T:=T1) (G:=G) (X:=X) (s:=S) (k:=k) (vs.getD i 0) x2
  have st:=fun x (k:K1)=>Lu G X (h0.put us) (j+i) N x (by omega) (by omega) k
  simp only[qE,zV] at st
  have e1:(us.getD (j+i) 0+vs.getD i 0) % 18446744073709551616=us.getD (j+i) 0+vs.getD i 0:=Nat.mod_eq_of_lt (by omega)
  have e2:(us.getD (j+i) 0+vs.getD i 0+carry) % 18446744073709551616=us.getD (j+i) 0+vs.getD i 0+carry:=Nat.mod_eq_of_lt (by omega)
  have:=ih (i+1) (us.set (j+i) ((us.getD (j+i) 0+vs.getD i 0+carry) % 4294967296)) ((us.getD (j+i) 0+vs.getD i 0+carry) / 4294967296) (by omega) (by simpa using hl) fD.2.2.1 AN fD.2.1 (fun k hk=>(iY.getD_set_ne (by omega)).trans (zW k (by omega))) (by rw[hB];exact fD.2.2.2)
  refine Exists.imp (fun kM h2=>⟨?_,h2.2⟩) this
  rw[B1 _ (aA _ _ _),bb,cc,if_pos (by simpa using h),OH _ (aA _ _ _),a1,ru,c1,rv,c2,oz,e1,oz,e2,a1,iH]
  simp only[cD]
  rw[st,vk,OG _ (aA _ _ _),a3]
  exact h2.1
theorem SC(hn0:0 < vs.length)(o0:bV hH)(hqB:q < B)(hV:0 < val vs)(Ls:eQ hH j (vs.length+1) / val vs≤q)(So:q≤eQ hH j (vs.length+1) / val vs+1):∀(m i:Nat) (us:List Nat) (carry dZ:Nat),i+m=vs.length→us.length=N→bV us→carry < B→dZ≤1→(∀k,(k < j∨j+i≤k)→us.getD k 0=hH.getD k 0)→eQ us j i+q * eQ vs 0 i=eQ hH j i+(carry+dZ) * B ^ i→
  ∃kM,uj (PP T1 G X) (.ck (.g s.aa ju) 0 N N 1) (.int .i64 (j:Int)) vv (.int .u64 (q:Int)) (.int .u64 (carry:Int)) (.int .u64 (dZ:Int)) (.int .i64 (vs.length:Int)) (.int .i64 (i:Int)) (s.put ju us).ai= .ok (.int .u32 ((eQ hH j (vs.length+1) / val vs:Nat):Int)) (s.put ju kM)∧kM.length=N∧bV kM∧(∀k,(k < j∨j+vs.length < k)→kM.getD k 0=hH.getD k 0)∧eQ kM j (vs.length+1)=eQ hH j (vs.length+1) % val vs:=by
 have hB:=lX
 have lnv:=fun(S:St) (k:K1)=>(hv.rd s).len (T:=T1) (G:=G) (X:=X) k S
 intro m
 induction m with
 | zero=>
  intro i us carry dZ hi hl ou hc hb zW hw
  have mn:i=vs.length:=by omega
  subst mn
  have h:¬((vs.length:Int) < (vs.length:Int)):=by omega
  have XB:us.getD (j+vs.length) 0=hH.getD (j+vs.length) 0:=zW _ (.inr (Nat.le_refl _))
  have x1:=ou.getD (j+vs.length)
  rw[hB] at x1 hc
  have a1:=fun(S:St) (k:K1)=>iI (T:=T1) (G:=G) (X:=X) (s:=S) (k:=k) j vs.length (by omega)
  have ru:=fun(k:K1)=>Dz G X s ju j N hH vs vv h0 hN hv ov hj f8 us hl (j+vs.length) (by omega) k
  have c1:=fun(S:St) (k:K1)=>fW (T:=T1) (G:=G) (X:=X) (s:=S) (k:=k) (us.getD (j+vs.length) 0) x1
  have st:=fun x (k:K1)=>Lu G X (h0.put us) (j+vs.length) N x (by omega) (by omega) k
  simp only[qE,zV] at st
  have hd:=I5 (us.getD (j+vs.length) 0) carry dZ x1 hc (by omega) (by omega)
  have eu:qX (qX (us.getD (j+vs.length) 0) carry) dZ=n7 (n7 (us.getD (j+vs.length) 0) carry) dZ:=rfl
  rw[←zU] at hw
  have ws0:=gf hH j vs.length (by omega)
  have gs:∀x,eQ (us.set (j+vs.length) x) j (vs.length+1)=eQ us j vs.length+B ^ vs.length * x:=fun x=>by
   have w1:=gf (us.set (j+vs.length) x) j vs.length (by simp;omega)
   have w2:(us.set (j+vs.length) x).getD (j+vs.length) 0=x:=iY.fj (by omega)
   rw[w1,w2,zR _ _ _ _ _ (Nat.le_refl _)]
  have o2:bV (us.set (j+vs.length) (n7 (n7 (us.getD (j+vs.length) 0) carry) dZ % 4294967296)):=ou.set _ _ (by rw[hB];exact Nat.mod_lt _ (by decide))
  have ag2:∀x k,(k < j∨j+vs.length < k)→(us.set (j+vs.length) x).getD k 0=hH.getD k 0:=fun x k hk=>(iY.getD_set_ne (by omega)).trans (zW k (by omega))
  have pre:uj (PP T1 G X) (.ck (.g s.aa ju) 0 N N 1) (.int .i64 (j:Int)) vv (.int .u64 (q:Int)) (.int .u64 (carry:Int)) (.int .u64 (dZ:Int)) (.int .i64 (vs.length:Int)) (.int .i64 (vs.length:Int)) (s.put ju us).ai
    = (PP T1 G X).aH (.bool (decide (((n7 (n7 (us.getD (j+vs.length) 0) carry) dZ / 9223372036854775808:Nat):Int)=0))) ((PP T1 G X).bc (s.put ju (us.set (j+vs.length) (n7 (n7 (us.getD (j+vs.length) 0) carry) dZ % 4294967296))).ai (fun v79 s=>(PP T1 G X).aI false [some v79] s) .u32 (.int .u64 (q:Int)))
     (E5 (PP T1 G X) (.ck (.g s.aa ju) 0 N N 1) (.int .i64 (j:Int)) vv (.int .u64 (q:Int)) (s.put ju (us.set (j+vs.length) (n7 (n7 (us.getD (j+vs.length) 0) carry) dZ % 4294967296))).ai):=by
   rw[B2 _ (aA _ _ _),bb,cc,if_neg (by simp),OL _ (aA _ _ _),lnv,a1,ru,c1,td,td,eu,lnv,a1,iH]
   simp only[cD]
   rw[st,IV,bj]
  rw[pre,cc]
  generalize n7 (n7 (us.getD (j+vs.length) 0) carry) dZ=t at *
  have hd2:=hd.2
  generalize rT:t / 9223372036854775808=b2 at *
  generalize hty:t % 4294967296=y at *
  have tot:eQ us j vs.length+B ^ vs.length * y+q * val vs=eQ hH j (vs.length+1)+b2 * B ^ (vs.length+1):=by
   rw[ws0,←XB]
   have k1:B ^ vs.length * (y+carry+dZ)=B ^ vs.length * (us.getD (j+vs.length) 0+B * b2):=by rw[hB,hd.1]
   have e1:B ^ vs.length * (y+carry+dZ)=B ^ vs.length * y+(carry+dZ) * B ^ vs.length:=by rw[Nat.add_assoc,Nat.mul_add,Nat.mul_comm _ (carry+dZ)]
   have e2:B ^ vs.length * (us.getD (j+vs.length) 0+B * b2)=B ^ vs.length * us.getD (j+vs.length) 0+b2 * B ^ (vs.length+1):=by rw[Nat.mul_add,Nat.pow_succ,←Nat.mul_assoc,Nat.mul_comm _ b2]
   rw[e1,e2] at k1
   omega
  rw[←gs] at tot
  have hdm:=Nat.div_add_mod (eQ hH j (vs.length+1)) (val vs)
  have vN:=Nat.mod_lt (eQ hH j (vs.length+1)) hV
  have wl:=zT (us.set (j+vs.length) y) j (vs.length+1) o2
  by_cases qj:b2=0
  ·have hqV:q * val vs≤eQ hH j (vs.length+1):=by rw[qj] at tot;omega
   have hqe:q=eQ hH j (vs.length+1) / val vs:=by
    have:=(Nat.le_div_iff_mul_le hV).2 hqV
    omega
   have eq4:q % 4294967296=q:=Nat.mod_eq_of_lt (by omega)
   refine⟨us.set (j+vs.length) y,?_,by simpa using hl,o2,ag2 y,?_⟩
   ·rw[if_pos (by rw[qj];decide),iH,eq4,b8,←hqe]
   ·rw[qj,hqe,Nat.mul_comm] at tot
    omega
  ·have HI:b2=1:=by omega
   rw[HI,Nat.one_mul] at tot
   have hqe:q=eQ hH j (vs.length+1) / val vs+1:=by
    have:¬q≤eQ hH j (vs.length+1) / val vs:=fun hle=>by
     have h5:q * val vs≤eQ hH j (vs.length+1):=by
      have:=Nat.mul_le_mul_right (val vs) hle
      rw[Nat.mul_comm (eQ hH j (vs.length+1) / val vs)] at this
      omega
     omega
    omega
   have l6:=SB G X s ju j N q hH vs vv h0 hN hv ov hj f8 (eQ hH j (vs.length+1)) (us.set (j+vs.length) y) o2 (by rw[hqe];exact Nat.succ_pos _) hqB vN (by
    rw[hqe,Nat.add_mul,Nat.one_mul,Nat.mul_comm (eQ hH j (vs.length+1) / val vs)] at tot
    omega) vs.length 0 (us.set (j+vs.length) y) 0 (by omega) (by simpa using hl) o2 (by simpa using hl) (by omega) (fun k _=>rfl) (by simp [I6])
   obtain⟨kM,g1,g2,g3,g4,g5⟩:=l6
   refine⟨kM,?_,g2,g3,fun k hk=>(g4 k hk).trans (ag2 y k hk),g5⟩
   rw[if_neg (by rw[HI];decide),OJ _ (aA _ _ _),lnv]
   have e3:q - 1=eQ hH j (vs.length+1) / val vs:=by rw[hqe];rfl
   rw[e3] at g1
   exact g1
 | succ m ih=>
  intro i us carry dZ hi hl ou hc hb zW hw
  have h:(i:Int) < (vs.length:Int):=by omega
  have fD:=Xy us hH vs j i q carry dZ hqB (by omega) (by omega) ov ou hc hb (zW _ (.inr (Nat.le_refl _))) (by omega) hw
  simp only[] at fD
  have x1:=ou.getD (j+i)
  have x2:=ov.getD i
  have a1:=fun(S:St) (k:K1)=>iI (T:=T1) (G:=G) (X:=X) (s:=S) (k:=k) j i (by omega)
  have a3:=fun(S:St) (k:K1)=>gD G X S k i (by omega)
  have ru:=fun(k:K1)=>Dz G X s ju j N hH vs vv h0 hN hv ov hj f8 us hl (j+i) (by omega) k
  have rv:=fun(k:K1)=>(hv.rd (s.put ju us).ai).get (T:=T1) (G:=G) (X:=X) .i64 i (by omega) k
  rw[hB] at x1 x2
  have c1:=fun(S:St) (k:K1)=>fW (T:=T1) (G:=G) (X:=X) (s:=S) (k:=k) (us.getD (j+i) 0) x1
  have c2:=fun(S:St) (k:K1)=>fW (T:=T1) (G:=G) (X:=X) (s:=S) (k:=k) (vs.getD i 0) x2
  have st:=fun x (k:K1)=>Lu G X (h0.put us) (j+i) N x (by omega) (by omega) k
  simp only[qE,zV] at st
  have ep:q * vs.getD i 0 % 18446744073709551616=q * vs.getD i 0:=Nat.mod_eq_of_lt (by have:=fD.1;omega)
  have ep2:(q * vs.getD i 0+carry) % 18446744073709551616=q * vs.getD i 0+carry:=Nat.mod_eq_of_lt fD.1
  have am:=fun(S:St) (k:K1)=>agP (T:=T1) (G:=G) (X:=X) (s:=S) (k:=k) (q * vs.getD i 0+carry) fD.1
  have eu:∀a b c,qX (qX a b) c=n7 (n7 a b) c:=fun _ _ _=>rfl
  have:=ih (i+1) _ _ _ (by omega) (by simpa using hl) fD.2.2.2.2.1 fD.2.1 fD.2.2.1 (fun k hk=>(iY.getD_set_ne (by omega)).trans (zW k (by omega))) fD.2.2.2.2.2
  refine Exists.imp (fun kM h2=>⟨?_,h2.2⟩) this
  have h3:=h2.1
  rw[hB] at h3
  rw[B2 _ (aA _ _ _),bb,cc,if_pos (by simpa using h),OF _ (aA _ _ _),rv,c2,J8,ep,oz,ep2,vk,a1,ru,c1,am,td,td,eu,a1,iH]
  simp only[cD]
  rw[st,IV,OE _ (aA _ _ _),a3]
  exact h3
end
end Go.jY
end
section
namespace Go.iY
theorem ahA(i j x y c:Nat)(hx:x % 2=1)(hy:y % 2=1)(hi:c≤i)(hj:c≤j)(h:c=i∨c=j):Nat.gcd (2 ^ i * x) (2 ^ j * y)=Nat.gcd x y * 2 ^ c:=by
 have cop:∀(z:Nat) (m:Nat),z % 2=1→Nat.Coprime z (2 ^ m):=fun z m hz=>by
  have:Nat.Coprime z 2:=by
   rw[Nat.coprime_comm]
   show Nat.gcd 2 z=1
   rw[Nat.gcd_rec,hz];rfl
  exact Nat.Coprime.pow_right m this
 have ei:2 ^ i * x=2 ^ c * (2 ^ (i - c) * x):=by rw[←Nat.mul_assoc,←Nat.pow_add];congr 2;omega
 have ej:2 ^ j * y=2 ^ c * (2 ^ (j - c) * y):=by rw[←Nat.mul_assoc,←Nat.pow_add];congr 2;omega
 rw[ei,ej,Nat.gcd_mul_left,Nat.mul_comm]
 congr 1
 rcases h with h | h
 ·rw[show i - c=0 by omega,Nat.pow_zero,Nat.one_mul]
  exact Nat.Coprime.gcd_mul_left_cancel_right y (cop x (j - c) hx).symm
 ·rw[show j - c=0 by omega,Nat.pow_zero,Nat.one_mul,Nat.gcd_comm,Nat.gcd_comm x y]
  exact Nat.Coprime.gcd_mul_left_cancel_right x (cop y (i - c) hy).symm
theorem Lv(u v n w:Nat)(hle:v≤u)(hv:v % 2=1)(hw:u - v=2 ^ n * w):Nat.gcd w v=Nat.gcd u v:=by
 have cop:Nat.Coprime v (2 ^ n):=by
  have:Nat.Coprime v 2:=by
   rw[Nat.coprime_comm]
   show Nat.gcd 2 v=1
   rw[Nat.gcd_rec,hv];rfl
  exact Nat.Coprime.pow_right n this
 have h1:Nat.gcd v (2 ^ n * w)=Nat.gcd v w:=Nat.Coprime.gcd_mul_left_cancel_right w cop.symm
 rw[Nat.gcd_comm w v,←h1,←hw,Nat.gcd_comm u v]
 have:u=(u - v)+v:=by omega
 conv=>rhs;rw[this]
 rw[Nat.gcd_add_self_right]
theorem ahB(x n:Nat)(h:2 ^ n ∣ x):x=2 ^ n * (x / 2 ^ n):=(Nat.mul_div_cancel' h).symm
theorem qF(x n:Nat)(h:2 ^ n ∣ x)(ho:x / 2 ^ n % 2=0):2 ^ (n+1) ∣ x:=by
 obtain⟨k,hk⟩:=h
 subst hk
 rw[Nat.mul_div_cancel_left _ (Nat.two_pow_pos n)] at ho
 obtain⟨m,hm⟩:=Nat.dvd_of_mod_eq_zero ho
 exact⟨m,by rw[hm,Nat.pow_succ,Nat.mul_assoc]⟩
theorem SD(x n:Nat)(hx:x≠0)(h:2 ^ n ∣ x):2 ^ n≤x:=Nat.le_of_dvd (by omega) h
theorem aol(l:List Nat)(ol:bV l)(i:Nat):l.getD (i / 32) 0 / 2 ^ (i % 32) % 2=val l / 2 ^ i % 2:=by
 by_cases h:i / 32 < l.length
 ·have h1:=jZ l (i / 32) (by omega)
  have h2:=lO l (i / 32) h
  have h3:=eK (l.take (i / 32)) (ol.take _)
  have h4:(l.take (i / 32)).length=i / 32:=by simp;omega
  rw[h4] at h3
  have e:(2:Nat) ^ i=B ^ (i / 32) * 2 ^ (i % 32):=by rw[GA,Nat.div_add_mod]
  have e2:val l / B ^ (i / 32)=val (l.drop (i / 32)):=by
   rw[h1,Nat.add_mul_div_left _ _ (Nat.pow_pos gR),Nat.div_eq_of_lt h3,Nat.zero_add]
  rw[e,←Nat.div_div_eq_div_mul,e2,h2]
  have hr:i % 32 < 32:=Nat.mod_lt _ (by omega)
  have e3:B * val (l.drop (i / 32+1))=2 ^ (i % 32) * (2 * (2 ^ (31 - i % 32) * val (l.drop (i / 32+1)))):=by
   rw[←Nat.mul_assoc 2,←Nat.pow_succ',←Nat.mul_assoc,←Nat.pow_add,show i % 32+(31 - i % 32+1)=32 by omega];rfl
  rw[e3,Nat.add_mul_div_left _ _ (Nat.two_pow_pos _),Nat.add_mul_mod_self_left]
 ·have e0:l.getD (i / 32) 0=0:=by simp only[List.getD];rw[List.getElem?_eq_none (by omega)];rfl
  have h3:=eK l ol
  have h4:val l < 2 ^ i:=by
   have:(2:Nat) ^ i=B ^ (i / 32) * 2 ^ (i % 32):=by rw[GA,Nat.div_add_mod]
   rw[this]
   have h5:B ^ l.length≤B ^ (i / 32):=jH (by omega)
   have h6:B ^ (i / 32) * 1≤B ^ (i / 32) * 2 ^ (i % 32):=Nat.mul_le_mul_left _ (Nat.two_pow_pos _)
   omega
  rw[e0,Nat.div_eq_of_lt h4,Nat.zero_div]
theorem getD_eq{a b:List Nat}(hl:a.length=b.length)(k:Nat)(h:a.getD k 0=b.getD k 0):a[k]? =b[k]?:=by
 by_cases hk:k < a.length
 ·have hb:k < b.length:=by omega
  simp only[List.getD,d8 hk,d8 hb,Option.getD_some] at h
  rw[d8 hk,d8 hb,h]
 ·rw[List.getElem?_eq_none (by omega),List.getElem?_eq_none (by omega)]
theorem SE{a b:List Nat}(hl:a.length=b.length)(j:Nat)(h:∀k,k < j→a.getD k 0=b.getD k 0):a.take j=b.take j:=by
 apply List.ext_getElem?
 intro k
 rw[List.getElem?_take,List.getElem?_take]
 split
 ·exact getD_eq hl k (h k (by assumption))
 ·rfl
theorem SF{a b:List Nat}(hl:a.length=b.length)(j:Nat)(h:∀k,j≤k→a.getD k 0=b.getD k 0):a.drop j=b.drop j:=by
 apply List.ext_getElem?
 intro k
 rw[List.getElem?_drop,List.getElem?_drop]
 exact getD_eq hl _ (h _ (by omega))
theorem zX{us vs:List Nat}{j:Nat}(hj:j+vs.length < us.length)(ov:bV vs)(oN:val (us.drop (j+1)) < val vs):
  val (us.drop (j+vs.length+1))=0∧eQ us (j+1) vs.length < val vs∧eQ us j (vs.length+1)=us.getD j 0+B * eQ us (j+1) vs.length:=by
 have h1:=zS us (j+1) vs.length (by omega)
 have h2:=eK vs ov
 have h0:val (us.drop (j+1+vs.length))=0:=by
  rcases Nat.eq_zero_or_pos (val (us.drop (j+1+vs.length))) with h | h
  ·exact h
  ·have:B ^ vs.length * 1≤B ^ vs.length * val (us.drop (j+1+vs.length)):=Nat.mul_le_mul_left _ h
   omega
 have e:j+vs.length+1=j+1+vs.length:=by omega
 refine⟨by rw[e];exact h0,by omega,?_⟩
 have h3:=zS us j (vs.length+1) (by omega)
 have h4:=lO us j (by omega)
 rw[show j+(vs.length+1)=j+1+vs.length by omega,h0] at h3
 rw[h0,Nat.mul_zero,Nat.add_zero] at h1
 rw[Nat.mul_zero,Nat.add_zero,h4,h1] at h3
 exact h3.symm
theorem awz{us vs:List Nat}{j:Nat}(hj:j+vs.length < us.length)(ov:bV vs)(hn:0 < vs.length)(oN:val (us.drop (j+1)) < val vs):us.getD (j+vs.length) 0≤vs.getD (vs.length - 1) 0:=by
 obtain⟨_,h2,_⟩:=zX hj ov oN
 have h3:=gf us (j+1) (vs.length - 1) (by omega)
 have h4:=gf vs 0 (vs.length - 1) (by omega)
 have h5:=zT vs 0 (vs.length - 1) ov
 have e:vs.length - 1+1=vs.length:=by omega
 rw[e] at h3 h4
 rw[←zU] at h4
 rw[show j+1+(vs.length - 1)=j+vs.length by omega] at h3
 rw[Nat.zero_add] at h4
 by_cases h:us.getD (j+vs.length) 0≤vs.getD (vs.length - 1) 0
 ·exact h
 ·have h6:vs.getD (vs.length - 1) 0+1≤us.getD (j+vs.length) 0:=by omega
  have h7:=Nat.mul_le_mul_left (B ^ (vs.length - 1)) h6
  rw[Nat.mul_add,Nat.mul_one] at h7
  omega
theorem aom{us vs:List Nat}{j q:Nat}(hj:j+vs.length < us.length)(ou:bV us)(ov:bV vs)(hn:2≤vs.length)(Ik:B≤2 * vs.getD (vs.length - 1) 0)(oN:val (us.drop (j+1)) < val vs)(hq:q < B)
  (h1:q * (vs.getD (vs.length - 1) 0 * B+vs.getD (vs.length - 2) 0)≤us.getD (j+vs.length) 0 * B * B+us.getD (j+vs.length - 1) 0 * B+us.getD (j+vs.length - 2) 0)
  (h2:∀q',q' < B→q' * (vs.getD (vs.length - 1) 0 * B+vs.getD (vs.length - 2) 0)≤us.getD (j+vs.length) 0 * B * B+us.getD (j+vs.length - 1) 0 * B+us.getD (j+vs.length - 2) 0→q'≤q):
  eQ us j (vs.length+1) / val vs≤q∧q≤eQ us j (vs.length+1) / val vs+1:=by
 obtain⟨m,hm⟩:∃m,vs.length=m+2:=⟨vs.length - 2,by omega⟩
 obtain⟨_,t2,t3⟩:=zX hj ov oN
 refine Sx (eQ us j (vs.length+1)) (val vs) q m (eQ us j m) (eQ vs 0 m) _ _ _ _ _ ?_ ?_ (zT _ _ _ ou) (zT _ _ _ ov) Ik hq h1 h2 ?_
 ·rw[hm,gf us j (m+2) (by omega),gf us j (m+1) (by omega),gf us j m (by omega),show B ^ (m+2)=B ^ m * B * B by rw[Nat.pow_succ,Nat.pow_succ],show B ^ (m+1)=B ^ m * B from Nat.pow_succ ..,show j+(m+2) - 1=j+(m+1) by omega,show j+(m+2) - 2=j+m by omega]
  generalize us.getD (j+(m+2)) 0=a
  generalize us.getD (j+(m+1)) 0=b
  generalize us.getD (j+m) 0=c
  generalize B ^ m=P
  rw[Nat.add_mul,Nat.add_mul]
  have e1:P * B * B * a=a * B * B * P:=by ac_rfl
  have e2:P * B * b=b * B * P:=by ac_rfl
  have e3:P * c=c * P:=Nat.mul_comm _ _
  omega
 ·have:=zU vs
  rw[hm] at this ⊢
  rw[this,gf vs 0 (m+1) (by omega),gf vs 0 m (by omega),Nat.pow_succ,Nat.zero_add,Nat.zero_add,show m+2 - 1=m+1 by omega,show m+2 - 2=m by omega,Nat.add_mul]
  generalize vs.getD (m+1) 0=b
  generalize vs.getD m 0=c
  generalize B ^ m=P
  have e2:P * B * b=b * B * P:=by ac_rfl
  have e3:P * c=c * P:=Nat.mul_comm _ _
  omega
 ·rw[t3]
  have h3:=ou.getD j
  have h4:=Nat.mul_le_mul_left B t2
  rw[Nat.succ_eq_add_one,Nat.mul_add,Nat.mul_one] at h4
  omega
theorem XC(T P C D W q V r:Nat)(hm:V * q+r=W):T+P * r+P * ((q+C * D) * V)=T+P * W+P * C * (D * V):=by
 subst hm
 rw[Nat.add_mul,Nat.mul_add,Nat.mul_add,Nat.mul_comm q V,Nat.mul_assoc P C,Nat.mul_assoc C D]
 omega
theorem awA{us vs:List Nat}{j:Nat}(hj:j+vs.length < us.length)(ou:bV us)(ov:bV vs)(oN:val (us.drop (j+1)) < val vs):eQ us j (vs.length+1) / val vs < B:=by
 obtain⟨t1,t2,t3⟩:=zX hj ov oN
 have hV:0 < val vs:=by omega
 rw[Nat.div_lt_iff_lt_mul hV,t3]
 have h3:=ou.getD j
 have h4:=Nat.mul_le_mul_left B t2
 rw[Nat.succ_eq_add_one,Nat.mul_add,Nat.mul_one] at h4
 omega
theorem ahC{us kM os vs:List Nat}{U0 j:Nat}(hl:kM.length=us.length)(hj:j+vs.length < us.length)(ou:bV us)(ov:bV vs)(vP:j < os.length)
  (hinv:val us+B ^ (j+1) * (val (os.drop (j+1)) * val vs)=U0)(oN:val (us.drop (j+1)) < val vs)
  (zW:∀k,(k < j∨j+vs.length < k)→kM.getD k 0=us.getD k 0)(hw:eQ kM j (vs.length+1)=eQ us j (vs.length+1) % val vs):
  eQ us j (vs.length+1) / val vs < B∧val kM+B ^ j * (val ((os.set j (eQ us j (vs.length+1) / val vs)).drop j) * val vs)=U0∧val (kM.drop j) < val vs:=by
 obtain⟨t1,t2,t3⟩:=zX hj ov oN
 have hV:0 < val vs:=by omega
 have hq:=awA hj ou ov oN
 have Ie:kM.drop (j+vs.length+1)=us.drop (j+vs.length+1):=SF hl _ (fun k hk=>zW k (by omega))
 have l7:kM.take j=us.take j:=SE hl _ (fun k hk=>zW k (by omega))
 have d1:=zS us j (vs.length+1) (by omega)
 have d2:=zS kM j (vs.length+1) (by omega)
 rw[show j+(vs.length+1)=j+vs.length+1 by omega] at d1 d2
 rw[Ie,t1,hw] at d2
 rw[t1] at d1
 have s1:=jZ us j (by omega)
 have s2:=jZ kM j (by omega)
 rw[l7] at s2
 have hm:=Nat.div_add_mod (eQ us j (vs.length+1)) (val vs)
 have o1:=lO (os.set j (eQ us j (vs.length+1) / val vs)) j (by simpa using vP)
 rw[fj vP,zO (i:=j+1) (j:=j) (by omega)] at o1
 generalize eQ us j (vs.length+1)=W at *
 refine⟨hq,?_,by rw[d2,Nat.mul_zero,Nat.add_zero];exact Nat.mod_lt W hV⟩
 rw[Nat.mul_zero,Nat.add_zero] at d1 d2
 rw[o1,←hinv,s2,s1,d1,d2,Nat.pow_succ]
 exact XC _ _ _ _ _ _ _ _ hm
theorem ahD{b vs:List Nat}{c:Nat}(ob:bV b)(cb:cN b)(hb:b≠[])(ov:bV vs)(cv:cN vs)(hv:val vs=val b * 2 ^ c)(h1:2147483648≤b.getD (b.length - 1) 0 * 2 ^ c)(h2:b.getD (b.length - 1) 0 * 2 ^ c < 4294967296):
  vs.length=b.length∧B≤2 * vs.getD (vs.length - 1) 0:=by
 have hl:0 < b.length:=List.length_pos_iff.2 hb
 have hP:=Nat.two_pow_pos c
 have e:=val_succ b (b.length - 1) (by omega)
 rw[show b.length - 1+1=b.length by omega,List.take_length] at e
 have l1:=eK (b.take (b.length - 1)) (ob.take _)
 rw[show(b.take (b.length - 1)).length=b.length - 1 by simp] at l1
 have hB:B=4294967296:=rfl
 have aIR:2 ^ c≤2147483648 * 2:=by
  by_cases h:b.getD (b.length - 1) 0=0
  ·rw[h] at h1;omega
  ·have:=Nat.mul_le_mul_right (2 ^ c) (show 1≤b.getD (b.length - 1) 0 by omega)
   omega
 have Ie:val vs < B ^ b.length:=by
  rw[hv,e,show B ^ b.length=B ^ (b.length - 1) * B by rw[←Nat.pow_succ];congr 1;omega]
  have a1:(b.getD (b.length - 1) 0+1) * 2 ^ c≤B:=by
   have cM:c≤32:=by
    by_cases hc:c≤32
    ·exact hc
    ·have:2 ^ 33≤2 ^ c:=Nat.pow_le_pow_right (by omega) (by omega)
     omega
   have hBc:B=2 ^ (32 - c) * 2 ^ c:=by rw[←Nat.pow_add,zQ];congr 1;omega
   have:b.getD (b.length - 1) 0 < 2 ^ (32 - c):=by
    rw[←hB,hBc] at h2
    exact Nat.lt_of_mul_lt_mul_right h2
   rw[hBc]
   exact Nat.mul_le_mul_right _ this
  have a2:(val (b.take (b.length - 1))+B ^ (b.length - 1) * b.getD (b.length - 1) 0) * 2 ^ c < B ^ (b.length - 1) * ((b.getD (b.length - 1) 0+1) * 2 ^ c):=by
   rw[←Nat.mul_assoc]
   apply Nat.mul_lt_mul_of_pos_right _ hP
   rw[Nat.mul_add,Nat.mul_one];omega
  exact Nat.lt_of_lt_of_le a2 (Nat.mul_le_mul_left _ a1)
 have l7:B ^ (b.length - 1) * 2147483648≤val vs:=by
  rw[hv,e,Nat.add_mul,Nat.mul_assoc]
  have:=Nat.mul_le_mul_left (B ^ (b.length - 1)) h1
  omega
 have hge:=Nat.pow_pos (n:=b.length - 1) gR
 have cK:vs≠[]:=fun h=>by subst h;simp [val] at l7;omega
 have aIS:vs.length≤b.length:=th cv Ie
 have aIT:b.length≤vs.length:=by
  have h5:=eK vs ov
  by_cases h:b.length≤vs.length
  ·exact h
  ·have:B ^ vs.length≤B ^ (b.length - 1):=jH (by omega)
   omega
 have hlen:vs.length=b.length:=by omega
 refine⟨hlen,?_⟩
 have ev:=val_succ vs (vs.length - 1) (by omega)
 rw[show vs.length - 1+1=vs.length by omega,List.take_length] at ev
 have l2:=eK (vs.take (vs.length - 1)) (ov.take _)
 rw[show(vs.take (vs.length - 1)).length=vs.length - 1 by simp] at l2
 rw[hlen] at ev l2 ⊢
 by_cases h:B≤2 * vs.getD (b.length - 1) 0
 ·exact h
 ·have h3:vs.getD (b.length - 1) 0+1≤2147483648:=by omega
  have h4:=Nat.mul_le_mul_left (B ^ (b.length - 1)) h3
  rw[Nat.mul_add,Nat.mul_one] at h4
  omega
theorem ahE{a b us:List Nat}{c V:Nat}(oa:bV a)(cb:cN b)(hb:b≠[])(ou:bV us)(hle:b.length≤a.length)(hl:us.length=a.length+1)(hu:val us=val a * 2 ^ c)(hV:V=val b * 2 ^ c):val (us.drop (a.length - b.length+1)) < V:=by
 have hl0:0 < b.length:=List.length_pos_iff.2 hb
 rw[←I7 us _ ou (by omega),Nat.div_lt_iff_lt_mul (Nat.pow_pos gR),hu,hV]
 have h1:=eK a oa
 have h2:=vD b cb hb
 have h3:=Nat.mul_le_mul_right (B ^ (a.length - b.length+1)) h2
 rw[←Nat.pow_add,show b.length - 1+(a.length - b.length+1)=a.length by omega] at h3
 rw[Nat.mul_assoc,Nat.mul_comm (2 ^ c),←Nat.mul_assoc]
 exact Nat.mul_lt_mul_of_pos_right (Nat.lt_of_lt_of_le h1 h3) (Nat.two_pow_pos c)
end Go.iY
end
section
namespace Go.jY
open Go.Ab Go.iY
variable(G:Nat→AV)(X:Nat→List AV→St→ax)
theorem aon(s:St)(ju j N q:Nat)(hH vs:List Nat)(vv:AV)(h0:gj s ju hH)(hN:hH.length=N)(hv:Fz vv vs)(ov:bV vs)(hj:j+vs.length < N)(f8:N < 4294967296)(hn0:0 < vs.length)(o0:bV hH)(hqB:q < B)(hV:0 < val vs)(Ls:eQ hH j (vs.length+1) / val vs≤q)(So:q≤eQ hH j (vs.length+1) / val vs+1):
  ∃kM,aJ T1 G X 194 [.ck (.g s.aa ju) 0 N N 1, .int .i64 (j:Int),vv, .int .u64 (q:Int)] s= .ok (.int .u32 ((eQ hH j (vs.length+1) / val vs:Nat):Int)) (s.put ju kM)∧kM.length=N∧bV kM∧(∀k,(k < j∨j+vs.length < k)→kM.getD k 0=hH.getD k 0)∧eQ kM j (vs.length+1)=eQ hH j (vs.length+1) % val vs:=by
 rw[UX,al2,(hv.rd s).len]
 have:=SC G X s ju j N q hH vs vv h0 hN hv ov hj f8 hn0 o0 hqB hV Ls So vs.length 0 hH 0 0 (by omega) hN o0 gR (by omega) (fun _ _=>rfl) (by simp [I6])
 rw[agR h0] at this
 exact this
theorem SG(s:St)(c U0 N M ju jo:Nat)(vv:AV)(vs:List Nat)(hv:Fz vv vs)(ov:bV vs)(hn:2≤vs.length)(aoo:B≤2 * vs.getD (vs.length - 1) 0)(hNM:N=M - 1+vs.length+1)(hM:0 < M)(f8:N < 4294967296)(cK:ju≠jo)(hc:c < 4294967296):
  ∀(m k:Nat) (us os:List Nat) (S:St),k+m=M→Child s S→gj S ju us→gj S jo os→us.length=N→os.length=M→bV us→bV os→val us+B ^ m * (val (os.drop m) * val vs)=U0→val (us.drop m) < val vs→
  ∃v w q r,yY (PP T1 G X) (.int .i64 (c:Int)) vv (.ck (.l ju) 0 N N 1) (.ck (.l jo) 0 M M 1) (.int .i64 (M:Int)) (.int .i64 (k:Int)) S= .ok (.cS [v,w]) s∧Fz v q∧bV q∧cN q∧Fz w r∧bV r∧cN r∧val q=U0 / val vs∧val r=U0 % val vs / 2 ^ c:=by
 intro m
 induction m with
 | zero=>
  intro k us os S hk hS hu ho lu lo ou oo hinv oN
  have h:¬((k:Int) < (M:Int)):=by omega
  have Lw:=hu.rd N N (by omega) (Nat.le_refl _)
  rw[List.take_of_length_le (by omega)] at Lw
  have GH:=qD G X S _ us Lw (by omega)
  have I8:=Lw.cut (fA us us.length) (jh _ _)
  obtain⟨w,r,lost,aEF,fw,okr,cr,vr⟩:=aoc G X S _ (us.take (fA us us.length)) c I8 (ou.take _) hc (by have:=jh us us.length;simp;omega)
  obtain⟨v,fv,h3⟩:∃v,Fz v (dz os)∧(PP T1 G X).aB S (fun v s=>(PP T1 G X).aI false [some v,some w] s) 191 [.ck (.g S.aa jo) 0 M M 1]= .ok (.cS [v,w]) s:=by
   have hr:=ho.rd M M (by omega) (Nat.le_refl _)
   rw[List.take_of_length_le (by omega)] at hr
   rw[aN (qD G X S _ os hr (by omega))]
   have hle:=jh os os.length
   obtain⟨v,h1,h2⟩:=m6 (S:=S) (j:=jo) (off:=0) (cap:=M) (dz os) (n:=fA os os.length) (f9 os).symm ho (by
    rw[bW,f9];simp [dz,List.map_take]) (by rw[f9];simpa using hle)
   exact⟨v,h2,iB hS _ _ _ _ h1 (fw.freeze S)⟩
  rw[Nat.pow_zero,Nat.one_mul,bW] at hinv
  rw[bW] at oN
  have hV:0 < val vs:=by omega
  have tv:val (us.take (fA us us.length))=val us:=im us
  refine⟨v,w,dz os,r,?_,fv,ig oo,fP os,fw,okr,cr,?_,?_⟩
  ·rw[Ce _ (aA _ _ _),bb,cc,if_neg (by simpa using h),Qf _ (aA _ _ _),fX,aN GH,I8.av,cD,aN aEF,gP 0 _ w rfl,gP 1 _ _ rfl,fX]
   exact h3
  ·rw[im,←hinv,Nat.add_mul_div_right _ _ hV,Nat.div_eq_of_lt oN,Nat.zero_add]
  ·rw[vr,tv,←hinv,Nat.add_mul_mod_self_right,Nat.mod_eq_of_lt oN]
 | succ m ih=>
  intro k us os S hk hS hu ho lu lo ou oo hinv oN
  have h:(k:Int) < (M:Int):=by omega
  have hj:m+vs.length < us.length:=by omega
  have Lw:=hu.rd N N (by omega) (Nat.le_refl _)
  rw[List.take_of_length_le (by omega)] at Lw
  obtain⟨q2,aEG,he⟩:=aoh G X S _ vv us vs m Lw (hv.rd S) ou ov hn hj (by omega) aoo (awz hj ov (by omega) oN)
  have axM:=aom hj ou ov hn aoo oN he.lt he.le he.max
  have hV:0 < val vs:=by omega
  obtain⟨kM,aEH,l2,o2,ag,hw⟩:=aon G X S ju m N q2 us vs vv hu lu hv ov (by omega) f8 (by omega) ou he.lt hV axM.1 axM.2
  obtain⟨d1,d2,d3⟩:=ahC (U0:=U0) (j:=m) (os:=os) (by omega) hj ou ov (by omega) hinv oN ag hw
  have ho2:gj (S.put ju kM) jo os:=ho.Y7 cK _
  have st:=fun x (k:K1)=>ho2.st (T:=T1) (G:=G) (X:=X) m M M x (by omega) (by omega) k
  have a1:=fun(S:St) (k:K1)=>ku (T:=T1) (G:=G) (X:=X) (s:=S) (k:=k) M (by omega) (by omega)
  have a2:=fun(S:St) (k':K1)=>pG (T:=T1) (G:=G) (X:=X) (s:=S) (k:=k') (M - 1) k (by omega) (by omega)
  have a3:=fun(S:St) (k':K1)=>qB (T:=T1) (G:=G) (X:=X) (s:=S) (k:=k') k (by omega)
  rw[show M - 1 - k=m by omega] at a2
  have:=ih (k+1) kM _ _ (by omega) ((hS.put ju kM).put jo _) ((hu.put kM).Y7 (Ne.symm cK) _) (ho2.put (os.set m (eQ us m (vs.length+1) / val vs))) l2 (by simpa using lo) o2 (oo.set _ _ d1) d2 d3
  refine Exists.imp (fun v h1=>Exists.imp (fun w h2=>Exists.imp (fun q h3=>Exists.imp (fun r h4=>⟨?_,h4.2⟩) h3) h2) h1) this
  rw[Ce _ (aA _ _ _),bb,cc,if_pos (by simpa using h),Qe _ (aA _ _ _),li,a1,a2,fX,cD,hv.av,aN aEG]
  simp only[cD,fX,hv.av]
  rw[dJ aEH (qE _ _ _)]
  simp only[cD]
  rw[st,Qd _ (aA _ _ _),a3]
  exact h4.1
theorem aop(s:St)(va vb:AV)(a b:List Nat)(ha:Fz va a)(hb:Fz vb b)(oa:bV a)(ob:bV b)(ca:cN a)(cb:cN b)(T5:b≠[])(f8:a.length < 2147483648)(an5:b.length < 2147483648):
  ∃v w q r,aJ T1 G X 170 [va,vb] s= .ok (.cS [v,w]) s∧Fz v q∧bV q∧cN q∧Fz w r∧bV r∧cN r∧val q=val a / val b∧val r=val a % val b:=by
 have hS:=Child.ai s
 have Hp:0 < b.length:=List.length_pos_iff.2 T5
 have aEI:=an4 G X s.ai va vb a b (ha.rd _) (hb.rd _) oa ob ca cb (by omega) (by omega)
 have AY:=fun(S:St) (k:K1)=>(ha.rd S).len (T:=T1) (G:=G) (X:=X) k S
 have GK:=fun(S:St) (k:K1)=>(hb.rd S).len (T:=T1) (G:=G) (X:=X) k S
 rw[Vi,amu,ha.av,hb.av,aN aEI]
 by_cases cM:val a < val b
 ·refine⟨.sl 1 [] .nil,va,[],a,?_,Fz.nil,(fun x (h:x∈[])=>absurd h oR:bV []),(fun h=>absurd rfl h:cN []),ha,oa,ca,?_,?_⟩
  ·have:jS (val a) (val b) < 0:=by simp [jS,cM]
   rw[bb,cc,if_pos (by simpa using this)]
   exact iB hS _ _ _ _ rfl (ha.freeze _)
  ·rw[Nat.div_eq_of_lt cM];rfl
  ·rw[Nat.mod_eq_of_lt cM]
 have hle:val b≤val a:=Nat.not_lt.1 cM
 have hlen:b.length≤a.length:=by
  by_cases h:b.length≤a.length
  ·exact h
  ·have:=m7 oa cb (Nat.not_le.1 h);omega
 have aEJ:¬jS (val a) (val b) < 0:=by
  simp only[jS,if_neg cM];split <;> decide
 rw[bb,cc,if_neg (by simpa using aEJ),Qh _ (aA _ _ _),GK,bj,cc]
 by_cases h1:b.length=1
 ·rw[if_pos (by simp [h1])]
  have gb:=fun(k:K1)=>(hb.rd s.ai).get (T:=T1) (G:=G) (X:=X) .i64 0 (by omega) k
  have vb1:val b=b.getD 0 0:=by
   match b,h1 with
   | [x],_=>simp [val]
  have hd:b.getD 0 0≠0:=by rw[←vb1];intro e;exact T5 ((q0 cb).1 e)
  have hdB:=ob.getD 0
  obtain⟨v,q,aEK,fv,oq,cq,vq⟩:=an8 G X s.ai va a (b.getD 0 0) (ha.rd _) oa hd hdB (by omega)
  have fr:=Fz.bs [val a % b.getD 0 0]
  have GH:=qD G X s.ai _ _ (fr.rd s.ai) (by simp)
  have hrB:val a % b.getD 0 0 < B:=Nat.lt_trans (Nat.mod_lt _ (by omega)) hdB
  have or:bV [val a % b.getD 0 0]:=fun x hx=>by rw[List.mem_singleton.1 hx];exact hrB
  refine⟨v,_,q,dz [val a % b.getD 0 0],?_,fv,oq,cq,fr.cut _,ig or,fP _,by rw[vq,vb1],by rw[im,vb1];simp [val]⟩
  refine(gb _).trans ?_
  rw[ha.av,cD,aN aEK,gP 0 _ v rfl,gP 1 _ _ rfl]
  have bs:=fun(k:K1)=>oM (T:=T1) (G:=G) (X:=X) (s:=s.ai) (k:=k) [val a % b.getD 0 0]
  refine(bs _).trans ?_
  rw[fr.av,aN GH]
  exact iB hS _ _ _ _ (fv.freeze _) ((fr.cut _).freeze _)
 ·rw[if_neg (by simp;omega),Qg _ (aA _ _ _)]
  have gb:=fun(k:K1)=>(hb.rd s.ai).get (T:=T1) (G:=G) (X:=X) .i64 (b.length - 1) (by omega) k
  have a1:=fun(S:St) (k:K1)=>ku (T:=T1) (G:=G) (X:=X) (s:=S) (k:=k) b.length (by omega) (by omega)
  have hB:=lX
  have x1:=ob.getD (b.length - 1)
  have x0:=cb T5
  obtain⟨c,aEL,c1,c2,c3⟩:=an7 G X s.ai (b.getD (b.length - 1) 0) (by omega) x0
  obtain⟨vv,vs,aEM,fv,ov,cv,ev⟩:=Sw G X s.ai vb b c (hb.rd _) ob (by omega) (by omega)
  obtain⟨nl,nt⟩:=ahD ob cb T5 ov cv ev c2 c3
  have a2:=fun(S:St) (k:K1)=>gD G X S k a.length (by omega)
  have a3:=fun(S:St) (k:K1)=>pG (T:=T1) (G:=G) (X:=X) (s:=S) (k:=k) a.length b.length hlen (by omega)
  have a4:=fun(S:St) (k:K1)=>gD G X S k (a.length - b.length) (by omega)
  have mk1:=fun(S:St) (k:K1)=>ow (T:=T1) (G:=G) (X:=X) (s:=S) (k:=k) (U 0) 4 (a.length+1) (a.length+1) (Nat.le_refl _) (by omega)
  have mk2:=fun(S:St) (k:K1)=>ow (T:=T1) (G:=G) (X:=X) (s:=S) (k:=k) (U 0) 4 (a.length - b.length+1) (a.length - b.length+1) (Nat.le_refl _) (by omega)
  let S1:=s.ai.new (.cells (List.replicate (a.length+1) (U 0)))
  have A1:gj S1 s.ai.own.length (List.replicate (a.length+1) 0):=gj.make _ _
  obtain⟨vl,la,aBT,fl,ol,cl,el⟩:=Sw G X S1 va a c (ha.rd _) oa (by omega) (by omega)
  have awB:la.length≤a.length+1:=by
   apply th cl
   rw[el,Nat.pow_succ]
   have h5:=eK a oa
   have h6:2 ^ c≤B:=by
    have:2 ^ c≤2 ^ 32:=Nat.pow_le_pow_right (by omega) (by omega)
    rw[zQ];exact this
   exact Nat.lt_of_lt_of_le (Nat.mul_lt_mul_of_pos_right h5 (Nat.two_pow_pos c)) (Nat.mul_le_mul_left _ h6)
  let us:=la ++ (List.replicate (a.length+1) 0).drop la.length
  have af5:us.length=a.length+1:=by simp [us];omega
  have af6:val us=val a * 2 ^ c:=by
   simp only[us,qZ,List.drop_replicate,Gy,Nat.mul_zero,Nat.add_zero,el]
  have aoq:bV us:=fun x hx=>by
   rcases List.mem_append.1 hx with h | h
   ·exact ol x h
   ·exact nE _ x (List.mem_of_mem_drop h)
  have cp:=fun(k:K1)=>A1.copy (T:=T1) (G:=G) (X:=X) (n:=a.length+1) (fl.rd S1) (by simpa using awB) (by simp) k
  have A2:gj (S1.put s.ai.own.length us) s.ai.own.length us:=A1.put us
  let S2:=(S1.put s.ai.own.length us).new (.cells (List.replicate (a.length - b.length+1) (U 0)))
  have A3:gj S2 s.ai.own.length us:=A2.new _
  have A4:gj S2 (S1.put s.ai.own.length us).own.length (List.replicate (a.length - b.length+1) 0):=gj.make _ _
  have hC2:Child s S2:=(((Child.ai s).new _).put _ _).new _
  have cK:s.ai.own.length≠(S1.put s.ai.own.length us).own.length:=by have:=A2.lt;omega
  have l3:=SG G X s c (val a * 2 ^ c) (a.length+1) (a.length - b.length+1) s.ai.own.length (S1.put s.ai.own.length us).own.length vv vs fv ov (by omega) nt (by omega) (by omega) (by omega) cK (by omega) (a.length - b.length+1) 0 us _ S2 (by omega) hC2 A3 A4 af5 (by simp) aoq (nE _)
   (by rw[af6,List.drop_of_length_le (by simp)];simp [val]) (ahE oa cb T5 aoq hlen af5 af6 ev)
  obtain⟨v,w,q,r,g1,g2,g3,g4,g5,g6,g7,g8,g9⟩:=l3
  refine⟨v,w,q,r,?_,g2,g3,g4,g5,g6,g7,?_,?_⟩
  ·rw[GK,a1]
   refine(gb _).trans ?_
   rw[cD,aN aEL,hb.av,cD,aN aEM,AY,a2]
   refine(mk1 _ _).trans ?_
   rw[ha.av]
   refine(aN aBT).trans ?_
   refine(cp _).trans ?_
   rw[AY,GK,a3,a4]
   refine(mk2 _ _).trans ?_
   rw[li]
   exact g1
  ·rw[g8,ev,Nat.mul_div_mul_right _ _ (Nat.two_pow_pos c)]
  ·rw[g9,ev,Nat.mul_mod_mul_right,Nat.mul_div_cancel _ (Nat.two_pow_pos c)]
def gE(neg:Bool)(l:List Nat):Bool:=if l.length=0 then !neg else decide (l.length≤128) && decide (l.getD (l.length - 1) 0≠0)
abbrev iM(neg:Bool)(v:AV):AV:=.agg [.bool neg,v]
theorem zY(s:St)(neg:Bool)(v:AV)(l:List Nat)(h:Fz v l)(hb:l.length < 9223372036854775807):aJ T1 G X 147 [iM neg v] s= .ok (.bool (gE neg l)) s:=by
 have hS:=Child.ai s
 have ln:=fun(S:St) (k:K1)=>(h.rd S).len (T:=T1) (G:=G) (X:=X) k S
 rw[U3,al9]
 by_cases h0:l.length=0
 ·have e0:(l.length:Int)=0:=by omega
  simp only[↓cc,↓bE,↓bP,↓dF,↓bj,↓fh,↓bq,bW,dT,↓reduceIte,decide_true,↓ln,eq_true e0,gE,if_pos h0]
 ·have e0:¬(l.length:Int)=0:=by omega
  by_cases h1:l.length≤128
  ·have e1:(l.length:Int)≤128:=by omega
   have g:=fun(k:K1)=>(h.rd s.ai).get (T:=T1) (G:=G) (X:=X) .i64 (l.length - 1) (by omega) k
   have a1:=fun(S:St) (k:K1)=>ku (T:=T1) (G:=G) (X:=X) (s:=S) (k:=k) l.length (by omega) (by omega)
   simp only[↓cc,↓bE,↓bP,↓dF,↓iG,↓Y3,↓bj,↓eO,↓rB,↓fh,↓bq,bW,dT,↓reduceIte,decide_true,decide_false,co,↓ln,eq_false e0,B6 _ (aA _ _ _),eq_true e1,↓a1,↓g,gE,if_neg h0,a9 h1,Bool.true_and]
   congr 3
   simp only[ne_eq,eq_iff_iff]
   omega
  ·have e1:¬(l.length:Int)≤128:=by omega
   simp only[↓cc,↓bE,↓bP,↓dF,↓iG,↓Y3,↓bj,↓rB,↓fh,↓bq,bW,dT,↓reduceIte,decide_false,co,↓ln,eq_false e0,B6 _ (aA _ _ _),eq_false e1,gE,if_neg h0,aT h1,Bool.false_and]
theorem aor(s:St)(n1 n2:Bool)(v1 v2:AV)(l1 l2:List Nat)(h1:Fz v1 l1)(h2:Fz v2 l2)(b1:l1.length < 9223372036854775807)(b2:l2.length < 9223372036854775807):aJ T1 G X 169 [iM n1 v1,iM n2 v2] s= .ok (.bool (gE n1 l1 && gE n2 l2)) s:=by
 rw[Vh,ams]
 have c1:=zY G X s.ai n1 v1 l1 h1 b1
 have c2:=zY G X s.ai n2 v2 l2 h2 b2
 cases e:gE n1 l1 with
 | false=>
  rw[e] at c1
  simp only[↓bE,↓iG,↓Y1,↓bq,↓reduceIte,dc,Nat.zero_add,cP,eh,Nat.reduceAdd,↓e7,Nat.le_refl,List.take_succ_cons,List.take_zero,co,↓(aN c1),Bool.false_and]
 | true=>
  rw[e] at c1
  simp only[↓bE,↓iG,↓Y1,↓bq,↓reduceIte,dc,Nat.zero_add,cP,eh,Nat.reduceAdd,↓e7,Nat.le_refl,List.take_succ_cons,List.take_zero,↓(aN c1),↓(aN c2),Bool.true_and]
theorem SH(s:St)(neg:Bool)(v:AV)(l:List Nat)(h:Fz v l)(ol:bV l)(hb:l.length < 4294967296)(hl:(dz l).length≤128):
  ∃w,aJ T1 G X 171 [.bool neg,v] s= .ok (.cS [iM (neg && decide (dz l≠[])) w, .int .i64 0]) s∧Fz w (dz l):=by
 have hS:=Child.ai s
 have GH:=fun(S:St)=>qD G X S v l (h.rd _) (by omega)
 have hc:Fz (mw v (fA l l.length)) (dz l):=h.cut _
 generalize hv8:mw v (fA l l.length)=v8 at *
 generalize hm:dz l=m at *
 have ln:=fun(S:St) (k:K1)=>(hc.rd S).len (T:=T1) (G:=G) (X:=X) k S
 have rU:¬(128:Int) < (m.length:Int):=by omega
 let S0:=s.ai.new (.cells [.bool false, .sl 1 [] .nil])
 let S1:=S0.new (.cells (List.replicate m.length (U 0)))
 have A1:gj S1 S0.own.length (List.replicate m.length 0):=gj.make _ _
 have mk:=fun(k:K1)=>ow (T:=T1) (G:=G) (X:=X) (s:=S0) (k:=k) (U 0) 4 m.length m.length (Nat.le_refl _) (by omega)
 have cp:=fun(k:K1)=>A1.copy (T:=T1) (G:=G) (X:=X) (n:=m.length) (hc.rd S1) (by simp) (by simp) k
 have e0:m ++ (List.replicate m.length 0).drop m.length=m:=by rw[List.drop_replicate,Nat.sub_self];simp
 rw[e0] at cp
 have A2:gj (S1.put S0.own.length m) S0.own.length m:=A1.put m
 have hC:Child s (S1.put S0.own.length m):=((hS.new _).new _).put _ _
 have XD:(S1.put S0.own.length m).own[0]? =some (.cells [.bool false, .sl 1 [] .nil]):=rfl
 have fin:∀b:Bool,∃w,(PP T1 G X).dh [.bool false, .sl 1 [] .nil] [(0,1, .bool b),(1,1, .ck (.l S0.own.length) 0 m.length m.length 1)] (S1.put S0.own.length m) (fun XE s=>(PP T1 G X).a7 s (fun _v s=>(PP T1 G X).aI false [gB s (.ref (.l 0) 0) (some 2),some (.int .i64 0)] s) 2 (.ref (.l 0) 0) (AV.av s.aa XE))= .ok (.cS [iM b w, .int .i64 0]) s∧Fz w m:=fun b=>by
  have fD:=fun(k:K1)=>se (T:=T1) (G:=G) (X:=X) (S:=S1.put S0.own.length m) (k:=k) (n:=2) (vs:=[.bool b, .ck (.g (S1.put S0.own.length m).aa S0.own.length) 0 m.length m.length 1]) XD rfl rfl rfl
  let S3:St:={S1.put S0.own.length m with own:=(S1.put S0.own.length m).own.set 0 (.cells [.bool b, .ck (.g (S1.put S0.own.length m).aa S0.own.length) 0 m.length m.length 1])}
  have A3:gj S3 S0.own.length m:=by
   have:S3.own[1]? =(S1.put S0.own.length m).own[1]?:=eM (by decide)
   exact this.trans A2
  have hC3:Child s S3:=⟨hC.up,hC.ro⟩
  obtain⟨w,h1,h2⟩:=m6 (S:=S3) (j:=S0.own.length) (off:=0) (cap:=m.length) (n:=m.length) m rfl A3 (by rw[bW];exact List.take_of_length_le (by simp)) (by simp)
  refine⟨w,?_,h2⟩
  have hb:∀k:K1,(PP T1 G X).dh [.bool false, .sl 1 [] .nil] [(0,1, .bool b),(1,1, .ck (.l S0.own.length) 0 m.length m.length 1)] (S1.put S0.own.length m) k=k (.agg [.bool b, .ck (.g (S1.put S0.own.length m).aa S0.own.length) 0 m.length m.length 1]) (S1.put S0.own.length m):=fun k=>rfl
  rw[hb,dc]
  refine(fD _).trans ?_
  have k7:gB S3 (.ref (.l 0) 0) (some 2)=some (.agg [.bool b, .ck (.g (S1.put S0.own.length m).aa S0.own.length) 0 m.length m.length 1]):=mM (j:=0) (by rfl) rfl
  show(PP T1 G X).aI false [gB S3 (.ref (.l 0) 0) (some 2),some (.int .i64 0)] S3=_
  rw[k7]
  refine iB hC3 _ _ _ _ ?_ rfl
  show(iT (dE S3) [_,_]).map AV.agg=_
  simp only[iT]
  rw[show dE S3 (.bool b)=some (.bool b) from rfl,show dE S3 (.ck (.g (S1.put S0.own.length m).aa S0.own.length) 0 m.length m.length 1)=some w from h1]
  rfl
 have gt0:decide ((0:Int) < (m.length:Int))=decide (m≠[]):=by
  congr 1
  cases m with
  | nil=>simp
  | cons x m=>simp
 obtain⟨w,hw,fw⟩:=fin (neg && decide (m≠[]))
 refine⟨w,?_,fw⟩
 rw[Vj,amv,jR,h.av,aN (GH _),ln,dV,cc,if_neg (by simpa using rU),Qj _ (aA _ _ _),ln]
 refine(mk _).trans ?_
 refine(cp _).trans ?_
 rw[Y2,iG]
 cases neg with
 | false=>exact hw
 | true=>
  rw[if_pos rfl]
  dsimp only
  rw[ln,dV,gt0]
  rw[Bool.true_and] at hw
  rw[Bool.true_and]
  exact hw
theorem SI(s:St)(v:AV)(l:List Nat)(h:Fz v l)(ol:bV l)(hl:l.length≤2):aJ T1 G X 172 [v] s= .ok (.int .u64 (val l:Int)) s:=by
 have hS:=Child.ai s
 have ln:=fun(S:St) (k:K1)=>(h.rd S).len (T:=T1) (G:=G) (X:=X) k S
 have step:∀(i x:Nat),i < l.length→x=val (l.take i)→sj (PP T1 G X) v (.int .u64 (x:Int)) (.int .i64 (l.length:Int)) (.int .i64 (i:Int)) s.ai=sj (PP T1 G X) v (.int .u64 ((val (l.take (i+1)):Nat):Int)) (.int .i64 (l.length:Int)) (.int .i64 ((i+1:Nat):Int)) s.ai:=fun i x hi hx=>by
  have h1:(i:Int) < (l.length:Int):=by omega
  have g:=fun(k:K1)=>(h.rd s.ai).get (T:=T1) (G:=G) (X:=X) .i64 i hi k
  have hd:=ol.getD i
  rw[lX] at hd
  have c1:=fun(S:St) (k:K1)=>fW (T:=T1) (G:=G) (X:=X) (s:=S) (k:=k) (l.getD i 0) hd
  have m1:∀(S:St) (k:K1),(PP T1 G X).ak S k (au .mul (.int .i64 32) (.int .i64 (i:Int)))=k (.int .i64 ((32 * i:Nat):Int)) S:=fun S k=>by
   rw[Uu,ie _ (by omega) (by omega)];congr 2
  have s1:=fun(S:St) (k:K1)=>yj (T:=T1) (G:=G) (X:=X) (s:=S) (k:=k) .i64 (l.getD i 0) (32 * i) (by omega)
  have a3:=fun(S:St) (k':K1)=>qB (T:=T1) (G:=G) (X:=X) (s:=S) (k:=k') i (by omega)
  have cM:=eK (l.take i) (ol.take i)
  have hle:(l.take i).length=i:=by simp;omega
  rw[hle,zQ,←Nat.pow_mul] at cM
  have vs:=val_succ l i hi
  have o1:∀(S:St) (k:K1),(PP T1 G X).ak S k (au .or (.int .u64 (x:Int)) (.int .u64 ((l.getD i 0 * 2 ^ (32 * i) % 18446744073709551616:Nat):Int)))=k (.int .u64 ((val (l.take (i+1)):Nat):Int)) S:=fun S k=>by
   have YS:l.getD i 0 * 2 ^ (32 * i) < 18446744073709551616 - 2 ^ (32 * i)+1:=by
    have:i=0∨i=1:=by omega
    rcases this with rfl | rfl
    ·show l.getD 0 0 * 1 < 18446744073709551616 - 1+1
     omega
    ·show l.getD 1 0 * 4294967296 < 18446744073709551616 - 4294967296+1
     omega
   have hp:2 ^ (32 * i)≤4294967296:=by
    have:i=0∨i=1:=by omega
    rcases this with rfl | rfl <;> simp
   rw[Nat.mod_eq_of_lt (by omega)]
   have e:au .or (.int .u64 (x:Int)) (.int .u64 ((l.getD i 0 * 2 ^ (32 * i):Nat):Int))=some (.int .u64 (IntKind.wrap .u64 ((BitVec.ofInt 64 (x:Int) ||| BitVec.ofInt 64 ((l.getD i 0 * 2 ^ (32 * i):Nat):Int)).toNat:Int))):=by
    simp only[au,gV,↓reduceIte]
    rfl
   rw[e,Uy _ _ (by omega) (by omega),rA,kC]
   congr 2
   have:x ||| l.getD i 0 * 2 ^ (32 * i)=x+l.getD i 0 * 2 ^ (32 * i):=by
    rw[Nat.or_comm,Nat.mul_comm,←Nat.two_pow_add_eq_or_of_lt (by omega),Nat.add_comm]
   rw[this,vs,hx,zQ,←Nat.pow_mul,Nat.mul_comm (2 ^ (32 * i))]
   omega
  rw[Cf _ (aA _ _ _),bb,cc,if_pos (by simpa using h1),Qo _ (aA _ _ _),g,c1,m1,s1,o1,Qn _ (aA _ _ _),a3]
 have last:sj (PP T1 G X) v (.int .u64 (val l:Int)) (.int .i64 (l.length:Int)) (.int .i64 (l.length:Int)) s.ai= .ok (.int .u64 (val l:Int)) s:=by
  rw[Cf _ (aA _ _ _),bb,cc,if_neg (by simp),Qp _ (aA _ _ _),b8]
 rw[Vk,amw,ln]
 match l,hl with
 | [],_=>exact last
 | [x],_=>exact(step 0 0 (by simp) rfl).trans last
 | [x,y],_=>exact((step 0 0 (by simp) rfl).trans (step 1 _ (by simp) rfl)).trans last
theorem dP{s:St}{k:K1}(op:K1→ax):(PP T1 G X).ah (.bool true) true op s k=op k:=rfl
theorem fV{s:St}{k:K1}(op:K1→ax):(PP T1 G X).ah (.bool false) true op s k=k (.cS []) s:=rfl
theorem dA{s:St}{k:K1}(op:K1→ax):(PP T1 G X).ah (.bool false) false op s k=op k:=rfl
theorem eY{s:St}{k:K1}(op:K1→ax):(PP T1 G X).ah (.bool true) false op s k=k (.cS []) s:=rfl
theorem c7{s:St}{k:K1}(a b:AV):(PP T1 G X).aZ s k (.bool true) a b=k a s:=rfl
theorem dw{s:St}{k:K1}(a b:AV):(PP T1 G X).aZ s k (.bool false) a b=k b s:=rfl
theorem be(a b:ax):(PP T1 G X).aH (.bool true) a b=a:=rfl
theorem bf(a b:ax):(PP T1 G X).aH (.bool false) a b=b:=rfl
theorem zZ{s S:St}(hS:Child s S){j:Nat}{cs:List AV}(h:S.own[j]? =some (.cells cs))(hc:cs.length=2)(b:Bool){w:AV}{m:List Nat}(hw:Fz w m)(n:Int):
  (PP T1 G X).a7 S (fun _v s=>(PP T1 G X).aI false [gB s (.ref (.l j) 0) (some 2),some (.int .i64 n)] s) 2 (.ref (.l j) 0) (.agg [.bool b,w])= .ok (.cS [iM b w, .int .i64 n]) s:=by
 rw[se (n:=2) h rfl hc (by simp -implicitDefEqProofs only[List.all_cons,hw.dU,List.all_nil];rfl)]
 have hj:=(bZ.1 h).1
 rw[mM (n:=2) (cs:=[.bool b,w]) (by simp [hj]) rfl]
 have hC:Child s {S with own:=S.own.set j (.cells [.bool b,w])}:=⟨hS.up,hS.ro⟩
 refine iB hC (.agg [.bool b,w]) (.int .i64 n) (.agg [.bool b,w]) (.int .i64 n) ?_ rfl
 show(iT (dE _) [_,_]).map AV.agg=_
 simp -implicitDefEqProofs only[iT]
 rw[hw.dE,show dE _ (.bool b)=some (.bool b) from rfl]
 rfl
theorem SJ(s S:St)(hS:Child s S)(kH:S.own[0]? =some (.cells [.bool false, .sl 1 [] .nil])):∀(b m n:Nat),m < b→n < 18446744073709551616→m < 18446744073709551616→
  ∃w r,yJ (PP T1 G X) (.ref (.l 0) 0) (.int .u64 (n:Int)) (.int .u64 (m:Int)) S= .ok (.cS [iM false w, .int .i64 0]) s∧Fz w r∧bV r∧cN r∧val r=Nat.gcd n m:=by
 intro b
 induction b with
 | zero=>intro m n h;omega
 | succ b ih=>
  intro m n hb hn hm
  rw[Pr _ (aA _ _ _),dV]
  by_cases h0:m=0
  ·subst h0
   have c1:=fun(S:St) (k:K1)=>iH (T:=T1) (G:=G) (X:=X) (s:=S) (k:=k) .u64 n
   have c2:=fun(S:St) (k:K1)=>iH (T:=T1) (G:=G) (X:=X) (s:=S) (k:=k) .u64 (n / 4294967296)
   have bs:=fun(k:K1)=>oM (T:=T1) (G:=G) (X:=X) (s:=S) (k:=k) [n % 4294967296,n / 4294967296 % 4294967296]
   have fr:=Fz.bs [n % 4294967296,n / 4294967296 % 4294967296]
   have ol:bV [n % 4294967296,n / 4294967296 % 4294967296]:=fun x hx=>by
    rw[lX]
    simp at hx
    omega
   have hv:val [n % 4294967296,n / 4294967296 % 4294967296]=n:=by
    simp -implicitDefEqProofs only[val,lX];omega
   have hl:(dz [n % 4294967296,n / 4294967296 % 4294967296]).length≤128:=by
    rw[f9]
    have:=jh [n % 4294967296,n / 4294967296 % 4294967296] 2
    exact Nat.le_trans this (by decide)
   obtain⟨w,aot,fw⟩:=SH G X S false _ _ fr ol (by simp) hl
   refine⟨w,_,?_,fw,ig ol,fP _,by rw[im,hv,Nat.gcd_zero_right]⟩
   rw[show decide ((0:Int) < ((0:Nat):Int))=false from rfl,bf,Pq _ (aA _ _ _),c1,vk,c2]
   refine(bs _).trans ?_
   rw[fr.av,sd,aN aot,gP 0 _ _ rfl,gP 1 _ _ rfl,dc]
   exact zZ G X hS kH rfl _ fw 0
  ·have h1:(0:Int) < (m:Int):=by omega
   obtain⟨w,r,h2,h3,h4,h5,h6⟩:=ih (n % m) m (by have:=Nat.mod_lt n (Nat.pos_of_ne_zero h0);omega) hm (by have:=Nat.mod_lt n (Nat.pos_of_ne_zero h0);omega)
   refine⟨w,r,?_,h3,h4,h5,by rw[h6,Nat.gcd_comm,←Nat.gcd_rec,Nat.gcd_comm]⟩
   rw[a9 h1,be,Pp _ (aA _ _ _),J9 _ _ h0]
   exact h2
theorem SK(s S:St)(hS:Child s S)(kH:S.own[0]? =some (.cells [.bool false, .sl 1 [] .nil])):∀(b:Nat) (vx vy:AV) (x y:List Nat),val y < b→Fz vx x→Fz vy y→bV x→bV y→cN x→cN y→x.length≤128→y.length≤128→
  ∃w r,yK (PP T1 G X) (.ref (.l 0) 0) vx vy S= .ok (.cS [iM false w, .int .i64 0]) s∧Fz w r∧bV r∧cN r∧val r=Nat.gcd (val x) (val y):=by
 intro b
 induction b with
 | zero=>intro vx vy x y h;omega
 | succ b ih=>
  intro vx vy x y hb fx fy ox oy cx cy lx ly
  have XF:=fun(S:St) (k:K1)=>(fx.rd S).len (T:=T1) (G:=G) (X:=X) k S
  have SL:=fun(S:St) (k:K1)=>(fy.rd S).len (T:=T1) (G:=G) (X:=X) k S
  have j4:(y=[]∨(x.length≤2∧y.length≤2))→∃w r,Fb (PP T1 G X) (.ref (.l 0) 0) vx vy S= .ok (.cS [iM false w, .int .i64 0]) s∧Fz w r∧bV r∧cN r∧val r=Nat.gcd (val x) (val y):=fun aou=>by
   by_cases h2:x.length≤2
   ·have vQ:y.length≤2:=by
     rcases aou with h | h
     ·subst h;simp
     ·exact h.2
    have small:∀l:List Nat,bV l→l.length≤2→val l < 18446744073709551616:=fun l ol hl=>by
     have h3:=eK l ol
     have h4:B ^ l.length≤B ^ 2:=jH hl
     have h5:B ^ 2=18446744073709551616:=by decide
     omega
    obtain⟨w,r,g1,g2⟩:=SJ G X s S hS kH (val y+1) (val y) (val x) (by omega) (small x ox h2) (small y oy vQ)
    refine⟨w,r,?_,g2⟩
    have e:¬(2:Int) < (x.length:Int):=by omega
    rw[B7 _ (aA _ _ _),XF,dV,aT e,bf,Ps _ (aA _ _ _),fx.av,aN (SI G X S vx x fx ox h2),fy.av,aN (SI G X S vy y fy oy vQ)]
    exact g1
   ·have hy:y=[]:=by
     rcases aou with h | h
     ·exact h
     ·exact absurd h.1 h2
    subst hy
    have e:(2:Int) < (x.length:Int):=by omega
    have tx:dz x=x:=by
     have h1:=im x
     exact val_inj (ig ox) ox (tg (ig ox) ox (fP x) cx h1) h1
    obtain⟨w,aot,fw⟩:=SH G X S false vx x fx ox (by omega) (by rw[tx];exact lx)
    rw[tx] at fw
    refine⟨w,x,?_,fw,ox,cx,by simp [val]⟩
    rw[B7 _ (aA _ _ _),XF,dV,a9 e,be,fx.av,sd,aN aot,gP 0 _ _ rfl,gP 1 _ _ rfl,dc]
    exact zZ G X hS kH rfl _ fw 0
  by_cases hy:y=[]
  ·obtain⟨w,r,g1,g2⟩:=j4 (.inl hy)
   refine⟨w,r,?_,g2⟩
   have e:¬(0:Int) < (y.length:Int):=by subst hy;simp
   rw[qY _ (aA _ _ _),SL,dV,aT e]
   simp -implicitDefEqProofs only[fV,dw,bf]
   exact g1
  ·have e:(0:Int) < (y.length:Int):=by have:=List.length_pos_iff.2 hy;omega
   have hyv:val y≠0:=fun h=>hy ((q0 cy).1 h)
   have j3:∃w r,Fa (PP T1 G X) (.ref (.l 0) 0) vx vy S= .ok (.cS [iM false w, .int .i64 0]) s∧Fz w r∧bV r∧cN r∧val r=Nat.gcd (val x) (val y):=by
    obtain⟨v,w,q,r,aEN,fq,oq,cq,fr,or,cr,eq,er⟩:=aop G X S vx vy x y fx fy ox oy cx cy hy (by omega) (by omega)
    have cM:=Nat.mod_lt (val x) (Nat.pos_of_ne_zero hyv)
    have lr:r.length≤128:=by
     have h3:=eK y oy
     have h4:B ^ y.length≤B ^ 128:=jH ly
     exact th cr (by omega)
    obtain⟨w2,r2,g1,g2,g3,g4,g5⟩:=ih vy w y r (by omega) fy fr oy or cy cr ly lr
    refine⟨w2,r2,?_,g2,g3,g4,by rw[g5,er,Nat.gcd_comm,←Nat.gcd_rec,Nat.gcd_comm]⟩
    rw[Po _ (aA _ _ _),fx.av,fy.av,aN aEN,gP 0 _ v rfl,gP 1 _ w rfl]
    exact g1
   by_cases h2:2 < x.length
   ·obtain⟨w,r,g1,g2⟩:=j3
    refine⟨w,r,?_,g2⟩
    have e2:(2:Int) < (x.length:Int):=by omega
    rw[qY _ (aA _ _ _),SL,dV,a9 e]
    simp -implicitDefEqProofs only[dP,eY,c7,be,↓XF,↓dV,a9 e2]
    exact g1
   ·have e2:¬(2:Int) < (x.length:Int):=by omega
    by_cases h3:2 < y.length
    ·obtain⟨w,r,g1,g2⟩:=j3
     refine⟨w,r,?_,g2⟩
     have e3:(2:Int) < (y.length:Int):=by omega
     rw[qY _ (aA _ _ _),SL,dV,a9 e]
     simp -implicitDefEqProofs only[dP,dA,c7,dw,be,↓XF,↓SL,↓dV,aT e2,a9 e3]
     exact g1
    ·obtain⟨w,r,g1,g2⟩:=j4 (.inr ⟨by omega,by omega⟩)
     refine⟨w,r,?_,g2⟩
     have e3:¬(2:Int) < (y.length:Int):=by omega
     rw[qY _ (aA _ _ _),SL,dV,a9 e]
     simp -implicitDefEqProofs only[dP,dA,c7,dw,bf,↓XF,↓SL,↓dV,aT e2,aT e3]
     exact g1
theorem kD{n:Bool}{l:List Nat}(h:gE n l=true):cN l∧l.length≤128:=by
 unfold gE at h
 split at h
 ·rename_i h0
  exact⟨fun cK=>absurd (List.eq_nil_of_length_eq_zero h0) cK,by omega⟩
 ·simp -implicitDefEqProofs only[bD,jV] at h
  exact⟨fun _=>h.2,h.1⟩
theorem aov(s:St)(n1 n2:Bool)(v1 v2:AV)(x y:List Nat)(fx:Fz v1 x)(fy:Fz v2 y)(ox:bV x)(oy:bV y)(hx:gE n1 x=true)(hy:gE n2 y=true):
  ∃w r,aJ T1 G X 150 [iM n1 v1,iM n2 v2] s= .ok (.cS [iM false w, .int .i64 0]) s∧Fz w r∧bV r∧cN r∧val r=Nat.gcd (val x) (val y):=by
 obtain⟨cx,lx⟩:=kD hx
 obtain⟨cy,ly⟩:=kD hy
 have hS:Child s (s.ai.new (.cells [.bool false, .sl 1 [] .nil])):=(Child.ai s).new _
 obtain⟨w,r,h1,h2⟩:=SK G X s _ hS (by rfl) (val y+1) v1 v2 x y (by omega) fx fy ox oy cx cy lx ly
 refine⟨w,r,?_,h2⟩
 have axN:=aor G X (s.ai.new (.cells [.bool false, .sl 1 [] .nil])) n1 n2 v1 v2 x y fx fy (by omega) (by omega)
 rw[hx,hy,Bool.and_self] at axN
 rw[U5,amh]
 simp -implicitDefEqProofs only[↓jR,↓cc,↓bE,↓bP,↓dF,↓fh,bW,dT,↓reduceIte,dc,Nat.zero_add,cP,eh,Nat.reduceAdd,↓e7,Nat.le_refl,List.take_succ_cons,List.take_zero,co,↓(aN axN),Bool.not_true,Pt _ (aA _ _ _)]
 exact h1
def qG(n:Bool)(l:List Nat):Bool:= !n && decide (l=[1])
theorem I9{l:List Nat}(h:l.length=1):l=[1]↔l.getD 0 0=1:=by
 match l,h with
 | [x],_=>simp [List.getD]
theorem SM(s:St)(n:Bool)(v:AV)(l:List Nat)(h:Fz v l):aJ T1 G X 149 [iM n v] s= .ok (.bool (qG n l)) s:=by
 have ln:=fun(S:St) (k:K1)=>(h.rd S).len (T:=T1) (G:=G) (X:=X) k S
 rw[Vs,amJ]
 cases n with
 | true=>simp -implicitDefEqProofs only[↓bE,↓bP,↓dF,↓iG,↓om,↓ot,↓fh,↓bq,bW,dT,↓reduceIte,co,Bool.not_true,qG,Bool.false_and]
 | false=>
  by_cases h1:l.length=1
  ·have e:(l.length:Int)=1:=by omega
   have g:=fun(k:K1)=>(h.rd s.ai).get (T:=T1) (G:=G) (X:=X) .i64 0 (by omega) k
   have g':∀k:K1,(PP T1 G X).aX s.ai (fun v S=>(PP T1 G X).aq S k none v) 1 v (.int .i64 0)=k (U (l.getD 0 0)) s.ai:=g
   simp -implicitDefEqProofs only[↓bE,↓bP,↓dF,↓iG,↓om,↓ot,↓bj,↓fh,↓bq,bW,dT,↓reduceIte,decide_true,Bool.not_false,qG,Bool.true_and,↓ln,eq_true e,↓g']
   congr 3
   rw[eq_iff_iff,I9 h1]
   omega
  ·have e:¬(l.length:Int)=1:=by omega
   have:¬l=[1]:=fun e=>h1 (by rw[e];rfl)
   simp -implicitDefEqProofs only[↓bE,↓bP,↓dF,↓iG,↓om,↓ot,↓bj,↓fh,↓bq,bW,dT,↓reduceIte,decide_false,co,Bool.not_false,qG,Bool.true_and,↓ln,eq_false e,eq_false this]
theorem aow(s:St)(n:Bool)(v:AV)(l:List Nat)(h:Fz v l):aJ T1 G X 148 [iM n v] s= .ok (.bool (decide (l=[]))) s:=by
 have ln:=fun(S:St) (k:K1)=>(h.rd S).len (T:=T1) (G:=G) (X:=X) k S
 rw[Vr,amI]
 simp -implicitDefEqProofs only[↓bE,↓bP,↓dF,↓bj,↓bq,bW,dT,↓ln]
 congr 3
 rw[eq_iff_iff]
 cases l <;> simp <;> omega
def lP(n1 n2:Bool)(x y:List Nat):Bool:=gE n1 x && gE n2 y && !n2 && decide (y≠[]) && decide (Nat.gcd (val x) (val y)=1)
theorem GL{l:List Nat}(ol:bV l)(cl:cN l):l=[1]↔val l=1:=by
 constructor
 ·intro h;subst h;simp [val]
 ·intro h
  have o1:bV [1]:=fun x hx=>by rw[List.mem_singleton.1 hx,lX];omega
  have c1:cN [1]:=fun _=>by simp
  have v1:val [1]=1:=by simp [val]
  exact val_inj ol o1 (tg ol o1 cl c1 (by rw[h,v1])) (by rw[h,v1])
theorem aox(s:St)(n1 n2:Bool)(v1 v2:AV)(x y:List Nat)(fx:Fz v1 x)(fy:Fz v2 y)(ox:bV x)(oy:bV y)(bx:x.length < 9223372036854775807)(by':y.length < 9223372036854775807):
  aJ T1 G X 116 [.agg [.bool n1,v1, .bool n2,v2]] s= .ok (.bool (lP n1 n2 x y)) s:=by
 have c1:=zY G X s.ai n1 v1 x fx bx
 have c2:=zY G X s.ai n2 v2 y fy by'
 have c3:=aow G X s.ai n2 v2 y fy
 have c4:=SM G X s.ai n2 v2 y fy
 rw[Vo,amF]
 cases e1:gE n1 x with
 | false=>
  rw[e1] at c1
  simp -implicitDefEqProofs only[↓cc,↓bE,↓bP,↓dF,↓nB,↓qu,↓EO,↓fh,↓bq,bW,dT,↓reduceIte,dc,Nat.zero_add,cP,eh,Nat.reduceAdd,↓e7,Nat.reduceLeDiff,Nat.le_refl,List.take_succ_cons,List.take_zero,↓(aN c1),Bool.not_false,lP,e1,Bool.false_and]
 | true=>
  rw[e1] at c1
  cases e2:gE n2 y with
  | false=>
   rw[e2] at c2
   simp -implicitDefEqProofs only[↓cc,↓bE,↓bP,↓dF,↓nB,↓qu,↓EO,↓fh,↓bq,bW,dT,↓reduceIte,dc,Nat.zero_add,cP,eh,Nat.reduceAdd,↓e7,Nat.reduceLeDiff,Nat.le_refl,List.take_succ_cons,List.take_zero,co,↓(aN c1),↓(aN c2),Bool.not_true,Bool.not_false,lP,e1,e2,Bool.false_and,Bool.and_false]
  | true=>
   rw[e2] at c2
   cases n2 with
   | true=>simp -implicitDefEqProofs only[↓cc,↓bE,↓bP,↓dF,↓nB,↓qu,↓EO,↓fh,↓bq,bW,dT,↓reduceIte,dc,Nat.zero_add,cP,eh,Nat.reduceAdd,Bool.and_self,↓e7,Nat.reduceLeDiff,Nat.le_refl,List.take_succ_cons,List.take_zero,co,↓(aN c1),↓(aN c2),Bool.not_true,lP,e1,e2,Bool.false_and,Bool.and_false]
   | false=>
    by_cases hy:y=[]
    ·simp -implicitDefEqProofs only[↓cc,↓bE,↓bP,↓dF,↓nB,↓qu,↓EO,↓fh,↓bq,bW,dT,↓reduceIte,dc,Nat.zero_add,cP,eh,Nat.reduceAdd,↓e7,Nat.reduceLeDiff,Nat.le_refl,List.take_succ_cons,List.take_zero,decide_true,decide_false,co,↓(aN c1),↓(aN c2),↓(aN c3),Bool.not_true,lP,e1,hy,Bool.false_and,Bool.and_false,ne_eq,not_true_eq_false]
    ·obtain⟨cy,ly⟩:=kD e2
     simp -implicitDefEqProofs only[↓cc,↓bE,↓bP,↓dF,↓nB,↓qu,↓EO,↓fh,↓bq,bW,dT,↓reduceIte,dc,Nat.zero_add,cP,eh,Nat.reduceAdd,Bool.and_self,↓e7,Nat.reduceLeDiff,Nat.le_refl,List.take_succ_cons,List.take_zero,decide_true,decide_false,co,↓(aN c1),↓(aN c2),↓(aN c3),↓(aN c4),Bool.not_true,lP,e1,e2,eq_false hy,Bool.not_false,Bool.true_and,ne_eq,not_false_eq_true,QH _ (aA _ _ _)]
     by_cases h1:y=[1]
     ·have:Nat.gcd (val x) (val y)=1:=by rw[(GL oy cy).1 h1,Nat.gcd_one_right]
      simp -implicitDefEqProofs only[qG,Bool.not_false,a9 h1,eq_true this,↓reduceIte,Bool.and_self,decide_true]
     ·obtain⟨w,r,aoy,fw,or,cr,er⟩:=aov G X s.ai n1 false v1 v2 x y fx fy ox oy e1 e2
      have aoz:=fun S:St=>SM G X S false w r fw
      have ld:=fun(k:K1)=>qz (T:=T1) (G:=G) (X:=X) (s:=s.ai) (k:=k) 2 [.bool false,w] [.bool false, .sl 1 [] .nil] rfl rfl (by simp -implicitDefEqProofs only[List.all_cons,fw.dU,List.all_nil];rfl)
      simp -implicitDefEqProofs only[qG,Bool.not_false,Bool.true_and,aT h1,co,QG _ (aA _ _ _),↓jR,↓dF,↓J7,bW,dT,↓reduceIte,dc,Nat.zero_add,cP,eh,Nat.reduceAdd,↓e7,Nat.reduceLeDiff,Nat.le_refl,List.take_succ_cons,List.take_zero,co,↓(aN aoy),↓lm,↓lq,↓ld,↓(aN (aoz _))]
      rw[eH ((Child.ai s).new _)]
      congr 3
      rw[eq_iff_iff,GL or cr,er]
end Go.jY
end
section
namespace Go.iY
theorem getD_none(l:List Nat)(i:Nat)(h:l.length≤i):l.getD i 0=0:=by
 simp only[List.getD];rw[List.getElem?_eq_none h];rfl
theorem z0(l:List Nat)(i:Nat):val (l.take (i+1))=val (l.take i)+B ^ i * l.getD i 0:=by
 by_cases h:i < l.length
 ·exact val_succ l i h
 ·rw[getD_none l i (by omega),Nat.mul_zero,Nat.add_zero (val _),List.take_of_length_le (by omega),List.take_of_length_le (by omega)]
theorem AZ(l:List Nat)(i x:Nat)(h:i < l.length):val ((l.set i x).take (i+1))=val (l.take i)+B ^ i * x:=by
 rw[val_succ _ i (by simpa using h),nF (Nat.le_refl _),fj h]
theorem SN{a b out:List Nat}{i bw:Nat}(hi:i < out.length)(oa:bV a)(ob:bV b)(oo:bV out)(hbw:bw≤1)(h:val (out.take i)+val (b.take i)=val (a.take i)+bw * B ^ i):
  (a.getD i 0 < bw+b.getD i 0→a.getD i 0+4294967296 - (bw+b.getD i 0) < B∧val ((out.set i (a.getD i 0+4294967296 - (bw+b.getD i 0))).take (i+1))+val (b.take (i+1))=val (a.take (i+1))+1 * B ^ (i+1))∧
  (¬a.getD i 0 < bw+b.getD i 0→a.getD i 0 - (bw+b.getD i 0) < B∧val ((out.set i (a.getD i 0 - (bw+b.getD i 0))).take (i+1))+val (b.take (i+1))=val (a.take (i+1))+0 * B ^ (i+1)):=by
 have x1:=oa.getD i
 have x2:=ob.getD i
 have hB:B=4294967296:=rfl
 rw[AZ out i _ hi,AZ out i _ hi,z0 a,z0 b,Nat.pow_succ]
 generalize a.getD i 0=x at *
 generalize b.getD i 0=y at *
 generalize val (out.take i)=O at *
 generalize val (b.take i)=P at *
 generalize val (a.take i)=Q at *
 generalize B ^ i=W at *
 refine⟨fun cM=>⟨by omega,?_⟩,fun cM=>⟨by omega,?_⟩⟩
 ·have e:W * (x+4294967296 - (bw+y))+W * (bw+y)=W * x+W * B:=by rw[←Nat.mul_add,←Nat.mul_add];congr 1;omega
  rw[Nat.mul_add,Nat.mul_comm W bw] at e
  omega
 ·have e:W * (x - (bw+y))+W * (bw+y)=W * x:=by rw[←Nat.mul_add];congr 1;omega
  rw[Nat.mul_add,Nat.mul_comm W bw] at e
  omega
theorem XG{a b out:List Nat}{i c:Nat}(hi:i < out.length)(h:val (out.take i)+c * B ^ i=val (a.take i)+val (b.take i)):
  val ((out.set i ((c+a.getD i 0+b.getD i 0) % B)).take (i+1))+(c+a.getD i 0+b.getD i 0) / B * B ^ (i+1)=val (a.take (i+1))+val (b.take (i+1)):=by
 rw[AZ out i _ hi,z0 a,z0 b,Nat.pow_succ]
 generalize a.getD i 0=x at *
 generalize b.getD i 0=y at *
 generalize val (out.take i)=O at *
 generalize val (b.take i)=P at *
 generalize val (a.take i)=Q at *
 generalize B ^ i=W at *
 have e:W * ((c+x+y) % B)+W * (B * ((c+x+y) / B))=W * (c+x+y):=by rw[←Nat.mul_add,Nat.mod_add_div]
 have e2:(c+x+y) / B * (W * B)=W * (B * ((c+x+y) / B)):=by ac_rfl
 rw[Nat.mul_add,Nat.mul_add,Nat.mul_comm W c] at e
 omega
theorem ahG{c x y:Nat}(hc:c≤1)(hx:x < B)(hy:y < B):(c+x+y) / B≤1:=by
 rw[lX] at *
 omega
theorem ahH{a b out:List Nat}{c N:Nat}(oa:bV a)(ob:bV b)(ha:a.length+1≤N)(hb:b.length+1≤N)(hl:out.length=N)(h:val (out.take N)+c * B ^ N=val (a.take N)+val (b.take N)):val out=val a+val b:=by
 rw[List.take_of_length_le (by omega),List.take_of_length_le (by omega),List.take_of_length_le (by omega)] at h
 have h1:=eK a oa
 have h2:=eK b ob
 have h3:B ^ a.length≤B ^ (N - 1):=jH (by omega)
 have h4:B ^ b.length≤B ^ (N - 1):=jH (by omega)
 have h5:B ^ N=B ^ (N - 1) * B:=by rw[←Nat.pow_succ];congr 1;omega
 have h6:B ^ (N - 1) * 2≤B ^ (N - 1) * B:=Nat.mul_le_mul_left _ (by decide)
 have hc:c=0:=by
  rcases Nat.eq_zero_or_pos c with e | e
  ·exact e
  ·have:1 * B ^ N≤c * B ^ N:=Nat.mul_le_mul_right _ e
   omega
 subst hc
 omega
theorem XH{a b out:List Nat}{bw:Nat}(oa:bV a)(oo:bV out)(hbw:bw≤1)(hb:b.length≤a.length)(hl:out.length=a.length)(hle:val b≤val a)(h:val (out.take a.length)+val (b.take a.length)=val (a.take a.length)+bw * B ^ a.length):val out=val a - val b:=by
 rw[List.take_of_length_le (by omega),List.take_of_length_le (by omega),List.take_of_length_le (by omega)] at h
 have h1:=eK out oo
 rw[hl] at h1
 have hc:bw=0:=by
  rcases Nat.eq_zero_or_pos bw with e | e
  ·exact e
  ·have:bw=1:=by omega
   subst this
   omega
 subst hc
 omega
end Go.iY
end
section
namespace Go.jY
open Go.Ab Go.iY
variable(G:Nat→AV)(X:Nat→List AV→St→ax)
theorem ahI{S:St}{v:AV}{l:List Nat}(h:Rd S v l):mw v l.length=v:=by
 cases h with
 | sl l g hg=>
  show AV.sl 1 ((l.map U).take l.length) (nP g (l.map U).length l.length)=_
  rw[List.take_of_length_le (by simp)]
  congr 1
  cases g <;> first | rfl | simp [nP]
 | ck=>rfl
theorem ahJ{S:St}{v:AV}{l:List Nat}(h:Rd S v l)(a b:Nat)(hba:b≤a)(ya:a≤l.length):mw (mw v a) b=mw v b:=by
 cases h with
 | sl l g hg=>
  show AV.sl 1 (((l.map U).take a).take b) (nP (nP g (l.map U).length a) ((l.map U).take a).length b)= .sl 1 ((l.map U).take b) (nP g (l.map U).length b)
  rw[List.take_take,Nat.min_eq_left hba]
  congr 1
  cases g with
  | bJ c=>
   simp only[nP,cw,List.length_take,true_and]
   by_cases h1:a=l.length
   ·subst h1;simp
   ·simp [h1,show¬b=l.length by omega]
  | nil=>rfl
  | any=>rfl
  | exact=>
   simp only[nP,cw,List.length_take]
   by_cases h1:a=l.length
   ·subst h1;simp
   ·rw[if_neg h1,if_neg (show¬b=l.length by omega)]
 | ck=>rfl
theorem GM(s:St)(v:AV)(l:List Nat)(h:Rd s v l)(hb:l.length < 9223372036854775807):aJ T1 G X 178 [v] s= .ok (mw v (fA l l.length)) s:=by
 have hS:=Child.ai s
 have loop:∀n,n≤l.length→y4 (PP T1 G X) (mw v n) s.ai= .ok (mw v (fA l n)) s:=fun n=>by
  induction n with
  | zero=>
   intro hn
   have hc:=h.cut 0 hn
   have ln:=fun(S:St) (k:K1)=>hc.len (T:=T1) (G:=G) (X:=X) k S
   rw[Ch _ (aA _ _ _),ln]
   simp only[List.take_zero,eh]
   rw[dV,show decide ((0:Int) < ((0:Nat):Int))=false from rfl]
   simp only[fV,dw,bf,Cg _ (aA _ _ _)]
   exact jv hS _ _ (hc.same hS)
  | succ n ih=>
   intro hn
   have hc:=h.cut (n+1) hn
   have hln:(l.take (n+1)).length=n+1:=by simp;omega
   have ln:=fun(S:St) (k:K1)=>hc.len (T:=T1) (G:=G) (X:=X) k S
   rw[hln] at ln
   have a1:=fun(S:St) (k:K1)=>ku (T:=T1) (G:=G) (X:=X) (s:=S) (k:=k) (n+1) (by omega) (by omega)
   simp only[Nat.add_sub_cancel] at a1
   have g:=fun(k:K1)=>(hc.vw hS.vw).get (T:=T1) (G:=G) (X:=X) .i64 n (by omega) k
   have eg:(l.take (n+1)).getD n 0=l.getD n 0:=by simp [List.getD]
   rw[eg] at g
   have sl:=fun(S:St) (k:K1)=>hc.slice (T:=T1) (G:=G) (X:=X) n (by omega) k S
   have e:(0:Int) < ((n+1:Nat):Int):=by omega
   rw[Ch _ (aA _ _ _),ln,dV,a9 e]
   simp only[dP,↓ln,↓a1,↓g,↓bj]
   by_cases h0:l.getD n 0=0
   ·have e0:((l.getD n 0:Nat):Int)=0:=by omega
    rw[a9 e0]
    simp only[c7,be,Qs _ (aA _ _ _),↓ln,↓a1,↓sl]
    rw[ahJ h (n+1) n (by omega) hn,ih (by omega),fA,if_pos h0]
   ·have e0:¬((l.getD n 0:Nat):Int)=0:=by omega
    rw[aT e0]
    simp only[c7,bf,Cg _ (aA _ _ _)]
    rw[fA,if_neg h0]
    exact jv hS _ _ (hc.same hS)
 have:=loop l.length (Nat.le_refl _)
 rw[ahI h] at this
 rw[Vl,amx]
 exact this
theorem wP{s S:St}(hS:Child s S){j:Nat}{l:List Nat}(h:gj S j l)(n:Nat)(hn:n=l.length)(hb:l.length < 9223372036854775807):∃v,Fz v (dz l)∧(PP T1 G X).aB S (fun v s=>(PP T1 G X).aI false [some v] s) 178 [.ck (.g S.aa j) 0 n n 1]= .ok v s:=by
 subst hn
 have hr:=h.rd l.length l.length (Nat.le_refl _) (Nat.le_refl _)
 rw[List.take_length] at hr
 rw[aN (GM G X S _ l hr hb)]
 have hle:=jh l l.length
 obtain⟨v,h1,h2⟩:=m6 (S:=S) (j:=j) (off:=0) (cap:=l.length) (dz l) (n:=fA l l.length) (f9 l).symm h (by
  rw[bW,f9];simp [dz,List.map_take]) (by rw[f9];simpa using hle)
 exact⟨v,h2,jv hS _ _ h1⟩
theorem aoB{s:St}{k:K1}(a:Nat)(h:a < 4294967296):(PP T1 G X).ak s k (au .and (.int .u32 (a:Int)) (.int .u32 1))=k (.int .u32 ((a % 2:Nat):Int)) s:=by
 have e:au .and (.int .u32 (a:Int)) (.int .u32 1)=some (.int .u32 (IntKind.wrap .u32 ((BitVec.ofInt 32 (a:Int) &&& BitVec.ofInt 32 1).toNat:Int))):=by
  simp only[au,gV,↓reduceIte]
  rfl
 rw[e,rA,wrap_u32]
 congr 2
 rw[BitVec.toNat_and]
 simp only[BitVec.toNat_ofInt]
 have h1:(((a:Int) % ((2 ^ 32:Nat):Int))).toNat=a:=by omega
 have h2:(((1:Int) % ((2 ^ 32:Nat):Int))).toNat=1:=by decide
 rw[h1,h2,Nat.and_one_is_mod]
 omega
theorem GN(s:St)(v:AV)(l:List Nat)(i:Nat)(h:Rd s v l)(ol:bV l)(hi:i < 4294967296):aJ T1 G X 157 [v, .int .i64 (i:Int)] s= .ok (.int .u32 ((val l / 2 ^ i % 2:Nat):Int)) s:=by
 have hS:=Child.ai s
 have q1:=fun(S:St) (k:K1)=>m5 (T:=T1) (G:=G) (X:=X) (s:=S) (k:=k) i (by omega)
 have r1:=fun(S:St) (k:K1)=>pW (T:=T1) (G:=G) (X:=X) (s:=S) (k:=k) i
 have ln:=fun(S:St) (k:K1)=>h.len (T:=T1) (G:=G) (X:=X) k S
 have hx:=ol.getD (i / 32)
 rw[lX] at hx
 rw[U8,aml,q1,ln,gQ,←aol l ol i]
 by_cases hc:l.length≤i / 32
 ·have e:(l.length:Int)≤((i / 32:Nat):Int):=by omega
  rw[a9 e,be,b8,getD_none l _ hc,Nat.zero_div]
  rfl
 ·have e:¬(l.length:Int)≤((i / 32:Nat):Int):=by omega
  have g:=fun(k:K1)=>(h.vw hS.vw).get (T:=T1) (G:=G) (X:=X) .i64 (i / 32) (by omega) k
  have s1:=fun(S:St) (k:K1)=>wL (T:=T1) (G:=G) (X:=X) (s:=S) (k:=k) .i64 (l.getD (i / 32) 0) (i % 32) (by omega)
  have cM:l.getD (i / 32) 0 / 2 ^ (i % 32) < 4294967296:=Nat.lt_of_le_of_lt (Nat.div_le_self _ _) hx
  rw[aT e,bf,PF _ (aA _ _ _),q1,g,r1,s1,aoB G X _ cM,b8]
theorem aoC(s:St)(va vb:AV)(a b:List Nat)(ha:Rd s va a)(hb:Rd s vb b)(oa:bV a)(ob:bV b)(ca:cN a)(cb:cN b)(f8:a.length < 9223372036854775807)(an5:b.length < 9223372036854775807):
  aJ T1 G X 159 [va,vb] s= .ok (.int .i64 (jS (val a) (val b))) s:=by
 have hS:=Child.ai s
 have AY:=fun(S:St) (k:K1)=>ha.len (T:=T1) (G:=G) (X:=X) k S
 have GK:=fun(S:St) (k:K1)=>hb.len (T:=T1) (G:=G) (X:=X) k S
 rw[Ve,amo,AY,GK,eO]
 by_cases hl:a.length=b.length
 ·have e:(a.length:Int)=(b.length:Int):=by omega
  have loop:∀n,n≤a.length→val (a.drop n)=val (b.drop n)→yR (PP T1 G X) va vb (.int .i64 ((n:Int) - 1)) s.ai= .ok (.int .i64 (jS (val a) (val b))) s:=fun n=>by
   induction n with
   | zero=>
    intro _ he
    rw[bW,bW] at he
    rw[Ca _ (aA _ _ _),gQ,show decide ((0:Int)≤((0:Nat):Int) - 1)=false from rfl,bf,PV _ (aA _ _ _),b8,he]
    simp [jS]
   | succ n ih=>
    intro hn he
    have e1:((n+1:Nat):Int) - 1=(n:Int):=by omega
    have e2:(0:Int)≤(n:Int):=by omega
    have ga:=fun(k:K1)=>(ha.vw hS.vw).get (T:=T1) (G:=G) (X:=X) .i64 n (by omega) k
    have gb:=fun(k:K1)=>(hb.vw hS.vw).get (T:=T1) (G:=G) (X:=X) .i64 n (by omega) k
    have da:=lO a n (by omega)
    have db:=lO b n (by omega)
    have sa:=jZ a n (by omega)
    have sb:=jZ b n (by omega)
    have la:=eK (a.take n) (oa.take n)
    have lb:=eK (b.take n) (ob.take n)
    rw[show(a.take n).length=n by simp;omega] at la
    rw[show(b.take n).length=n by simp;omega] at lb
    rw[e1,Ca _ (aA _ _ _),gQ,a9 e2,be,PU _ (aA _ _ _),ga,gb,bb]
    by_cases h1:a.getD n 0 < b.getD n 0
    ·have nk:((a.getD n 0:Nat):Int) < ((b.getD n 0:Nat):Int):=by omega
     have:val a < val b:=by
      rw[sa,sb]
      have h1:val (a.drop n)+1≤val (b.drop n):=by rw[da,db,he];omega
      have h2:=Nat.mul_le_mul_left (B ^ n) h1
      rw[Nat.mul_add,Nat.mul_one] at h2
      omega
     rw[a9 nk,be,b8]
     simp [jS,this]
    ·have nk:¬((a.getD n 0:Nat):Int) < ((b.getD n 0:Nat):Int):=by omega
     rw[aT nk,bf,PT _ (aA _ _ _),ga,gb,dV]
     by_cases h2:b.getD n 0 < a.getD n 0
     ·have h2':((b.getD n 0:Nat):Int) < ((a.getD n 0:Nat):Int):=by omega
      have:val b < val a:=by
       rw[sa,sb]
       have h1:val (b.drop n)+1≤val (a.drop n):=by rw[da,db,he];omega
       have h2:=Nat.mul_le_mul_left (B ^ n) h1
       rw[Nat.mul_add,Nat.mul_one] at h2
       omega
      rw[a9 h2',be,b8]
      simp [jS,this,Nat.not_lt.2 (Nat.le_of_lt this)]
     ·have h2':¬((b.getD n 0:Nat):Int) < ((a.getD n 0:Nat):Int):=by omega
      have eqx:a.getD n 0=b.getD n 0:=by omega
      rw[aT h2',bf,PS _ (aA _ _ _),qv,ie _ (by omega) (by omega)]
      exact ih (by omega) (by rw[da,db,he,eqx])
  rw[aT (by simpa using e),bf,PW _ (aA _ _ _),AY,qv,ie _ (by omega) (by omega)]
  exact loop a.length (Nat.le_refl _) (by rw[List.drop_length,hl,List.drop_length])
 ·have e:¬(a.length:Int)=(b.length:Int):=by omega
  rw[a9 e,be,AY,GK,bb]
  by_cases h1:a.length < b.length
  ·have nk:(a.length:Int) < (b.length:Int):=by omega
   have:=m7 oa cb h1
   rw[a9 nk,be,b8]
   simp [jS,this]
  ·have nk:¬(a.length:Int) < (b.length:Int):=by omega
   have:=m7 ob ca (by omega:b.length < a.length)
   rw[aT nk,bf,PR _ (aA _ _ _),b8]
   simp [jS,this,Nat.not_lt.2 (Nat.le_of_lt this)]
theorem aoD(s:St)(va vb:AV)(a b:List Nat)(ha:Rd s va a)(hb:Rd s vb b)(oa:bV a)(ob:bV b)(hlen:b.length≤a.length)(hle:val b≤val a)(f8:a.length < 4294967296):
  ∃v q,aJ T1 G X 160 [va,vb] s= .ok v s∧Fz v q∧bV q∧cN q∧val q=val a - val b:=by
 have AY:=fun(S:St) (k:K1)=>ha.len (T:=T1) (G:=G) (X:=X) k S
 have GK:=fun(S:St) (k:K1)=>hb.len (T:=T1) (G:=G) (X:=X) k S
 have loop:∀(m i bw:Nat) (out:List Nat) (S:St),i+m=a.length→Child s S→gj S s.ai.own.length out→out.length=a.length→bV out→bw≤1→val (out.take i)+val (b.take i)=val (a.take i)+bw * B ^ i→
   ∃v q,yU (PP T1 G X) va vb (.ck (.l s.ai.own.length) 0 a.length a.length 1) (.int .u64 (bw:Int)) (.int .i64 (i:Int)) S= .ok v s∧Fz v q∧bV q∧cN q∧val q=val a - val b:=by
  intro m
  induction m with
  | zero=>
   intro i bw out S hi hS hj hl oo hbw hv
   have h:¬((i:Int) < (a.length:Int)):=by omega
   obtain⟨v,f1,f2⟩:=wP G X hS hj a.length hl.symm (by omega)
   refine⟨v,dz out,?_,f1,ig oo,fP out,?_⟩
   ·rw[Cc _ (aA _ _ _),AY,bb,aT h,bf,P1 _ (aA _ _ _),fX]
    exact f2
   ·rw[im]
    rw[show i=a.length by omega] at hv
    exact XH oa oo hbw hlen hl hle hv
  | succ m ih=>
   intro i bw out S hi hS hj hl oo hbw hv
   have h:(i:Int) < (a.length:Int):=by omega
   have fD:=SN (by omega:i < out.length) oa ob oo hbw hv
   have x1:=oa.getD i
   have x2:=ob.getD i
   have hB:=lX
   rw[hB] at x1 x2
   have ga:=fun(k:K1)=>(ha.vw hS.vw).get (T:=T1) (G:=G) (X:=X) .i64 i (by omega) k
   have c1:=fun(S:St) (k:K1)=>fW (T:=T1) (G:=G) (X:=X) (s:=S) (k:=k) (a.getD i 0) x1
   have c2:=fun(S:St) (k:K1)=>fW (T:=T1) (G:=G) (X:=X) (s:=S) (k:=k) (b.getD i 0) x2
   have rC:=fun y (k:K1)=>hj.st (T:=T1) (G:=G) (X:=X) i a.length a.length y (by omega) (by omega) k
   have a3:=fun(S:St) (k:K1)=>gD G X S k i (by omega)
   have j3:∃v q,yT (PP T1 G X) va vb (.ck (.l s.ai.own.length) 0 a.length a.length 1) (.int .i64 (i:Int)) (.int .u64 ((bw+b.getD i 0:Nat):Int)) S= .ok v s∧Fz v q∧bV q∧cN q∧val q=val a - val b:=by
    rw[PZ _ (aA _ _ _),ga,c1,bb]
    by_cases cM:a.getD i 0 < bw+b.getD i 0
    ·obtain⟨k1,k2⟩:=fD.1 cM
     have e:((a.getD i 0:Nat):Int) < ((bw+b.getD i 0:Nat):Int):=by omega
     have ad:=fun(S:St) (k:K1)=>oz (T:=T1) (G:=G) (X:=X) (s:=S) (k:=k) (a.getD i 0) 4294967296
     have ad':∀(S:St) (k:K1),(PP T1 G X).ak S k (au .add (.int .u64 ((a.getD i 0:Nat):Int)) (.int .u64 4294967296))=k (.int .u64 ((a.getD i 0+4294967296:Nat):Int)) S:=fun S k=>by
      refine(ad S k).trans ?_
      rw[Nat.mod_eq_of_lt (by omega)]
     have es:qX (a.getD i 0+4294967296) (bw+b.getD i 0)=a.getD i 0+4294967296 - (bw+b.getD i 0):=by unfold qX;omega
     have em:(a.getD i 0+4294967296 - (bw+b.getD i 0)) % 4294967296=a.getD i 0+4294967296 - (bw+b.getD i 0):=Nat.mod_eq_of_lt (by omega)
     obtain⟨v,q,g1,g2⟩:=ih (i+1) 1 _ _ (by omega) (hS.put _ _) (hj.put (out.set i (a.getD i 0+4294967296 - (bw+b.getD i 0)))) (by simpa using hl) (oo.set _ _ k1) (by omega) k2
     refine⟨v,q,?_,g2⟩
     rw[a9 e,be,ga,c1,ad',td,es,iH,em]
     simp only[cD]
     rw[rC,Cb _ (aA _ _ _),a3]
     exact g1
    ·obtain⟨k1,k2⟩:=fD.2 cM
     have e:¬((a.getD i 0:Nat):Int) < ((bw+b.getD i 0:Nat):Int):=by omega
     have es:qX (a.getD i 0) (bw+b.getD i 0)=a.getD i 0 - (bw+b.getD i 0):=by unfold qX;omega
     have em:(a.getD i 0 - (bw+b.getD i 0)) % 4294967296=a.getD i 0 - (bw+b.getD i 0):=Nat.mod_eq_of_lt (by omega)
     obtain⟨v,q,g1,g2⟩:=ih (i+1) 0 _ _ (by omega) (hS.put _ _) (hj.put (out.set i (a.getD i 0 - (bw+b.getD i 0)))) (by simpa using hl) (oo.set _ _ k1) (by omega) k2
     refine⟨v,q,?_,g2⟩
     rw[aT e,bf,ga,c1,td,es,iH,em]
     simp only[cD]
     rw[rC,Cb _ (aA _ _ _),a3]
     exact g1
   obtain⟨v,q,g1,g2⟩:=j3
   refine⟨v,q,?_,g2⟩
   rw[Cc _ (aA _ _ _),AY,bb,a9 h,be,P0 _ (aA _ _ _),GK,bb]
   by_cases T6:i < b.length
   ·have e:(i:Int) < (b.length:Int):=by omega
    have gb:=fun(k:K1)=>(hb.vw hS.vw).get (T:=T1) (G:=G) (X:=X) .i64 i T6 k
    rw[a9 e,be,gb,c2,oz,Nat.mod_eq_of_lt (by omega)]
    exact g1
   ·have e:¬(i:Int) < (b.length:Int):=by omega
    rw[getD_none b i (by omega),Nat.add_zero] at g1
    rw[aT e,bf]
    exact g1
 have mk:=fun(S:St) (k:K1)=>ow (T:=T1) (G:=G) (X:=X) (s:=S) (k:=k) (U 0) 4 a.length a.length (Nat.le_refl _) (by omega)
 obtain⟨v,q,g1,g2⟩:=loop a.length 0 0 _ _ (by omega) ((Child.ai s).new (.cells (List.replicate a.length (U 0)))) (gj.make _ _) (by simp) (nE _) (by omega) (by simp [val])
 refine⟨v,q,?_,g2⟩
 rw[Vf,amq,AY]
 refine(mk _ _).trans ?_
 exact g1
theorem aoE(s:St)(va vb:AV)(a b:List Nat)(ha:Rd s va a)(hb:Rd s vb b)(oa:bV a)(ob:bV b)(hba:a.length < 4294967295)(hbb:b.length < 4294967295):
  ∃v q,aJ T1 G X 156 [va,vb] s= .ok v s∧Fz v q∧bV q∧cN q∧val q=val a+val b:=by
 have AY:=fun(S:St) (k:K1)=>ha.len (T:=T1) (G:=G) (X:=X) k S
 have GK:=fun(S:St) (k:K1)=>hb.len (T:=T1) (G:=G) (X:=X) k S
 obtain⟨N,hN,hNa,hNb,hNN⟩:∃N,N=(if a.length < b.length then b.length else a.length)+1∧a.length+1≤N∧b.length+1≤N∧N < 4294967296:=⟨_,rfl,by split <;> omega,by split <;> omega,by split <;> omega⟩
 have loop:∀(m i c:Nat) (out:List Nat) (S:St),i+m=N→Child s S→gj S s.ai.own.length out→out.length=N→bV out→c≤1→val (out.take i)+c * B ^ i=val (a.take i)+val (b.take i)→
   ∃v q,yO (PP T1 G X) va vb (.ck (.l s.ai.own.length) 0 N N 1) (.int .u64 (c:Int)) (.int .i64 (i:Int)) S= .ok v s∧Fz v q∧bV q∧cN q∧val q=val a+val b:=by
  intro m
  induction m with
  | zero=>
   intro i c out S hi hS hj hl oo hc hv
   have h:¬((i:Int) < (N:Int)):=by omega
   obtain⟨v,f1,f2⟩:=wP G X hS hj N hl.symm (by omega)
   refine⟨v,dz out,?_,f1,ig oo,fP out,?_⟩
   ·rw[B8 _ (aA _ _ _),li,bb,aT h,bf,PD _ (aA _ _ _),fX]
    exact f2
   ·rw[im]
    rw[show i=N by omega] at hv
    exact ahH oa ob hNa hNb hl hv
  | succ m ih=>
   intro i c out S hi hS hj hl oo hc hv
   have h:(i:Int) < (N:Int):=by omega
   have fD:=XG (by omega:i < out.length) hv
   have x1:=oa.getD i
   have x2:=ob.getD i
   have tH:=ahG hc x1 x2
   have hB:=lX
   rw[hB] at x1 x2
   have c1:=fun(S:St) (k:K1)=>fW (T:=T1) (G:=G) (X:=X) (s:=S) (k:=k) (a.getD i 0) x1
   have c2:=fun(S:St) (k:K1)=>fW (T:=T1) (G:=G) (X:=X) (s:=S) (k:=k) (b.getD i 0) x2
   have rC:=fun y (k:K1)=>hj.st (T:=T1) (G:=G) (X:=X) i N N y (by omega) (by omega) k
   have a3:=fun(S:St) (k:K1)=>gD G X S k i (by omega)
   obtain⟨v,q,g1,g2⟩:=ih (i+1) _ _ _ (by omega) (hS.put _ _) (hj.put (out.set i ((c+a.getD i 0+b.getD i 0) % B))) (by simpa using hl) (oo.set _ _ (Nat.mod_lt _ gR)) tH fD
   refine⟨v,q,?_,g2⟩
   rw[hB] at g1
   have j4:yM (PP T1 G X) va vb (.ck (.l s.ai.own.length) 0 N N 1) (.int .i64 (i:Int)) (.int .u64 ((c+a.getD i 0+b.getD i 0:Nat):Int)) S= .ok v s:=by
    have dq:∀(S:St) (k:K1),(PP T1 G X).ak S k (au .quo (.int .u64 ((c+a.getD i 0+b.getD i 0:Nat):Int)) (.int .u64 4294967296))=k (.int .u64 (((c+a.getD i 0+b.getD i 0) / 4294967296:Nat):Int)) S:=fun S k=>C2 _ 4294967296 (by decide) (by omega)
    rw[PA _ (aA _ _ _),iH]
    simp only[cD]
    rw[rC,dq,Pz _ (aA _ _ _),a3]
    exact g1
   have j3:yN (PP T1 G X) va vb (.ck (.l s.ai.own.length) 0 N N 1) (.int .i64 (i:Int)) (.int .u64 ((c+a.getD i 0:Nat):Int)) S= .ok v s:=by
    rw[PB _ (aA _ _ _),GK,bb]
    by_cases T6:i < b.length
    ·have e:(i:Int) < (b.length:Int):=by omega
     have gb:=fun(k:K1)=>(hb.vw hS.vw).get (T:=T1) (G:=G) (X:=X) .i64 i T6 k
     rw[a9 e,be,gb,c2,oz,Nat.mod_eq_of_lt (by omega)]
     exact j4
    ·have e:¬(i:Int) < (b.length:Int):=by omega
     rw[getD_none b i (by omega),Nat.add_zero] at j4
     rw[aT e,bf]
     exact j4
   rw[B8 _ (aA _ _ _),li,bb,a9 h,be,PC _ (aA _ _ _),AY,bb]
   by_cases hia:i < a.length
   ·have e:(i:Int) < (a.length:Int):=by omega
    have ga:=fun(k:K1)=>(ha.vw hS.vw).get (T:=T1) (G:=G) (X:=X) .i64 i hia k
    rw[a9 e,be,ga,c1,oz,Nat.mod_eq_of_lt (by omega)]
    exact j3
   ·have e:¬(i:Int) < (a.length:Int):=by omega
    rw[getD_none a i (by omega),Nat.add_zero] at j3
    rw[aT e,bf]
    exact j3
 have mk:=fun(S:St) (k:K1)=>ow (T:=T1) (G:=G) (X:=X) (s:=S) (k:=k) (U 0) 4 N N (Nat.le_refl _) (by omega)
 obtain⟨v,q,g1,g2⟩:=loop N 0 0 _ _ (by omega) ((Child.ai s).new (.cells (List.replicate N (U 0)))) (gj.make _ _) (by simp) (nE _) (by omega) (by simp [val])
 refine⟨v,q,?_,g2⟩
 have em:(if((a.length:Nat):Int) < ((b.length:Nat):Int) then((b.length:Nat):Int) else((a.length:Nat):Int))=((N - 1:Nat):Int):=by
  rw[hN,Nat.add_sub_cancel]
  split <;> split <;> omega
 have a1:=fun(S:St) (k:K1)=>gD G X S k (N - 1) (by omega)
 rw[show N - 1+1=N by omega] at a1
 rw[U7,amk,AY,GK,cD,cD,aqs]
 simp only[gt_iff_lt]
 rw[em,a1]
 refine(mk _ _).trans ?_
 exact g1
theorem SO(s:St)(va:AV)(l:List Nat)(n:Nat)(ha:Rd s va l)(ol:bV l)(hn:n < 4294967296)(f8:l.length < 4294967296)(j N:Nat)(hN:N=l.length+n / 32+1):∀m i out S,i+m=l.length→Child s S→gj S j out→out.length=N→bV out→val (out.take (i+n / 32+1))=val (l.take i) * 2 ^ (32 * (n / 32)+n % 32)→out.getD (i+n / 32) 0 < 2 ^ (n % 32)→
  ∃v q,yW (PP T1 G X) va (.int .i64 (n:Int)) (.ck (.l j) 0 N N 1) (.int .i64 (i:Int)) S= .ok v s∧Fz v q∧bV q∧cN q∧val q=val l * 2 ^ n:=by
 intro m
 have ln:=fun(S:St) (k:K1)=>ha.len (T:=T1) (G:=G) (X:=X) k S
 induction m with
 | zero=>
  intro i out S hi hS hj hl oo hv hc
  have h:¬((i:Int) < (l.length:Int)):=by omega
  obtain⟨v,f1,f2⟩:=wP G X hS hj N hl.symm (by omega)
  refine⟨v,dz out,?_,f1,ig oo,fP out,?_⟩
  ·rw[Cd _ (aA _ _ _),ln,bb,aT h,bf,P7 _ (aA _ _ _),fX]
   exact f2
  have e1:i=l.length:=by omega
  rw[e1] at hv
  rw[im,←List.take_length (l:=out),hl,hN,hv,List.take_length,Nat.div_add_mod]
 | succ m ih=>
  intro i out S hi hS hj hl oo hv hc
  have h:(i:Int) < (l.length:Int):=by omega
  have hr:n % 32 < 32:=Nat.mod_lt _ (by omega)
  obtain⟨q,Ls,So⟩:=AT (l.getD i 0) (n % 32) hr
  have Sn:=AU (l.getD i 0) (n % 32) (ol.getD i) hr
  have lz:=GB l out i (n / 32) (n % 32) hr (by omega) (by omega) oo ol hv hc _ rfl _ rfl
  simp -implicitDefEqProofs only[] at lz
  have hx:=ol.getD i
  have hB:B=4294967296:=rfl
  have h2r:2 ^ (n % 32)≤2 ^ 32:=Nat.pow_le_pow_right (by omega) (by omega)
  rw[hB] at Ls So Sn lz hx
  generalize Ij:l.getD i 0=x at *
  have ga:=fun(k:K1)=>(ha.vw hS.vw).get (T:=T1) (G:=G) (X:=X) .i64 i (by omega) k
  rw[Ij] at ga
  have c1:=fun(S:St) (k:K1)=>fW (T:=T1) (G:=G) (X:=X) (s:=S) (k:=k) x hx
  have r1:=fun(S:St) (k:K1)=>pW (T:=T1) (G:=G) (X:=X) (s:=S) (k:=k) n
  have q1:=fun(S:St) (k:K1)=>m5 (T:=T1) (G:=G) (X:=X) (s:=S) (k:=k) n (by omega)
  have s1:=fun(S:St) (k:K1)=>yj (T:=T1) (G:=G) (X:=X) (s:=S) (k:=k) .i64 x (n % 32) (by omega)
  have es:x * 2 ^ (n % 32) % 18446744073709551616=x * 2 ^ (n % 32):=Nat.mod_eq_of_lt Sn.2
  have a1:=fun(S:St) (k:K1)=>iI (T:=T1) (G:=G) (X:=X) (s:=S) (k:=k) i (n / 32) (by omega)
  have a2:=fun(S:St) (k:K1)=>gD G X S k (i+n / 32) (by omega)
  have a3:=fun(S:St) (k:K1)=>gD G X S k i (by omega)
  have g1:=fun(k:K1)=>hj.get (T:=T1) (G:=G) (X:=X) (i+n / 32) N N (by omega) (by omega) k
  have o1:=fun(S:St) (k:K1)=>af4 G X (s:=S) (k:=k) (out.getD (i+n / 32) 0) (x * 2 ^ (n % 32) % 4294967296) q (n % 32) hc Ls (by omega)
  have dq:∀(S:St) (k:K1),(PP T1 G X).ak S k (au .quo (.int .u64 ((x * 2 ^ (n % 32):Nat):Int)) (.int .u64 4294967296))=k (.int .u64 ((x * 2 ^ (n % 32) / 4294967296:Nat):Int)) S:=fun S k=>C2 _ 4294967296 (by decide) Sn.2
  have rC:=fun y (k:K1)=>hj.st (T:=T1) (G:=G) (X:=X) (i+n / 32) N N y (by omega) (by omega) k
  have AG:=hj.put (out.set (i+n / 32) (out.getD (i+n / 32) 0+x * 2 ^ (n % 32) % 4294967296))
  have Sv:=fun y (k:K1)=>AG.st (T:=T1) (G:=G) (X:=X) (i+n / 32+1) N N y (by simp;omega) (by omega) k
  have ehi:x * 2 ^ (n % 32) / 4294967296 % 4294967296=x * 2 ^ (n % 32) / 4294967296:=Nat.mod_eq_of_lt (by omega)
  have hj3:=AG.put ((out.set (i+n / 32) (out.getD (i+n / 32) 0+x * 2 ^ (n % 32) % 4294967296)).set (i+n / 32+1) (x * 2 ^ (n % 32) / 4294967296))
  have:=ih (i+1) _ _ (by omega) ((hS.put _ _).put _ _) hj3 (by simp [hl]) lz.1 lz.2.2.1 lz.2.2.2
  refine Exists.imp (fun v h2=>Exists.imp (fun q h3=>⟨?_,h3.2⟩) h2) this
  rw[Cd _ (aA _ _ _),ln,bb,a9 h,be]
  rw[P6 _ (aA _ _ _),ga,c1,r1,s1,es,q1,a1,q1,a1,g1,iH,o1]
  simp -implicitDefEqProofs only[cD]
  rw[rC,q1,a1,a2,dq,iH,ehi]
  simp -implicitDefEqProofs only[cD]
  rw[Sv,P5 _ (aA _ _ _),a3]
  exact h3.1
theorem aoF(s:St)(va:AV)(l:List Nat)(n:Nat)(ha:Rd s va l)(ol:bV l)(hn:n < 4294967296)(f8:l.length < 4294967296):
  ∃v q,aJ T1 G X 161 [va, .int .i64 (n:Int)] s= .ok v s∧Fz v q∧bV q∧cN q∧val q=val l * 2 ^ n:=by
 rw[Vg,amr]
 have ln:=fun(S:St) (k:K1)=>ha.len (T:=T1) (G:=G) (X:=X) k S
 have q1:=fun(S:St) (k:K1)=>m5 (T:=T1) (G:=G) (X:=X) (s:=S) (k:=k) n (by omega)
 have a1:=fun(S:St) (k:K1)=>iI (T:=T1) (G:=G) (X:=X) (s:=S) (k:=k) l.length (n / 32) (by omega)
 have a2:=fun(S:St) (k:K1)=>gD G X S k (l.length+n / 32) (by omega)
 have AW:=fun(S:St) (k:K1)=>ow (T:=T1) (G:=G) (X:=X) (s:=S) (k:=k) (U 0) 4 (l.length+n / 32+1) (l.length+n / 32+1) (Nat.le_refl _) (by omega)
 have rep:∀m i,(List.replicate m 0).getD i 0=0:=fun m i=>by
  simp -implicitDefEqProofs only[List.getD,List.getElem?_replicate];split <;> rfl
 have l1:=SO G X s va l n ha ol hn f8 s.ai.own.length _ rfl l.length 0 _ _ (by omega) ((Child.ai s).new (.cells (List.replicate (l.length+n / 32+1) (U 0)))) (gj.make _ _) (by simp) (nE _) (by rw[List.take_replicate,Gy];simp [val]) (by rw[rep];exact Nat.two_pow_pos _)
 refine Exists.imp (fun v h2=>Exists.imp (fun q h3=>⟨?_,h3.2⟩) h2) l1
 rw[ln,q1,a1,a2]
 refine(AW _ _).trans ?_
 exact h3.1
theorem Lx(a b:Int):∃c,∀(s:St) (k:K1),(PP T1 G X).ak s k (au .and (.int .u64 a) (.int .u64 b))=k (.int .u64 c) s:=GG G X .u64 a b
theorem SP(s:St)(va:AV)(l:List Nat)(n:Nat)(lost:Bool)(ha:Rd s va l)(ol:bV l)(hn:n < 4294967296)(f8:l.length < 4294967296)(hs:n / 32 < l.length)(j N:Nat)(hN:N=l.length - n / 32):∀m i out S,i+m=N→Child s S→gj S j out→out.length=N→bV out→
  val (out.take i) * 2 ^ (n % 32)+l.getD (n / 32) 0 % 2 ^ (n % 32)=val ((l.drop (n / 32)).take i)+B ^ i * (l.getD (n / 32+i) 0 % 2 ^ (n % 32))→
  ∃v q ma,y7 (PP T1 G X) va (.int .i64 (n:Int)) (.bool lost) (.ck (.l j) 0 N N 1) (.int .i64 (i:Int)) S= .ok (.cS [v, .bool ma]) s∧Fz v q∧bV q∧cN q∧val q=val l / 2 ^ n:=by
 have ln:=fun(S:St) (k:K1)=>ha.len (T:=T1) (G:=G) (X:=X) k S
 have r1:=fun(S:St) (k:K1)=>pW (T:=T1) (G:=G) (X:=X) (s:=S) (k:=k) n
 have q1:=fun(S:St) (k:K1)=>m5 (T:=T1) (G:=G) (X:=X) (s:=S) (k:=k) n (by omega)
 intro m
 induction m with
 | zero=>
  intro i out S hi hS hj hl oo hv
  have h:¬((i:Int) < (N:Int)):=by omega
  have s1:∀(S:St) (k:K1),(PP T1 G X).ak S k (au .shl (.int .u64 1) (.int .i64 ((n % 32:Nat):Int)))=k (.int .u64 ((1 * 2 ^ (n % 32) % 18446744073709551616:Nat):Int)) S:=fun S k=>yj .i64 1 (n % 32) (by omega)
  have hx:=ol.getD (n / 32)
  rw[lX] at hx
  have c1:=fun(S:St) (k:K1)=>fW (T:=T1) (G:=G) (X:=X) (s:=S) (k:=k) (l.getD (n / 32) 0) hx
  have ga:=fun(k:K1)=>(ha.vw hS.vw).get (T:=T1) (G:=G) (X:=X) .i64 (n / 32) hs k
  obtain⟨c,hc⟩:=Lx G X ((l.getD (n / 32) 0:Nat):Int) ((qX (1 * 2 ^ (n % 32) % 18446744073709551616) 1:Nat):Int)
  have Lw:=hj.rd N N (by omega) (Nat.le_refl _)
  rw[List.take_of_length_le (by omega)] at Lw
  have af7:=GM G X S _ out Lw (by omega)
  have hle:=jh out out.length
  have fin:∀ma,∃v,Fz v (dz out)∧(PP T1 G X).aI false [some (mw (.ck (.g S.aa j) 0 N N 1) (fA out out.length)),some (.bool ma)] S= .ok (.cS [v, .bool ma]) s:=fun ma=>by
   obtain⟨v,h1,h2⟩:=m6 (S:=S) (j:=j) (off:=0) (cap:=N) (dz out) (n:=fA out out.length) (f9 out).symm hj (by
    rw[bW,f9];simp [dz,List.map_take]) (by rw[f9];simpa using hle)
   exact⟨v,h2,iB hS _ _ _ _ h1 rfl⟩
  have oK:val (dz out)=val l / 2 ^ n:=by
   rw[im]
   have e0:l.getD (n / 32+i) 0=0:=getD_none l _ (by omega)
   rw[e0,Nat.zero_mod,Nat.mul_zero,Nat.add_zero,List.take_of_length_le (by omega),List.take_of_length_le (by simp;omega)] at hv
   exact GF l out (n / 32) (n % 32) n (Nat.div_add_mod n 32).symm ol hs hv
  cases lost with
  | true=>
   obtain⟨v,f1,f2⟩:=fin true
   refine⟨v,dz out,true,?_,f1,ig oo,fP out,oK⟩
   rw[uq _ (aA _ _ _),li,bb,aT h,bf,y9 _ (aA _ _ _),r1,s1,ud,fX,aN af7]
   simp -implicitDefEqProofs only[eY,c7]
   exact f2
  | false=>
   obtain⟨v,f1,f2⟩:=fin (decide (¬c=0))
   refine⟨v,dz out,decide (¬c=0),?_,f1,ig oo,fP out,oK⟩
   rw[uq _ (aA _ _ _),li,bb,aT h,bf,y9 _ (aA _ _ _),r1,s1,ud,fX,aN af7]
   simp -implicitDefEqProofs only[dA,dw,↓q1,↓ga,↓c1,↓hc,↓eO]
   exact f2
 | succ m ih=>
  intro i out S hi hS hj hl oo hv
  have h:(i:Int) < (N:Int):=by omega
  have hr:n % 32 < 32:=Nat.mod_lt _ (by omega)
  have lz:=CC l out (n / 32) i (n % 32) hr ol oo (by omega) (by omega) hv
  have hx:=ol.getD (n / 32+i)
  have hy:=ol.getD (n / 32+i+1)
  have hB:B=4294967296:=rfl
  rw[hB] at hx hy
  have ga:=fun(k:K1)=>(ha.vw hS.vw).get (T:=T1) (G:=G) (X:=X) .i64 (n / 32+i) (by omega) k
  have c1:=fun(S:St) (k:K1)=>fW (T:=T1) (G:=G) (X:=X) (s:=S) (k:=k) (l.getD (n / 32+i) 0) hx
  have c2:=fun(S:St) (k:K1)=>fW (T:=T1) (G:=G) (X:=X) (s:=S) (k:=k) (l.getD (n / 32+i+1) 0) hy
  have a1:=fun(S:St) (k:K1)=>iI (T:=T1) (G:=G) (X:=X) (s:=S) (k:=k) i (n / 32) (by omega)
  have a2:=fun(S:St) (k:K1)=>gD G X S k (i+n / 32) (by omega)
  have a3:=fun(S:St) (k:K1)=>gD G X S k i (by omega)
  have ec:i+n / 32=n / 32+i:=Nat.add_comm _ _
  simp -implicitDefEqProofs only[ec] at a1 a2
  have rC:=fun y (k:K1)=>hj.st (T:=T1) (G:=G) (X:=X) i N N y (by omega) (by omega) k
  have s1:=fun t (S:St) (k:K1)=>C3 (T:=T1) (G:=G) (X:=X) (s:=S) (k:=k) .i64 t (n % 32) (by omega)
  have this:=ih (i+1) _ _ (by omega) (hS.put _ _) (hj.put (out.set i ((l.getD (n / 32+i) 0+B * l.getD (n / 32+i+1) 0) / 2 ^ (n % 32) % B))) (by simp [hl]) lz.1 lz.2
  obtain⟨v,q,ma,g1,g2⟩:=this
  refine⟨v,q,ma,?_,g2⟩
  have j8:y6 (PP T1 G X) va (.int .i64 (n:Int)) (.bool lost) (.ck (.l j) 0 N N 1) (.int .i64 (i:Int)) (.int .u64 ((l.getD (n / 32+i) 0+4294967296 * l.getD (n / 32+i+1) 0:Nat):Int)) S= .ok (.cS [v, .bool ma]) s:=by
   rw[QA _ (aA _ _ _),r1,s1,iH]
   simp -implicitDefEqProofs only[cD]
   rw[rC,Qz _ (aA _ _ _),a3]
   exact g1
  rw[uq _ (aA _ _ _),li,bb,a9 h,be,QB _ (aA _ _ _),q1,a1,ga,c1,q1,a1,a2,ln,bb]
  by_cases cM:n / 32+i+1 < l.length
  ·have ga2:=fun(k:K1)=>(ha.vw hS.vw).get (T:=T1) (G:=G) (X:=X) .i64 (n / 32+i+1) cM k
   have e:((n / 32+i+1:Nat):Int) < (l.length:Int):=by omega
   have m1:∀(S:St) (k:K1),(PP T1 G X).ak S k (au .mul (.int .u64 ((l.getD (n / 32+i+1) 0:Nat):Int)) (.int .u64 4294967296))=k (.int .u64 ((4294967296 * l.getD (n / 32+i+1) 0:Nat):Int)) S:=fun S k=>by
    refine(J8 _ 4294967296).trans ?_
    rw[Nat.mod_eq_of_lt (by omega),Nat.mul_comm]
   rw[a9 e,be,q1,a1,a2,ga2,c2,m1,oz,Nat.mod_eq_of_lt (by omega)]
   exact j8
  ·have e:¬((n / 32+i+1:Nat):Int) < (l.length:Int):=by omega
   rw[getD_none l _ (by omega:l.length≤n / 32+i+1),Nat.mul_zero,Nat.add_zero] at j8
   rw[aT e,bf]
   exact j8
theorem aoG(s:St)(va:AV)(l:List Nat)(n:Nat)(ha:Rd s va l)(ol:bV l)(hn:n < 4294967296)(f8:l.length < 4294967296):
  ∃v q lost,aJ T1 G X 179 [va, .int .i64 (n:Int)] s= .ok (.cS [v, .bool lost]) s∧Fz v q∧bV q∧cN q∧val q=val l / 2 ^ n:=by
 have hS:=Child.ai s
 have ln:=fun(S:St) (k:K1)=>ha.len (T:=T1) (G:=G) (X:=X) k S
 have q1:=fun(S:St) (k:K1)=>m5 (T:=T1) (G:=G) (X:=X) (s:=S) (k:=k) n (by omega)
 rw[Vm,amE,q1,ln,gQ]
 by_cases hs:n / 32 < l.length
 ·have h:¬((l.length:Int)≤((n / 32:Nat):Int)):=by omega
  have l2:∀m i lost,i+m=n / 32→∃ma,y8 (PP T1 G X) va (.int .i64 (n:Int)) (.bool lost) (.int .i64 (i:Int)) s.ai=Ff (PP T1 G X) va (.int .i64 (n:Int)) (.bool ma) s.ai:=by
   intro m
   induction m with
   | zero=>
    intro i lost hi
    have h:¬(i:Int) < ((n / 32:Nat):Int):=by omega
    exact⟨lost,by rw[ur _ (aA _ _ _),q1,bb,aT h,bf]⟩
   | succ m ih=>
    intro i lost hi
    have h:(i:Int) < ((n / 32:Nat):Int):=by omega
    have ga:=fun(k:K1)=>(ha.vw hS.vw).get (T:=T1) (G:=G) (X:=X) .i64 i (by omega) k
    have a3:=fun(S:St) (k:K1)=>gD G X S k i (by omega)
    cases lost with
    | true=>
     obtain⟨ma,g⟩:=ih (i+1) true (by omega)
     refine⟨ma,?_⟩
     rw[ur _ (aA _ _ _),q1,bb,a9 h,be,Cj _ (aA _ _ _)]
     simp -implicitDefEqProofs only[eY,c7]
     rw[Ci _ (aA _ _ _),a3]
     exact g
    | false=>
     obtain⟨ma,g⟩:=ih (i+1) (decide (¬((l.getD i 0:Nat):Int)=0)) (by omega)
     refine⟨ma,?_⟩
     rw[ur _ (aA _ _ _),q1,bb,a9 h,be,Cj _ (aA _ _ _)]
     simp -implicitDefEqProofs only[dA,dw,↓ga,↓eO]
     rw[Ci _ (aA _ _ _),a3]
     exact g
  obtain⟨ma,g⟩:=l2 (n / 32) 0 false (by omega)
  have a1:=fun(S:St) (k:K1)=>pG (T:=T1) (G:=G) (X:=X) (s:=S) (k:=k) l.length (n / 32) (by omega) (by omega)
  have AW:=fun(S:St) (k:K1)=>ow (T:=T1) (G:=G) (X:=X) (s:=S) (k:=k) (U 0) 4 (l.length - n / 32) (l.length - n / 32) (Nat.le_refl _) (by omega)
  obtain⟨v,q,aBW,g1,g2⟩:=SP G X s va l n ma ha ol hn f8 hs s.ai.own.length _ rfl (l.length - n / 32) 0 _ _ (by omega) (hS.new (.cells (List.replicate (l.length - n / 32) (U 0)))) (gj.make _ _) (by simp) (nE _) (by simp [val])
  refine⟨v,q,aBW,?_,g2⟩
  rw[aT h,bf,QD _ (aA _ _ _)]
  refine g.trans ?_
  rw[QC _ (aA _ _ _),ln,q1,a1]
  refine(AW _ _).trans ?_
  exact g1
 ·have h:(l.length:Int)≤((n / 32:Nat):Int):=by omega
  refine⟨.sl 1 [] .nil,[],decide ((0:Int) < (l.length:Int)),?_,Fz.nil,(fun x (h:x∈[])=>absurd h oR:bV []),(fun h=>absurd rfl h:cN []),?_⟩
  ·rw[a9 h,be,ln,dV]
   exact iB (.ai s) _ _ _ _ rfl rfl
  ·rw[CD l n ol (by omega)];rfl
theorem GO(s:St)(v:AV)(l:List Nat)(h:Rd s v l)(ol:bV l)(h0:val l≠0)(f8:l.length≤4096):
  ∃(w:AV) (q:List Nat) (n:Nat),aJ T1 G X 158 [v] s= .ok w s∧Fz w q∧bV q∧cN q∧val l=2 ^ n * val q∧val q % 2=1:=by
 have hS:=Child.ai s
 have cM:val l < 2 ^ (32 * l.length):=by rw[Nat.pow_mul];exact eK l ol
 have loop:∀m n:Nat,n+m=32 * l.length→2 ^ n ∣ val l→∃(w:AV) (q:List Nat) (n':Nat),yQ (PP T1 G X) v (.int .i64 (n:Int)) s.ai= .ok w s∧Fz w q∧bV q∧cN q∧val l=2 ^ n' * val q∧val q % 2=1:=by
  intro m
  induction m with
  | zero=>
   intro n hn hd
   have:=SD _ n h0 hd
   rw[show n=32 * l.length by omega] at this
   omega
  | succ m ih=>
   intro n hn hd
   have hb:=GN G X s.ai v l n (h.vw hS.vw) ol (by omega)
   have a3:=fun(S:St) (k:K1)=>gD G X S k n (by omega)
   rcases Nat.mod_two_eq_zero_or_one (val l / 2 ^ n) with e | e
   ·obtain⟨w,q,n',g1,g2⟩:=ih (n+1) (by omega) (qF _ n hd e)
    refine⟨w,q,n',?_,g2⟩
    rw[B9 _ (aA _ _ _),h.av,cD,aN hb,e,bj,show decide (((0:Nat):Int)=0)=true from rfl,be,PI _ (aA _ _ _),a3]
    exact g1
   ·obtain⟨w,q,lost,g1,g2,g3,g4,g5⟩:=aoG G X s.ai v l n (h.vw hS.vw) ol (by omega) (by omega)
    refine⟨w,q,n,?_,g2,g3,g4,by rw[g5];exact ahB _ n hd,by rw[g5];exact e⟩
    rw[B9 _ (aA _ _ _),h.av,cD,aN hb,e,bj,show decide (((1:Nat):Int)=0)=false from rfl,bf,PJ _ (aA _ _ _),h.av,cD,aN g1,lm,lq]
    exact jv hS _ _ (g2.freeze _)
 obtain⟨w,q,n,g1,g2⟩:=loop (32 * l.length) 0 (by omega) (by rw[Nat.pow_zero];exact Nat.one_dvd _)
 refine⟨w,q,n,?_,g2⟩
 rw[U9,amm]
 exact g1
theorem Ba{S:St}{v:AV}{l:List Nat}(h:Rd S v l)(hb:l.length < 4294967296):∃g os,(∀k:K1,(PP T1 G X).cz S k 1 4 (some (.l 0)) (.sl 1 [] .exact) v=k (.sl 1 (l.map U) g) {S with own:=S.own ++ os})∧(g= .exact∨∃i,g= .bJ (.l i)):=by
 cases l with
 | nil=>
  refine⟨.exact,[],fun k=>?_, .inl rfl⟩
  rw[iu]
  unfold eA
  simp only
  unfold fC
  rw[h.nD]
  simp only[List.map_nil,eh,Nat.beq_refl,Bool.true_and,Nat.add_zero,Nat.zero_mul,show Nat.ble 0 1099511627776=true from rfl,cond_true,List.append_nil]
 | cons x l=>
  refine⟨.bJ (.l S.own.length),[.tok (0+(l.length+1))],fun k=>?_, .inr ⟨_,rfl⟩⟩
  rw[iu]
  unfold eA
  simp only
  unfold fC
  rw[h.nD]
  simp only[List.map_cons,cP,cw,eh,Nat.beq_refl,Bool.true_and,show Nat.ble ((0+(l.length+1)) * 4) 1099511627776=true from dy (by simp at hb;omega),cond_true,St.gK]
  rfl
theorem af8{S:St}{l:List Nat}{g:Gr}(hg:g= .exact∨∃i,g= .bJ (.l i)):Rd S (AV.av S.aa (.sl 1 (l.map U) g)) l:=by
 refine .sl l (g.av S.aa) (fun a e=>?_)
 rcases hg with rfl | ⟨i,rfl⟩
 ·cases e
 ·simp only[Gr.av,Loc.av,Gr.bJ.injEq] at e
  exact⟨S.aa,i,e.symm,Nat.le_refl _⟩
theorem SQ(s:St)(neg:Bool)(v:AV)(l:List Nat)(h:Rd s v l)(ol:bV l)(hb:l.length < 4294967296)(hl:(dz l).length≤128):
  ∃w,aJ T1 G X 155 [.bool neg,v] s= .ok (.cS [iM (neg && decide (dz l≠[])) w, .int .i64 0]) s∧Fz w (dz l):=by
 have hS:=Child.ai s
 let S0:=s.ai.new (.cells [.bool false, .sl 1 [] .nil])
 have h0:Rd S0 v l:=h.vw (Vw.trans hS.vw (Vw.new _ _))
 have af7:=GM G X S0 v l h0 (by omega)
 have hc:Rd S0 (mw v (fA l l.length)) (dz l):=h0.cut _ (jh _ _)
 generalize hv8:mw v (fA l l.length)=v8 at *
 generalize hm:dz l=m at *
 have ln:=fun(S:St) (k:K1)=>hc.len (T:=T1) (G:=G) (X:=X) k S
 have rU:¬(128:Int) < (m.length:Int):=by omega
 obtain⟨g,os,af9,hg⟩:=Ba G X hc (by omega)
 have bs:=fun(k:K1)=>oM (T:=T1) (G:=G) (X:=X) (s:=S0) (k:=k) []
 let S1:St:={S0 with own:=S0.own ++ os}
 have hC0:Child s S0:=hS.new _
 have hC:Child s S1:=⟨hC0.up,hC0.ro⟩
 have XD:S1.own[0]? =some (.cells [.bool false, .sl 1 [] .nil]):=rfl
 have fin:∀b:Bool,∃w,(PP T1 G X).dh [.bool false, .sl 1 [] .nil] [(0,1, .bool b),(1,1, .sl 1 (m.map U) g)] S1 (fun XE s=>(PP T1 G X).a7 s (fun _v s=>(PP T1 G X).aI false [gB s (.ref (.l 0) 0) (some 2),some (.int .i64 0)] s) 2 (.ref (.l 0) 0) (AV.av s.aa XE))= .ok (.cS [iM b w, .int .i64 0]) s∧Fz w m:=fun b=>by
  have hb:∀k:K1,(PP T1 G X).dh [.bool false, .sl 1 [] .nil] [(0,1, .bool b),(1,1, .sl 1 (m.map U) g)] S1 k=k (.agg [.bool b, .sl 1 (m.map U) (g.av S1.aa)]) S1:=fun k=>rfl
  have fD:=fun(k:K1)=>se (T:=T1) (G:=G) (X:=X) (S:=S1) (k:=k) (n:=2) (vs:=[.bool b, .sl 1 (m.map U) (g.av S1.aa)]) XD rfl rfl rfl
  let S3:St:={S1 with own:=S1.own.set 0 (.cells [.bool b, .sl 1 (m.map U) (g.av S1.aa)])}
  have hC3:Child s S3:=⟨hC.up,hC.ro⟩
  have MM:∃w,dE S3 (.sl 1 (m.map U) (g.av S1.aa))=some w∧Fz w m:=by
   rcases hg with rfl | ⟨i,rfl⟩
   ·exact⟨_,rfl,_,rfl,fun a e=>by cases e⟩
   ·refine⟨.sl 1 (m.map U) .any,?_,_,rfl,fun a e=>by cases e⟩
    show(if S1.aa < S3.aa then _ else if AV.ba (m.map U)=true then some (AV.sl 1 (m.map U) .any) else none)=_
    rw[if_neg (by show¬S1.aa < S1.aa;omega),if_pos (gJ m)]
  obtain⟨w,h1,h2⟩:=MM
  refine⟨w,?_,h2⟩
  rw[hb,dc]
  refine(fD _).trans ?_
  have k7:gB S3 (.ref (.l 0) 0) (some 2)=some (.agg [.bool b, .sl 1 (m.map U) (g.av S1.aa)]):=mM (j:=0) (by rfl) rfl
  show(PP T1 G X).aI false [gB S3 (.ref (.l 0) 0) (some 2),some (.int .i64 0)] S3=_
  rw[k7]
  refine iB hC3 _ _ _ _ ?_ rfl
  show(iT (dE S3) [_,_]).map AV.agg=_
  simp only[iT]
  rw[show dE S3 (.bool b)=some (.bool b) from rfl,h1]
  rfl
 have gt0:decide ((0:Int) < (m.length:Int))=decide (m≠[]):=by
  congr 1
  cases m with
  | nil=>simp
  | cons x m=>simp
 obtain⟨w,hw,fw⟩:=fin (neg && decide (m≠[]))
 refine⟨w,?_,fw⟩
 rw[U6,ami,jR,h0.av,aN af7,ln,dV,cc,if_neg (by simpa using rU),Pv _ (aA _ _ _),Y2,iG]
 cases neg with
 | false=>
  rw[if_neg (by decide)]
  refine(bs _).trans ?_
  refine(af9 _).trans ?_
  exact hw
 | true=>
  rw[if_pos rfl]
  dsimp only
  rw[ln,dV,gt0]
  rw[Bool.true_and] at hw
  rw[Bool.true_and]
  refine(bs _).trans ?_
  refine(af9 _).trans ?_
  exact hw
theorem z8(s:St)(neg:Bool)(v:AV)(l:List Nat)(h:Fz v l)(hb:l.length < 9223372036854775807):aJ T1 G X 133 [iM neg v] s= .ok (.bool (gE neg l)) s:=by
 have hS:=Child.ai s
 have ln:=fun(S:St) (k:K1)=>(h.rd S).len (T:=T1) (G:=G) (X:=X) k S
 rw[U2,al8]
 by_cases h1:l.length≤128
 ·have e1:¬(128:Int) < (l.length:Int):=by omega
  by_cases h0:l.length=0
  ·have e0:(l.length:Int)=0:=by omega
   simp only[↓cc,↓bE,↓bP,↓dF,↓bj,↓dV,↓fh,↓bq,bW,dT,↓reduceIte,decide_true,decide_false,co,↓ln,eq_false e1,B5 _ (aA _ _ _),eq_true e0,gE,if_pos h0]
  ·have e0:¬(l.length:Int)=0:=by omega
   have g:=fun(k:K1)=>(h.rd s.ai).get (T:=T1) (G:=G) (X:=X) .i64 (l.length - 1) (by omega) k
   have a1:=fun(S:St) (k:K1)=>ku (T:=T1) (G:=G) (X:=X) (s:=S) (k:=k) l.length (by omega) (by omega)
   simp only[↓cc,↓bE,↓bP,↓dF,↓bj,↓eO,↓dV,↓fh,↓bq,bW,dT,↓reduceIte,decide_false,co,↓ln,eq_false e1,B5 _ (aA _ _ _),eq_false e0,O2 _ (aA _ _ _),↓a1,↓g,gE,if_neg h0,a9 h1,Bool.true_and]
   congr 3
   simp only[ne_eq,eq_iff_iff]
   omega
 ·have e1:(128:Int) < (l.length:Int):=by omega
  have h0:¬l.length=0:=by omega
  simp only[↓cc,↓bE,↓bP,↓dF,↓dV,↓bq,bW,dT,↓reduceIte,decide_true,↓ln,eq_true e1,gE,if_neg h0,aT h1,Bool.false_and]
theorem aoH(s:St)(n:Bool)(v:AV)(l:List Nat)(h:Fz v l):aJ T1 G X 134 [iM n v] s= .ok (.bool (decide (l=[]))) s:=by
 have ln:=fun(S:St) (k:K1)=>(h.rd S).len (T:=T1) (G:=G) (X:=X) k S
 rw[Vp,amG]
 simp only[↓bE,↓bP,↓dF,↓bj,↓bq,bW,dT,↓ln]
 congr 3
 rw[eq_iff_iff]
 cases l <;> simp <;> omega
theorem aoI(s:St)(n:Bool)(v:AV)(l:List Nat)(h:Fz v l):aJ T1 G X 136 [iM n v] s= .ok (.bool (qG n l)) s:=by
 have ln:=fun(S:St) (k:K1)=>(h.rd S).len (T:=T1) (G:=G) (X:=X) k S
 rw[Vq,amH]
 cases n with
 | true=>simp only[↓bE,↓bP,↓dF,↓iG,↓om,↓ot,↓fh,↓bq,bW,dT,↓reduceIte,co,Bool.not_true,qG,Bool.false_and]
 | false=>
  by_cases h1:l.length=1
  ·have e:(l.length:Int)=1:=by omega
   have g:=fun(k:K1)=>(h.rd s.ai).get (T:=T1) (G:=G) (X:=X) .i64 0 (by omega) k
   have g':∀k:K1,(PP T1 G X).aX s.ai (fun v S=>(PP T1 G X).aq S k none v) 1 v (.int .i64 0)=k (U (l.getD 0 0)) s.ai:=g
   simp only[↓bE,↓bP,↓dF,↓iG,↓om,↓ot,↓bj,↓fh,↓bq,bW,dT,↓reduceIte,decide_true,Bool.not_false,qG,Bool.true_and,↓ln,eq_true e,↓g']
   congr 3
   rw[eq_iff_iff,I9 h1]
   omega
  ·have e:¬(l.length:Int)=1:=by omega
   have:¬l=[1]:=fun e=>h1 (by rw[e];rfl)
   simp only[↓bE,↓bP,↓dF,↓iG,↓om,↓ot,↓bj,↓fh,↓bq,bW,dT,↓reduceIte,decide_false,co,Bool.not_false,qG,Bool.true_and,↓ln,eq_false e,eq_false this]
theorem GP{a b:List Nat}:jS (val a) (val b)=0↔val a=val b:=by
 unfold jS;split
 ·simp;omega
 ·split
  ·simp;omega
  ·simp;omega
theorem vE{l:List Nat}(cl:cN l)(h:val l < B ^ 128):l.length≤128:=th cl h
theorem SR(s S:St)(hS:Child s S)(kH:S.own[0]? =some (.cells [.bool false, .sl 1 [] .nil]))(n D:Nat)(hn:n < 4294967296)(hD:D < B ^ 128):∀(b:Nat) (vx vy:AV) (x y:List Nat),val x+val y < b→Fz vx x→Fz vy y→bV x→bV y→cN x→cN y→x.length≤128→y.length≤128→val x % 2=1→val y % 2=1→Nat.gcd (val x) (val y) * 2 ^ n=D→
  ∃w r,yG (PP T1 G X) (.ref (.l 0) 0) vx vy (.int .i64 (n:Int)) S= .ok (.cS [iM false w, .int .i64 0]) s∧Fz w r∧bV r∧cN r∧val r=D:=by
 intro b
 induction b with
 | zero=>intro vx vy x y h;omega
 | succ b ih=>
  intro vx vy x y hb fx fy ox oy cx cy lx ly px py hg
  have axO:=aoC G X S vx vy x y (fx.rd _) (fy.rd _) ox oy cx cy (by omega) (by omega)
  rw[Pe _ (aA _ _ _),fx.av,fy.av,aN axO,eO]
  have step:∀(vx vy:AV) (x y:List Nat),val x+val y < b+1→Fz vx x→Fz vy y→bV x→bV y→cN x→cN y→x.length≤128→y.length≤128→val x % 2=1→val y % 2=1→Nat.gcd (val x) (val y) * 2 ^ n=D→val y < val x→
    ∃w r,yF (PP T1 G X) (.ref (.l 0) 0) vx vy (.int .i64 (n:Int)) S= .ok (.cS [iM false w, .int .i64 0]) s∧Fz w r∧bV r∧cN r∧val r=D:=by
   intro vx vy x y hb fx fy ox oy cx cy lx ly px py hg cM
   have hlen:y.length≤x.length:=by
    by_cases h:y.length≤x.length
    ·exact h
    ·have:=m7 ox cy (Nat.not_le.1 h);omega
   obtain⟨v,d,aEP,fd,od,cd,ed⟩:=aoD G X S vx vy x y (fx.rd _) (fy.rd _) ox oy hlen (by omega) (by omega)
   have aEQ:d.length≤128:=by
    have h3:=eK x ox
    have h4:B ^ x.length≤B ^ 128:=jH lx
    exact vE cd (by omega)
   obtain⟨w,q,m,aER,fq,oq,cq,eq,pq⟩:=GO G X S v d (fd.rd _) od (by omega) (by omega)
   have hq:val q≤val d:=by
    rw[eq]
    have:=Nat.mul_le_mul_right (val q) (Nat.two_pow_pos m)
    omega
   have aES:q.length≤128:=by
    have h3:=eK d od
    have h4:B ^ d.length≤B ^ 128:=jH aEQ
    exact vE cq (by omega)
   have GQ:0 < val y:=by omega
   obtain⟨w2,r,g1,g2⟩:=ih w vy q y (by omega) fq fy oq oy cq cy aES ly pq py (by
    rw[←hg,Lv (val x) (val y) m (val q) (by omega) py (by rw[←ed,eq])])
   refine⟨w2,r,?_,g2⟩
   rw[Pb _ (aA _ _ _),fx.av,fy.av,aN aEP,fd.av,aN aER]
   exact g1
  by_cases he:val x=val y
  ·have e0:jS (val x) (val y)=0:=GP.2 he
   rw[←he,Nat.gcd_self] at hg
   obtain⟨v,q,aET,fq,oq,cq,eq⟩:=aoF G X S vx x n (fx.rd _) ox hn (by omega)
   have tq:dz q=q:=by
    have h1:=im q
    exact val_inj (ig oq) oq (tg (ig oq) oq (fP q) cq h1) h1
   have ql:q.length≤128:=vE cq (by rw[eq,hg];exact hD)
   obtain⟨w,aoJ,fw⟩:=SQ G X S false v q (fq.rd _) oq (by omega) (by rw[tq];exact ql)
   rw[tq] at fw
   refine⟨w,q,?_,fw,oq,cq,by rw[eq,hg]⟩
   rw[e0,show decide (¬(0:Int)=0)=false from rfl,bf,Pd _ (aA _ _ _),fx.av,cD,aN aET,sd,fq.av,aN aoJ,lm,lq,dc]
   exact zZ G X hS kH rfl _ fw 0
  ·have e0:¬jS (val x) (val y)=0:=fun h=>he (GP.1 h)
   rw[a9 e0,be,Pc _ (aA _ _ _),fx.av,fy.av,aN axO,bb]
   by_cases cM:val x < val y
   ·have e1:jS (val x) (val y) < 0:=by simp [jS,cM]
    rw[a9 e1,be]
    exact step vy vx y x (by omega) fy fx oy ox cy cx ly lx py px (by rw[Nat.gcd_comm];exact hg) cM
   ·have e1:¬jS (val x) (val y) < 0:=by
     simp -implicitDefEqProofs only[jS,if_neg cM];split <;> decide
    rw[aT e1,bf]
    exact step vx vy x y hb fx fy ox oy cx cy lx ly px py hg (by omega)
theorem z9{n i q:Nat}(hq:q % 2=1)(h:2 ^ n ∣ 2 ^ i * q):n≤i:=by
 by_cases hle:n≤i
 ·exact hle
 ·obtain⟨k,hk⟩:=h
  have e:2 ^ n=2 ^ i * (2 * 2 ^ (n - i - 1)):=by rw[←Nat.pow_succ',←Nat.pow_add];congr 1;omega
  rw[e,Nat.mul_assoc] at hk
  have:=Nat.eq_of_mul_eq_mul_left (Nat.two_pow_pos i) hk
  rw[Nat.mul_assoc] at this
  omega
theorem Aa{n i q:Nat}(hle:n≤i)(h:2 ^ i * q / 2 ^ n % 2=1):n=i:=by
 have e:2 ^ i * q=2 ^ n * (2 ^ (i - n) * q):=by rw[←Nat.mul_assoc,←Nat.pow_add];congr 2;omega
 rw[e,Nat.mul_div_cancel_left _ (Nat.two_pow_pos n)] at h
 by_cases hz:i - n=0
 ·omega
 ·obtain⟨k,hk⟩:∃k,i - n=k+1:=⟨i - n - 1,by omega⟩
  rw[hk,Nat.pow_succ',Nat.mul_assoc] at h
  omega
theorem aoK(s:St)(n1 n2:Bool)(v1 v2:AV)(x y:List Nat)(fx:Fz v1 x)(fy:Fz v2 y)(ox:bV x)(oy:bV y)(hx:gE n1 x=true)(hy:gE n2 y=true):
  ∃w r,aJ T1 G X 135 [iM n1 v1,iM n2 v2] s= .ok (.cS [iM false w, .int .i64 0]) s∧Fz w r∧bV r∧cN r∧val r=Nat.gcd (val x) (val y):=by
 obtain⟨cx,lx⟩:=kD hx
 obtain⟨cy,ly⟩:=kD hy
 let S0:=s.ai.new (.cells [.bool false, .sl 1 [] .nil])
 have hS0:Child s S0:=(Child.ai s).new _
 have c1:=z8 G X S0 n1 v1 x fx (by omega)
 have c2:=z8 G X S0 n2 v2 y fy (by omega)
 rw[hx] at c1
 rw[hy] at c2
 obtain⟨g1,os1,aBX,hg1⟩:=Ba G X (fx.rd S0) (by omega)
 have bs0:=fun(k:K1)=>oM (T:=T1) (G:=G) (X:=X) (s:=S0) (k:=k) []
 let S1:St:={S0 with own:=S0.own ++ os1}
 have bs1:=fun(k:K1)=>oM (T:=T1) (G:=G) (X:=X) (s:=S1) (k:=k) []
 obtain⟨g2,os2,aBZ,sR⟩:=Ba G X (fy.rd S1) (by omega)
 let S2:St:={S1 with own:=S1.own ++ os2}
 have hS2:Child s S2:=⟨hS0.up,hS0.ro⟩
 have kH:S2.own[0]? =some (.cells [.bool false, .sl 1 [] .nil]):=rfl
 have rx:Rd S2 (AV.av S2.aa (.sl 1 (x.map U) g1)) x:=af8 hg1
 have ry:Rd S2 (AV.av S2.aa (.sl 1 (y.map U) g2)) y:=af8 sR
 have XF:=fun(S:St) (k:K1)=>bt (T:=T1) (G:=G) (X:=X) (s:=S) (k:=k) 1 (x.map U) g1
 have SL:=fun(S:St) (k:K1)=>bt (T:=T1) (G:=G) (X:=X) (s:=S) (k:=k) 1 (y.map U) g2
 have gx:∃w r,(if x=[]∨y=[] then(PP T1 G X).aB S2 (fun v37 s=>(PP T1 G X).aB s (fun v38 s=>(PP T1 G X).bk s (fun v39 s=>(PP T1 G X).bk s (fun v40 s=>(PP T1 G X).a7 s (fun _v s=>(PP T1 G X).aI false [gB s (.ref (.l 0) 0) (some 2),some v40] s) 2 (.ref (.l 0) 0) (AV.av s.aa v39)) 1 v38) 0 v38) 155 [(AV.av s.aa (.bool false)),(AV.av s.aa v37)]) 156 [(AV.av S2.aa (.sl 1 (x.map U) g1)),(AV.av S2.aa (.sl 1 (y.map U) g2))] else E9 (PP T1 G X) (.ref (.l 0) 0) (.sl 1 (x.map U) g1) (.sl 1 (y.map U) g2) S2)= .ok (.cS [iM false w, .int .i64 0]) s∧Fz w r∧bV r∧cN r∧val r=Nat.gcd (val x) (val y):=by
  by_cases h0:x=[]∨y=[]
  ·obtain⟨v,q,aEW,fq,oq,cq,eq⟩:=aoE G X S2 _ _ x y rx ry ox oy (by omega) (by omega)
   have eg:val q=Nat.gcd (val x) (val y):=by
    rw[eq]
    rcases h0 with rfl | rfl
    ·simp [val]
    ·simp [val]
   have tq:dz q=q:=by
    have h1:=im q
    exact val_inj (ig oq) oq (tg (ig oq) oq (fP q) cq h1) h1
   have ql:q.length≤128:=by
    refine vE cq ?_
    rw[eq]
    have h3:=eK x ox
    have h4:B ^ x.length≤B ^ 128:=jH lx
    have h5:=eK y oy
    have h6:B ^ y.length≤B ^ 128:=jH ly
    rcases h0 with rfl | rfl
    ·simp -implicitDefEqProofs only[val];omega
    ·simp -implicitDefEqProofs only[val];omega
   obtain⟨w,aoJ,fw⟩:=SQ G X S2 false v q (fq.rd _) oq (by omega) (by rw[tq];exact ql)
   rw[tq] at fw
   refine⟨w,q,?_,fw,oq,cq,eg⟩
   rw[if_pos h0,aN aEW,sd,fq.av,aN aoJ,lm,lq,dc]
   exact zZ G X hS2 kH rfl _ fw 0
  ·have rN:val x≠0:=fun h=>h0 (.inl ((q0 cx).1 h))
   have GQ:val y≠0:=fun h=>h0 (.inr ((q0 cy).1 h))
   have bx:=eK x ox
   have bx2:B ^ x.length≤B ^ 128:=jH lx
   have by2:=eK y oy
   have by3:B ^ y.length≤B ^ 128:=jH ly
   have cM:val x < 2 ^ 4096:=by
    have:B ^ 128=2 ^ 4096:=by rw[zQ,←Nat.pow_mul,show 32 * 128=4096 from rfl]
    omega
   obtain⟨wx,qx,i,hox,fqx,oqx,cqx,eqx,pqx⟩:=GO G X S2 _ x rx ox rN (by omega)
   obtain⟨wy,qy,j,hoy,fqy,oqy,cqy,eqy,pqy⟩:=GO G X S2 _ y ry oy GQ (by omega)
   have lqx:qx.length≤128:=by
    refine vE cqx ?_
    have:=Nat.mul_le_mul_right (val qx) (Nat.two_pow_pos i)
    omega
   have lqy:qy.length≤128:=by
    refine vE cqy ?_
    have:=Nat.mul_le_mul_right (val qy) (Nat.two_pow_pos j)
    omega
   have j5:∀n,n≤i→n≤j→(n=i∨n=j)→∃w r,E8 (PP T1 G X) (.ref (.l 0) 0) (.sl 1 (x.map U) g1) (.sl 1 (y.map U) g2) (.int .i64 (n:Int)) S2= .ok (.cS [iM false w, .int .i64 0]) s∧Fz w r∧bV r∧cN r∧val r=Nat.gcd (val x) (val y):=fun n rn hnj DL=>by
    have hD:Nat.gcd (val qx) (val qy) * 2 ^ n=Nat.gcd (val x) (val y):=by
     rw[eqx,eqy];exact(ahA i j _ _ n pqx pqy rn hnj DL).symm
    have aEZ:Nat.gcd (val x) (val y) < B ^ 128:=Nat.lt_of_le_of_lt (Nat.gcd_le_left _ (by omega)) (by omega)
    have aE0:n < 4294967296:=by
     have h1:2 ^ i≤val x:=by
      rw[eqx]
      have:1≤val qx:=by omega
      have:=Nat.mul_le_mul_left (2 ^ i) this
      omega
     have:i < 4096:=(Nat.pow_lt_pow_iff_right (by omega)).1 (Nat.lt_of_le_of_lt h1 cM)
     omega
    obtain⟨w,r,k1,k2⟩:=SR G X s S2 hS2 kH n _ aE0 aEZ _ wx wy qx qy (Nat.lt_succ_self _) fqx fqy oqx oqy cqx cqy lqx lqy pqx pqy hD
    refine⟨w,r,?_,k2⟩
    rw[Pf _ (aA _ _ _),aN hox,aN hoy]
    exact k1
   have l3:∀m n:Nat,n+m=4096→2 ^ n ∣ val x→2 ^ n ∣ val y→∃w r,yH (PP T1 G X) (.ref (.l 0) 0) (.sl 1 (x.map U) g1) (.sl 1 (y.map U) g2) (.int .i64 (n:Int)) S2= .ok (.cS [iM false w, .int .i64 0]) s∧Fz w r∧bV r∧cN r∧val r=Nat.gcd (val x) (val y):=by
    intro m
    induction m with
    | zero=>
     intro n hn hdx
     have:=SD _ n rN hdx
     rw[show n=4096 by omega] at this
     omega
    | succ m ih=>
     intro n hn hdx hdy
     have bx:=GN G X S2 _ x n rx ox (by omega)
     have by':=GN G X S2 _ y n ry oy (by omega)
     have rn:n≤i:=z9 pqx (by rw[←eqx];exact hdx)
     have hnj:n≤j:=z9 pqy (by rw[←eqy];exact hdy)
     have a3:=fun(S:St) (k:K1)=>gD G X S k n (by omega)
     rcases Nat.mod_two_eq_zero_or_one (val x / 2 ^ n) with ex | ex
     ·rcases Nat.mod_two_eq_zero_or_one (val y / 2 ^ n) with ey | ey
      ·obtain⟨w,r,k1,k2⟩:=ih (n+1) (by omega) (qF _ n hdx ex) (qF _ n hdy ey)
       refine⟨w,r,?_,k2⟩
       rw[um _ (aA _ _ _),cD,aN bx,ex,bj,show decide (((0:Nat):Int)=0)=true from rfl]
       simp -implicitDefEqProofs only[dP,cD,↓(aN by'),ey,↓bj]
       rw[show decide (((0:Nat):Int)=0)=true from rfl]
       simp -implicitDefEqProofs only[c7,be,Pa _ (aA _ _ _),↓a3]
       exact k1
      ·obtain⟨w,r,k1,k2⟩:=j5 n rn hnj (.inr (Aa hnj (by rw[←eqy];exact ey)))
       refine⟨w,r,?_,k2⟩
       rw[um _ (aA _ _ _),cD,aN bx,ex,bj,show decide (((0:Nat):Int)=0)=true from rfl]
       simp -implicitDefEqProofs only[dP,cD,↓(aN by'),ey,↓bj]
       rw[show decide (((1:Nat):Int)=0)=false from rfl]
       simp -implicitDefEqProofs only[c7,bf]
       exact k1
     ·obtain⟨w,r,k1,k2⟩:=j5 n rn hnj (.inl (Aa rn (by rw[←eqx];exact ex)))
      refine⟨w,r,?_,k2⟩
      rw[um _ (aA _ _ _),cD,aN bx,ex,bj,show decide (((1:Nat):Int)=0)=false from rfl]
      simp -implicitDefEqProofs only[fV,dw,bf]
      exact k1
   obtain⟨w,r,k1,k2⟩:=l3 4096 0 (by omega) (by simp) (by simp)
   refine⟨w,r,?_,k2⟩
   rw[if_neg h0,Pg _ (aA _ _ _)]
   exact k1
 obtain⟨w,r,k1,k2⟩:=gx
 refine⟨w,r,?_,k2⟩
 have c1':aJ T1 G X 133 [iM n1 v1] (s.ai.new (.cells [.bool false, .sl 1 [] .nil]))= .ok (.bool true) (s.ai.new (.cells [.bool false, .sl 1 [] .nil])):=c1
 have c2':aJ T1 G X 133 [iM n2 v2] (s.ai.new (.cells [.bool false, .sl 1 [] .nil]))= .ok (.bool true) (s.ai.new (.cells [.bool false, .sl 1 [] .nil])):=c2
 rw[U4,amd]
 simp -implicitDefEqProofs only[↓jR,↓cc,↓bE,↓bP,↓dF,↓nB,↓qu,↓fh,bW,dT,↓reduceIte,dc,sd,Nat.zero_add,cP,eh,Nat.reduceAdd,↓e7,Nat.le_refl,List.take_succ_cons,List.take_zero,co,↓(aN c1'),↓(aN c2'),Bool.not_true,Ph _ (aA _ _ _)]
 refine(bs0 _).trans ?_
 refine(aBX _).trans ?_
 refine(bs1 _).trans ?_
 refine(aBZ _).trans ?_
 rw[XF,bj,nB]
 by_cases rN:x=[]
 ·rw[if_pos (.inl rN)] at k1
  have e:((x.map U).length:Int)=0:=by rw[rN];rfl
  rw[a9 e,if_pos rfl]
  exact k1
 ·have e:¬((x.map U).length:Int)=0:=by
   rw[cw];have:=List.length_pos_iff.2 rN;omega
  rw[aT e,if_neg (by decide),SL,bj]
  by_cases GQ:y=[]
  ·rw[if_pos (.inr GQ)] at k1
   have e:((y.map U).length:Int)=0:=by rw[GQ];rfl
   rw[a9 e]
   exact k1
  ·have e:¬((y.map U).length:Int)=0:=by
    rw[cw];have:=List.length_pos_iff.2 GQ;omega
   rw[if_neg (by simp [rN,GQ])] at k1
   rw[aT e]
   exact k1
theorem awE(s:St)(n1 n2:Bool)(v1 v2:AV)(x y:List Nat)(fx:Fz v1 x)(fy:Fz v2 y)(ox:bV x)(oy:bV y)(bx:x.length < 9223372036854775807)(by':y.length < 9223372036854775807):
  aJ T1 G X 86 [.agg [.bool n1,v1, .bool n2,v2]] s= .ok (.bool (lP n1 n2 x y)) s:=by
 have c1:=z8 G X s.ai n1 v1 x fx bx
 have c2:=z8 G X s.ai n2 v2 y fy by'
 have c3:=aoH G X s.ai n2 v2 y fy
 rw[ag1,ava]
 cases e1:gE n1 x with
 | false=>
  rw[e1] at c1
  simp -implicitDefEqProofs only[↓cc,↓bE,↓bP,↓dF,↓nB,↓EN,↓qu,↓fh,↓bq,bW,dT,↓reduceIte,dc,Nat.zero_add,cP,eh,Nat.reduceAdd,↓e7,Nat.reduceLeDiff,Nat.le_refl,List.take_succ_cons,List.take_zero,↓(aN c1),↓(aN c2),Bool.not_false,lP,e1,Bool.false_and]
 | true=>
  rw[e1] at c1
  cases e2:gE n2 y with
  | false=>
   rw[e2] at c2
   simp -implicitDefEqProofs only[↓cc,↓bE,↓bP,↓dF,↓nB,↓EN,↓qu,↓fh,↓bq,bW,dT,↓reduceIte,dc,Nat.zero_add,cP,eh,Nat.reduceAdd,↓e7,Nat.reduceLeDiff,Nat.le_refl,List.take_succ_cons,List.take_zero,co,↓(aN c1),↓(aN c2),Bool.not_true,Bool.not_false,lP,e1,e2,Bool.false_and,Bool.and_false]
  | true=>
   rw[e2] at c2
   cases n2 with
   | true=>simp -implicitDefEqProofs only[↓cc,↓bE,↓bP,↓dF,↓nB,↓EN,↓qu,↓fh,↓bq,bW,dT,↓reduceIte,dc,Nat.zero_add,cP,eh,Nat.reduceAdd,Bool.and_self,↓e7,Nat.reduceLeDiff,Nat.le_refl,List.take_succ_cons,List.take_zero,co,↓(aN c1),↓(aN c2),Bool.not_true,lP,e1,e2,Bool.false_and,Bool.and_false]
   | false=>
    by_cases hy:y=[]
    ·simp -implicitDefEqProofs only[↓cc,↓bE,↓bP,↓dF,↓nB,↓EN,↓qu,↓fh,↓bq,bW,dT,↓reduceIte,dc,Nat.zero_add,cP,eh,Nat.reduceAdd,↓e7,Nat.reduceLeDiff,Nat.le_refl,List.take_succ_cons,List.take_zero,decide_true,decide_false,co,↓(aN c1),↓(aN c2),↓(aN c3),Bool.not_true,lP,e1,hy,Bool.false_and,Bool.and_false,ne_eq,not_true_eq_false]
    ·obtain⟨cy,ly⟩:=kD e2
     obtain⟨w,r,aoy,fw,or,cr,er⟩:=aoK G X s.ai n1 false v1 v2 x y fx fy ox oy e1 e2
     have aoz:=fun S:St=>aoI G X S false w r fw
     have ld:=fun(k:K1)=>qz (T:=T1) (G:=G) (X:=X) (s:=s.ai) (k:=k) 2 [.bool false,w] [.bool false, .sl 1 [] .nil] rfl rfl (by simp -implicitDefEqProofs only[List.all_cons,fw.dU,List.all_nil];rfl)
     simp -implicitDefEqProofs only[↓jR,↓cc,↓bE,↓bP,↓dF,↓nB,↓EN,↓qu,↓fh,↓J7,bW,dT,↓reduceIte,dc,Nat.zero_add,cP,eh,Nat.reduceAdd,Bool.and_self,↓e7,Nat.reduceLeDiff,Nat.le_refl,List.take_succ_cons,List.take_zero,decide_true,decide_false,co,↓(aN c1),↓(aN c2),↓(aN c3),Bool.not_true,lP,e1,e2,eq_false hy,Bool.not_false,Bool.true_and,ne_eq,not_false_eq_true,Vn _ (aA _ _ _),qG,co,↓(aN aoy),↓lm,↓lq,↓ld,↓(aN (aoz _))]
     rw[eH ((Child.ai s).new _)]
     congr 3
     rw[eq_iff_iff,GL or cr,er]
abbrev I(n:Int):AV:=.int .i64 n
structure kw where
 neg:Bool
 oO:List Nat
 g:Gr
def kw.v(n:kw):AV:=.sl 1 (n.oO.map U) n.g
structure so (n:kw):Prop where
 g:∀a,n.g≠.bJ a
 ok:bV n.oO
 len:n.oO.length < 9223372036854775807
theorem so.fz{n:kw}(h:so n):Fz n.v n.oO:=⟨n.g,rfl,h.g⟩
structure aS where
 name:List Nat
 op:Int
 args:List Int
 ga:Gr
 x0:kw
 x1:kw
 y0:kw
 y1:kw
 br:Int
abbrev gp(l:List Int)(g:Gr):AV:=.sl 1 (l.map I) g
def aS.cs(x:aS):List AV:=[.str x.name,I x.op,gp x.args x.ga, .bool x.x0.neg,x.x0.v, .bool x.x1.neg,x.x1.v, .bool x.y0.neg,x.y0.v, .bool x.y1.neg,x.y1.v,I x.br]
def aS.enc(x:aS):AV:=.agg x.cs
structure sp (x:aS):Prop where
 ga:∀a,x.ga≠.bJ a
 al:x.args.length < 9223372036854775807
 x0:so x.x0
 x1:so x.x1
 y0:so x.y0
 y1:so x.y1
theorem wQ{g:Gr}(h:∀a,g≠.bJ a)(sz:Nat)(es:List AV):AV.bo (.sl sz es g)=true:=by cases g <;> first | rfl | exact absurd rfl (h _)
theorem aoO{g:Gr}(h:∀a,g≠.bJ a)(d:Nat):g.av d=g:=by cases g <;> first | rfl | exact absurd rfl (h _)
theorem ahM{g:Gr}(h:∀a,g≠.bJ a)(S:St)(sz:Nat)(es:List AV):Ab.freeze S (.sl sz es g)=some (.sl sz es g):=by
 show Ab.dE S _=_
 cases g <;> first | rfl | exact absurd rfl (h _)
theorem sp.bo{x:aS}(h:sp x):x.enc.bo=true:=by
 simp only[aS.enc,aS.cs,AV.bo,AV.ba,kw.v,wQ h.ga,wQ h.x0.g,wQ h.x1.g,wQ h.y0.g,wQ h.y1.g,Bool.and_self]
theorem aS.cells(x:aS):x.cs.all AV.dU=true:=rfl
def jC(op:Int):List Int:=
 if op=2 then[0] else if op=3 then[1,1] else if op=4 then[2,2] else if op=5 then[1,1] else if op=6∨op=7 then[1,1,1] else if op=8 then[2,3] else if op=9 then[3,3]
 else if op=10∨op=11 then[1,2] else if op=12 then[1,1] else if op=13 then[1,2] else if op=14 then[1,1,1] else if op=15 then[1,3] else if op=16 then[3] else[]
def dQ(op:Int):Int:=
 if op=1∨op=2∨op=4∨op=8∨op=9∨op=12∨op=13∨op=16 then 1 else if op=3∨op=10∨op=11∨op=14∨op=15 then 2 else if op=5∨op=6∨op=7 then 3 else 0
def oP(op:Int):Bool:=decide (op=8∨op=9∨op=14∨op=15)
def GR(op:Int):Gr:=if 2≤op∧op≤16 then .exact else .nil
abbrev Ja(op:Int):AV:=.cS [gp (jC op) (GR op),I (dQ op), .bool (oP op)]
theorem aoP{S:St}{k:K1}(l:List Int):(PP T1 G X).aF S k 1 (l.map I)=k (gp l .exact) S:=by
 refine kB 1 _ ?_ ?_
 ·induction l with
  | nil=>rfl
  | cons x l ih=>simp only[List.map_cons,AV.ba,ih,Bool.and_true];rfl
 ·induction l with
  | nil=>rfl
  | cons x l ih=>simp only[List.map_cons,List.all_cons,ih,Bool.and_true];rfl
theorem axP{s S:St}(hS:Child s S)(v:AV)(n:Int)(b:Bool)(hv:Ab.freeze S v=some v):(PP T1 G X).aI false [some v,some (.int .i64 n),some (.bool b)] S= .ok (.cS [v, .int .i64 n, .bool b]) s:=by
 obtain⟨h1,h2⟩:=hS
 show t9 false [some v,some (.int .i64 n),some (.bool b)] S=_
 unfold t9
 simp only[iT,jc,e9,cond_false,hv,show Ab.freeze S (.int .i64 n)=some (.int .i64 n) from rfl,show Ab.freeze S (.bool b)=some (.bool b) from rfl,xe,h1,h2]
theorem wR(op:Int):op=1∨op=2∨op=3∨op=4∨op=5∨op=6∨op=7∨op=8∨op=9∨op=10∨op=11∨op=12∨op=13∨op=14∨op=15∨op=16∨(op≠1∧op≠2∧op≠3∧op≠4∧op≠5∧op≠6∧op≠7∧op≠8∧op≠9∧op≠10∧op≠11∧op≠12∧op≠13∧op≠14∧op≠15∧op≠16):=by omega
theorem GS(op:Int)(s:St):aJ T1 G X 115 [I op] s= .ok (Ja op) s:=by
 rw[V7,am0]
 rcases wR op with h | h | h | h | h | h | h | h | h | h | h | h | h | h | h | h | h
 all_goals try (subst h;kernel_rfl)
 obtain⟨h1,h2,h3,h4,h5,h6,h7,h8,h9,CV,XI,XJ,XK,XL,XM,XN⟩:=h
 simp only[bj,bf,aT h1,aT h2,aT h3,aT h4,aT h5,aT h6,aT h7,aT h8,aT h9,aT CV,aT XI,aT XJ,aT XK,aT XL,aT XM,aT XN,QP _ (aA _ _ _),QO _ (aA _ _ _),QN _ (aA _ _ _)]
 have e:Ja op= .cS [gp [] .nil,I 0, .bool false]:=by
  unfold Ja
  have g:GR op= .nil:=by unfold GR;rw[if_neg (by omega)]
  rw[g]
  simp [jC,dQ,oP,h1,h2,h3,h4,h5,h6,h7,h8,h9,CV,XI,XJ,XK,XL,XM,XN]
 rw[e]
 exact axP G X (.ai s) _ _ _ rfl
theorem Ly(op:Int)(s:St):aJ T1 G X 83 [I op] s= .ok (Ja op) s:=by
 rw[ahf,avs]
 rcases wR op with h | h | h | h | h | h | h | h | h | h | h | h | h | h | h | h | h
 all_goals try (subst h;kernel_rfl)
 obtain⟨h1,h2,h3,h4,h5,h6,h7,h8,h9,CV,XI,XJ,XK,XL,XM,XN⟩:=h
 simp only[bj,bf,aT h1,aT h2,aT h3,aT h4,aT h5,aT h6,aT h7,aT h8,aT h9,aT CV,aT XI,aT XJ,aT XK,aT XL,aT XM,aT XN,V3 _ (aA _ _ _),V2 _ (aA _ _ _),V1 _ (aA _ _ _)]
 have e:Ja op= .cS [gp [] .nil,I 0, .bool false]:=by
  unfold Ja
  have g:GR op= .nil:=by unfold GR;rw[if_neg (by omega)]
  rw[g]
  simp [jC,dQ,oP,h1,h2,h3,h4,h5,h6,h7,h8,h9,CV,XI,XJ,XK,XL,XM,XN]
 rw[e]
 exact axP G X (.ai s) _ _ _ rfl
theorem aga(op:Int)(s:St):aJ T1 G X 85 [I op] s= .ok (I (dQ op)) s:=by
 rw[ahh,avu,cD,aN (Ly G X op s.ai),lm,lq,AP,b8]
theorem agb(x:aS)(s:St):aJ T1 G X 74 [x.enc] s= .ok (I (dQ x.op)) s:=by
 rw[ahe,avr]
 simp only[aS.enc,aS.cs,↓bE,↓bP,↓dF,↓b8,bW,dT,cD,↓(aN (GS G X x.op _)),lm,lq,AP]
theorem awF(x:aS)(s:St):aJ T1 G X 71 [x.enc] s= .ok (.bool (oP x.op)) s:=by
 rw[ahb,avo]
 simp only[aS.enc,aS.cs,↓bE,↓bP,↓dF,↓bq,bW,dT,cD,↓(aN (GS G X x.op _)),lm,lq,AP]
def acc(want is:Int):Bool:=decide (is=want) || (decide (want=0) && (decide (is=2) || decide (is=3)))
theorem aoQ(want is:Int)(s:St):aJ T1 G X 103 [I want,I is] s= .ok (.bool (acc want is)) s:=by
 rw[V5,amY,bj]
 unfold acc
 by_cases h1:is=want
 ·simp only[a9 h1,eY,c7,bq,Bool.true_or,eG]
 ·simp only[aT h1,dA,dw,Bool.false_or,bj]
  by_cases h2:want=0
  ·simp only[a9 h2,dP,bj,Bool.true_and]
   by_cases h3:is=2
   ·simp only[a9 h3,eY,c7,bq,Bool.true_or]
   ·simp only[aT h3,dA,dw,c7,bq,Bool.false_or,bj]
  ·simp only[aT h2,fV,dw,bq,Bool.false_and,eG]
theorem awG(is want:Int)(s:St)(hw:0≤is)(h0:want=0→is≠0):aJ T1 G X 84 [I is,I want] s= .ok (.bool (acc want is)) s:=by
 rw[ahg,avt,bj]
 unfold acc
 by_cases h2:want=0
 ·have h3:¬is=want:=fun e=>h0 h2 (by rw[e,h2])
  simp only[a9 h2,be,bj,aT h3,Bool.false_or,Bool.true_and]
  by_cases h4:is=2
  ·simp only[a9 h4,eY,c7,bq,Bool.true_or]
  ·simp only[aT h4,dA,dw,bj,bq,Bool.false_or]
 ·simp only[aT h2,bf,V4 _ (aA _ _ _),bj,bq,Bool.false_and,Bool.or_false]
end Go.jY
end
