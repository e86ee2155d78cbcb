/- A part of the proof: no condition. -/
import Derived.Test.YtnafklimohmfkaaGreatDoorA6
import Derived.Test.YtnafklimohmfkaaGreatDoorA4
set_option linter.unusedSectionVars false
set_option linter.unusedVariables false
section
namespace Go.h6
open Go.Ab Go.hd
variable(G:Nat→ai)(X:Nat→List ai→aq→ao)
theorem po(op:Int):(((dg op).toNat:Nat):Int)=dg op:=by
 have:0≤dg op:=by unfold dg;split<;> (try split)<;> (try split)<;> decide
 omega
theorem qY{S:aq}{k:a1}(v:List Int×cd)(h:∀a,v.2≠.bQ a):(aH au G X).av S k 1 [bA v]=k (.aW 1 [bA v] .exact) S:=by
 refine iY 1 _ ?_ rfl
 have:=rI h 1 (v.1.map I);simp only[ai.bj,bA,dx,this,Bool.and_true]
theorem l8{S:aq}{k:a1}(n:Int):(aH au G X).av S k 1 [I n]=k (.aW 1 [I n] .exact) S:=rfl
structure jX (F0 F:List bd) (S0:aq) (jb:cd) (awv:Nat) (tv:ai) (ts:List Nat):Prop where
 e:gi F0 F
 g:Mv F0.length {S0 with own:=F} jb awv
 t:nv F0.length F tv ts
section
variable{F0 F:List bd}{S0:aq}{jb:cd}{tv:ai}{ts:List Nat}{awv:Nat}
theorem jX.app{R:List (List Int×cd)}(h:jX F0 F S0 jb R.length tv ts)(v:List Int×cd)(bG:∀a,v.2≠.bQ a)(t:Nat)(I:ts.length<1000)(Z:R.length<1000):
  ∃r u y B,jX F0 y S0 u (R.length+1) B (ts++[t])∧
   (∀k:a1,(aH au G X).cn {S0 with own:=F} k 1 24 (some (.l 0)) (.aW 1 (R.map bA) jb) (.aW 1 [bA v] .exact)=k (.aW 1 ((R++[v]).map bA) u) {S0 with own:=r})∧
   ∀k:a1,(aH au G X).jz {S0 with own:=r} k 1 8 tv (.aW 1 [In t] .exact)=k B {S0 with own:=y}:=by
 have bD:Mv F0.length {S0 with own:=F} jb (R.map bA).length:=by rw[b2];exact h.g
 obtain⟨u,r,H,J,K,L⟩:=Mv.app G X (S:={S0 with own:=F}) (F0:=F0) (es:=R.map bA) (g:=jb) (v:=bA v) (bytes:=24) bD h.e rfl rfl (by simp;omega);have M:nv F0.length r tv ts:=by
  rcases h.t with aD|⟨i,bU,N,O,Q⟩
  ·exact .inl aD
  ·exact .inr ⟨i,bU,K i _ N (fun n e=>by cases e),O,Q⟩
 obtain⟨B,y,ml,U,V,Y⟩:=nv.app G X (S:={S0 with own:=r}) (F0:=F0) (tv:=tv) (ts:=ts) M J t I;refine⟨r,u,y,B,⟨U,⟨?_,H.eQ⟩,ml⟩,fun k=>?_,Y⟩
 ·have:=H.b5;rw[b2] at this;cases this with
  |bQ j n bX cp=>exact .bQ j _ bX (V j _ cp)
 ·rw[L,List.map_append];rfl
end
section
variable(l:List aO)(g:cd)(bD:∀a,g≠.bQ a)(br:l.length<9223372036854775806)(b6:∀o,o∈l→mh o)(od:dy l=0)
include bD br b6 od
theorem Rf{j:Nat}{A:cj}{cO:ai}{ck cm b5:cd}(x:aO)(v2 y B H J:ai)(F0:List bd)(S0:aq)(cp:F0[j]? =some (.cells (A.cells cO ck cm b5)))(u9:∀v∈A.aF,∀a,v.2≠.bQ a)(jw:x.args.length<100)(L:∀a∈x.args,0≤a∧a<(l.length:Int)∧a.toNat<A.aF.length):
  ∀(rest pre:List Int) (F:List bd) (jb:cd) (tv:ai),x.args=pre++rest→jX F0 F S0 jb (a4 A.aF pre).length tv (pre.map (eT l))→
  ∃dD r u,xy (aH au G X) (bP l g) v2 (.ref (.l j) 0) y (.aW 1 ((a4 A.aF pre).map bA) jb) tv B H J (dx x.args x.g0) (In x.args.length) (In pre.length) {S0 with own:=F}=xx (aH au G X) (bP l g) v2 (.ref (.l j) 0) y (.aW 1 ((a4 A.aF x.args).map bA) r) u B H J {S0 with own:=dD}∧jX F0 dD S0 r (a4 A.aF x.args).length u (x.args.map (eT l)):=by
 intro rest
 induction rest with
 |nil=>intro pre F jb tv aU h;rw[gf] at aU;subst aU;refine⟨F,jb,tv,?_,h⟩;rw[Ak,be,aM (by omega),bc]
 |cons a rest M=>
  intro pre F jb tv aU h;obtain⟨N,ag,O⟩:=L a (by rw[aU];simp);obtain⟨n,rfl⟩:=Int.eq_ofNat_of_zero_le N;have ah:pre.length<x.args.length:=by rw[aU];simp
  have g1:(x.args.map I)[pre.length]? =some (I (n:Int)):=by rw[aU];simp
  have i1:=fun S k=>ic G X S k 1 (x.args.map I) x.g0 .i64 pre.length _ g1
  have Q:=fun S k=>show(aH au G X).aj S k none (.bM (ai.cells (I (n:Int))))=k (I (n:Int)) S from rfl
  have bX:n<A.aF.length:=by simpa using O
  have g2:(A.aF.map bA)[n]? =some (bA (A.aF[n])):=by simp [bX]
  have i2:=fun S k=>ic G X S k 1 (A.aF.map bA) cm .i64 n _ g2
  have R:=fun S k=>show(aH au G X).aj S k none (.bM (ai.cells (bA (A.aF[n]))))=k (bA (A.aF[n])) S from rfl
  have U:=fun S k=>fJ G X S k pre.length (by omega)
  have V:fS l (n:Int)=0:=by unfold fS;rw[if_neg (by simp [od]),if_neg (by omega)]
  have c:=ZQ G X l g bD br b6 (n:Int) {S0 with own:=F};rw[if_pos V] at c;have Y:=fun(k:a1)=>ii G X (S:={S0 with own:=F}) (k:=k) (i:=j) (o:=0+0+2) (c:=.aW 1 (A.aF.map bA) cm) (h.e.bf j _ cp) rfl
  have hi:(a4 A.aF pre).length=pre.length:=by simp [a4]
  obtain⟨ak,r,Z,u,aG,aa,ab⟩:=jX.app G X h (A.aF[n]) (u9 _ (h4 bX)) (eT l (n:Int)) (by simp;omega) (by omega);have K:a4 A.aF (pre++[(n:Int)])=a4 A.aF pre++[A.aF[n]]:=by simp [a4,List.getD,bX]
  obtain⟨ac,ad,t3,ae,bz⟩:=M (pre++[(n:Int)]) Z r u (by rw[aU];simp) (by rw[K,dm,List.map_append];exact aG);refine⟨ac,ad,t3,?_,bz⟩;have af:I (dg (l.getD (n:Int).toNat default).op)=In (eT l (n:Int)):=by unfold eT;rw[In,po]
  rw[af] at c;rw[Ak,be,a7 (by omega),ba,Oz,i1,Q,du l bD];refine(aK c).trans ?_;rw[hv,hx,a3,aA,aA,Y,i2,R,qY G X _ (u9 _ (h4 bX))];refine(aa _).trans ?_;rw[l8];refine(ab _).trans ?_;rw[Oy,U,←ae,K,dm];rfl
end
theorem Rg{S:aq}{es new:List ai}{g2:cd}{q bytes:Nat}(bX:new≠[])(e:(es.length+new.length)*bytes≤1099511627776)(h:∀a,g2≠.bQ a)(k:a1):
  (aH au G X).cn S k q bytes (some (.l 0)) (.aW q es .exact) (.aW q new g2)=k (.aW q (es++new) (.bQ (.l S.own.length))) {S with own:=S.own++[.tok (es.length+new.length)]}:=by
 have el:dB S (.aW q new g2)=some (q,new):=by cases g2<;> first|rfl |exact absurd rfl (h _)
 have kT:Nat.ble ((es.length+new.length)*bytes) 1099511627776=true:=dN e;cases new with
 |nil=>exact absurd rfl bX
 |cons c cs=>rw[gS];unfold er;simp only;unfold fl;rw[el];simp only[fE,cG,kT,cb,aq.gg];rfl
theorem nw:∀(R:List (List Int×cd)),(∀v∈R,∀a,v.2≠.bQ a)→ai.bj (R.map bA)=true
 |[],_=>rfl
 |v::R,h=>by have:=rI (h v (by simp)) 1 (v.1.map I);simp only[fU,ai.bj,bA,dx,this,cG];exact nw R fun u hu=>h u (by simp [hu])
section
variable{F0 F:List bd}{S0:aq}{jb:cd}{tv:ai}{ts:List Nat}
theorem Mw(gH v1:List Int×cd)(R:List (List Int×cd))(I:R=[gH,v1])(h:jX F0 F S0 jb R.length tv ts)(bG:∀v∈R,∀a,v.2≠.bQ a)(J:ts.length<1000):
  ∃r H y B,jX F0 y S0 H 3 B (ts++[1])∧
   (∀k:a1,(aH au G X).jy 1 (.aW 1 (R.map bA) jb) none (some (.int .i64 1)) (some (.int .i64 1)) {S0 with own:=F} k=k (.aW 1 [bA gH] .exact) {S0 with own:=F})∧
   (∀k:a1,(aH au G X).cn {S0 with own:=F} k 1 24 (some (.l 0)) (.aW 1 [bA gH] .exact) (.aW 1 [bA gH,bA v1] .exact)=k (.aW 1 ([gH,gH,v1].map bA) H) {S0 with own:=r})∧
   ∀k:a1,(aH au G X).jz {S0 with own:=r} k 1 8 tv (.aW 1 [In 1] .exact)=k B {S0 with own:=y}:=by
 subst I;have K:=fun k:a1=>Rg G X (S:={S0 with own:=F}) (es:=[bA gH]) (new:=[bA gH,bA v1]) (g2:=.exact) (q:=1) (bytes:=24) (by simp) (by show(1+2)*24≤1099511627776;decide) (fun a e=>by cases e) k
 let r:=F++[.tok 3]
 have L:gi F0 r:=⟨by have:=h.e.len;simp [r];omega,fun i o M=>by have:=h.e.bf i o M;exact(ev (bZ.1 this).1).trans this⟩
 have N:nv F0.length r tv ts:=by
  rcases h.t with aD|⟨i,bU,u,O,Q⟩
  ·exact .inl aD
  ·exact .inr ⟨i,bU,(ev (bZ.1 u).1).trans u,O,Q⟩
 obtain⟨B,y,ml,U,V,Y⟩:=nv.app G X (S:={S0 with own:=r}) (F0:=F0) (tv:=tv) (ts:=ts) N L 1 J;refine⟨r,.bQ (.l F.length),y,B,⟨U,⟨.bQ _ _ (by decide) (V F.length 3 (by simp [r])),fun t e=>by injection e with e;injection e with e;rw[←e];exact h.e.len⟩,ml⟩,fun k=>?_,fun k=>K k,Y⟩;have aU:pH jb (([gH,v1]:List (List Int×cd)).map bA)=true:=by
  unfold pH;split
  ·exact nw _ bG
  ·rfl
 have Z:jb≠.nil:=fun e=>by
  rcases h.g.b5.inv with⟨_,u⟩|⟨t,u,_,_⟩
  ·simp at u
  ·rw[e] at u;cases u
 show lM 1 (.aW 1 (([gH,v1]:List (List Int×cd)).map bA) jb) none (some (.int .i64 1)) (some (.int .i64 1)) {S0 with own:=F} k=_;unfold lM;have h5:eE (.int .i64 1)=some 1:=rfl;simp only[pB,h5];rw[aU];cases jb with
 |nil=>exact absurd rfl Z
 |_=>rfl
end
theorem aiy{S:aq}{j:Nat}{A:cj}{cO:ai}{ck cm b5:cd}(h:iy S.own S.aa j A cO ck cm b5)(v:List Int×cd)(bG:∀a,v.2≠.bQ a)(am:A.aF.length<1000000):
  ∃dD q6,iy dD S.aa j {A with aF:=A.aF++[v]} cO ck q6 b5∧(∀(i:Nat) (cs:List ai),S.own[i]? =some (.cells cs)→i≠j→dD[i]? =some (.cells cs))∧S.own.length≤dD.length∧
   ∀k:a1,(aH au G X).cn S (fun O s=>(aH au G X).aE s (fun Q s=>(aH au G X).ag s (fun R s=>(aH au G X).ag s (fun U s=>(aH au G X).a6 s k 1 U (ai.ak s.aa O)) 2 R) 0 Q) (.ref (.l j) 0)) 1 24 (some (.l 0)) (.aW 1 (A.aF.map bA) cm) (.aW 1 [bA v] .exact)=k .dead {S with own:=dD}:=by
 have an:=(bZ.1 h.c).1;have inf:fi S S.aa:=⟨by have:=S.lG;omega,aX _⟩;have key:∃t r g',g'.ak S.aa=.bQ (.g S.aa t)∧r[t]? =some (.tok (A.aF.length+1))∧(cm=.nil→S.own.length≤t)∧(∀u,cm=.bQ (.g S.aa u)→t=u)∧nS S.own r S.aa cm∧
   ∀k:a1,(aH au G X).cn S k 1 24 (some (.l 0)) (.aW 1 (A.aF.map bA) cm) (.aW 1 [bA v] .exact)=k (.aW 1 ((A.aF++[v]).map bA) g') {S with own:=r}:=by
  have el:dB S (.aW 1 [bA v] .exact)=some (1,[bA v]):=rfl;have kT:Nat.ble (((A.aF.map bA).length+[bA v].length)*24) 1099511627776=true:=dN (by simp;omega);have V:Nat.ble ((A.aF.length+1)*24) 1099511627776=true:=dN (by omega);have Y:([bA v].flatMap ai.cells).all ai.dZ=true:=rfl;rcases h.Q1 with⟨rfl,ao⟩|⟨t,rfl,iq,cB⟩
  ·refine⟨S.own.length,S.own++[.tok (A.aF.length+1)],.bQ (.l S.own.length),rfl,by simp,fun _=>aX _,fun u e=>(by cases e),⟨by simp,fun i o bk _=>(ev (bZ.1 bk).1).trans bk⟩,fun k=>?_⟩;rw[gS];unfold er;simp only;unfold fl;rw[el];simp only[fE,cG,kT,cb,aq.gg];rw[List.map_append];simp only[b2,c0,ek,cf];rfl
  ·have Z:=(bZ.1 cB).1;refine⟨t,S.own.set t (.tok (A.aF.length+1)),.bQ (.g S.aa t),rfl,by simp [Z],fun e=>(by cases e),fun u e=>(by cases e;rfl),⟨by simp,fun i o bk cQ=>by rw[ew (fun e=>cQ (by rw[e]))];exact bk⟩,fun k=>?_⟩;have ab:S.get (.g S.aa t)=some (.tok A.aF.length):=by rw[ld inf,gY];exact cB
   have ac:S.set (.g S.aa t) (.tok (A.aF.length+1))=some {S with own:=S.own.set t (.tok (A.aF.length+1))}:=by rw[qq inf,gY];unfold aq.bH;rw[if_pos rfl]
   rw[gS];unfold er;simp only;unfold fl;rw[el];simp only[fE,cb,ab,b2,Y,eD,c0,ek,cf,V,cb,ac];rw[List.map_append];rfl
 obtain⟨t,r,g',kp,gw,hj,ad,I,ae⟩:=key
 let A':cj:={A with aF:=A.aF++[v]}
 have M:∀g n,ct S.own S.aa g n→apart S.aa cm g→∀u,g=.bQ (.g S.aa u)→t≠u:=fun g n bD K u e y=>by
  have hu:=(ct.le (e ▸ bD)).1;have ap:=(bZ.1 hu).1;rcases h.Q1 with⟨H,cL⟩|⟨af,H,aD,aG⟩
  ·have:=hj H;omega
  ·have:=ad af H;subst this;subst y;exact K _ H e
 have J:r[j]? =some (.cells (A.cells cO ck cm b5)):=I.mv j _ h.c (fun e=>by have:=(ct.le (e ▸ h.Q1)).1;rw[h.c] at this;cases this);have ah:=(bZ.1 J).1;have aj:t≠j:=fun e=>by subst e;rw[J] at gw;cases gw
 have ez:=fun k:a1=>uE G X (S:={S with own:=r}) (k:=k) (i:=j) (o:=0+0+2) (cs:=A.cells cO ck cm b5) (v:=.aW 1 (A'.aF.map bA) (.bQ (.g S.aa t))) J (by simp [cj.cells]) rfl rfl rfl
 let B:=r.set j (.cells (A'.cells cO ck (.bQ (.g S.aa t)) b5))
 have N:∀g n,ct S.own S.aa g n→apart S.aa cm g→ct B S.aa g n:=fun g n bD K=>ct.set (nS.Q8 I bD K) J (fun _ e=>by cases e)
 refine⟨B,.bQ (.g S.aa t),⟨by simp [B,ah,A'],N _ _ h.Bj h.ai0.symm,?_,N _ _ h.wr h.qJ,?_,h.ai1,?_⟩,fun i cs bk al=>?_,by show _≤B.length;simp only[B,List.length_set];exact I.len,fun k=>?_⟩
 ·refine .inr ⟨t,rfl,by simp,?_⟩;show B[t]? =_;rw[ew (Ne.symm aj),gw];simp
 ·intro u e y;injection y with y;injection y with H L;exact M _ _ h.Bj h.ai0.symm u e L
 ·intro u e y;injection e with e;injection e with H L;exact M _ _ h.wr h.qJ u y L
 ·show B[i]? =_;rw[ew (Ne.symm al)];exact I.mv i _ bk (fun e=>by have:=(ct.le (e ▸ h.Q1)).1;rw[bk] at this;cases this)
 ·refine(ae _).trans ?_;rw[a3,aA,aA];have e:ai.ak ({S with own:=r}:aq).aa (.aW 1 ((A.aF++[v]).map bA) g')=.aW 1 (A'.aF.map bA) (.bQ (.g S.aa t)):=by
   show ai.aW 1 _ (g'.ak S.aa)=_;rw[kp]
  rw[e];exact ez k
structure ks (l:List aO) (x:aO) (A:cj):Prop where
 aiz:1≤x.op
 auO:x.op≤16
 Dj:x.args.length<8
 args:∀a∈x.args,0≤a∧a<(l.length:Int)∧a.toNat<A.aF.length
 qJ:∀v∈A.aF,∀a,v.2≠.bQ a
 two:x.op=5→x.args.length=2
 t4:∀t∈stepT l x,t<4
 fit:∀p∈(gu A.aF x).zip (ds (decide (x.op=4)) (stepT l x)),p.1.1.length≤(hy p.2).length
 ins:A.ins.length+1000<1000000000
 roots:A.roots.length+100<1000000000
 CV:0≤A.dj
 dj:A.dj+100<1000000000
 MW:A.aF.length<1000000
theorem AZ(l:List aO)(x:aO)(aF:List (List Int×cd))(h:x.op=5→x.args.length=2):(gu aF x).length=(stepT l x).length:=by
 unfold gu stepT a4;by_cases e:x.op=5
 ·rw[if_pos e,if_pos e];simp [h e]
 ·rw[if_neg e,if_neg e];simp
section
variable{l:List aO}{g:cd}{x:aO}{A:cj}{S:aq}{j:Nat}{cO:ai}{ck cm b5:cd}
theorem jX.nil(F0:List bd)(S0:aq):jX F0 F0 S0 .nil 0 (.aW 1 [] .nil) []:=⟨.refl _,⟨.nil,fun t e=>by cases e⟩,.inl ⟨rfl,rfl⟩⟩
theorem Rh(gH v2 O Q R:ai)(F0 F:List bd)(S0:aq)(i7:Nat)(Z:F0[i7]? =some (.cells x.cs))(aT:ks l x A)(jb:cd)(tv:ai)(h:jX F0 F S0 jb (a4 A.aF x.args).length tv (x.args.map (eT l))):
  ∃dD L M,xx (aH au G X) gH v2 (.ref (.l j) 0) (.ref (.l i7) 0) (.aW 1 ((a4 A.aF x.args).map bA) jb) tv O Q R {S0 with own:=F}=tA (aH au G X) gH v2 (.ref (.l j) 0) (.ref (.l i7) 0) (.aW 1 ((gu A.aF x).map bA) L) M O Q R {S0 with own:=dD}∧jX F0 dD S0 L (gu A.aF x).length M (stepT l x):=by
 have U:=fun k:a1=>ii G X (S:={S0 with own:=F}) (k:=k) (i:=i7) (o:=0+1) (c:=I x.op) (h.e.bf i7 _ Z) rfl
 by_cases H:x.op=5
 ·have aG:=aT.two H;have hi:(a4 A.aF x.args).length=2:=by simp [a4,aG]
  obtain⟨y,B,J⟩:∃a b,a4 A.aF x.args=[a,b]:=by
   match aQ:a4 A.aF x.args with
   |[a,b]=>exact⟨a,b,rfl⟩
   |[]=>rw[aQ] at hi;simp at hi
   |[a]=>rw[aQ] at hi;simp at hi
   |a::b::c::r=>rw[aQ] at hi;simp at hi
  have bG:∀v∈a4 A.aF x.args,∀a,v.2≠.bQ a:=fun v bG a=>by
   simp only[a4,List.mem_map] at bG;obtain⟨q,dQ,rfl⟩:=bG;obtain⟨_,_,V⟩:=aT.args q dQ
   have:A.aF.getD q.toNat ([],.nil)=A.aF[q.toNat]:=by simp [List.getD,V]
   rw[this];exact aT.qJ _ (h4 V) a
  obtain⟨ah,L,aa,M,ab,ac,ad,ae⟩:=Mw G X y B _ J h bG (by have:=aT.Dj;simp;omega);have K:gu A.aF x=[y,y,B]:=by unfold gu;rw[if_pos H,J];rfl
  have N:stepT l x=x.args.map (eT l)++[1]:=by unfold stepT;rw[if_pos H]
  have i0:=fun S k=>ic G X S k 1 ((a4 A.aF x.args).map bA) jb .i64 0 (bA y) (by rw[J];rfl)
  have i1:=fun S k=>ic G X S k 1 ((a4 A.aF x.args).map bA) jb .i64 1 (bA B) (by rw[J];rfl)
  have Y:=fun(S:aq) (k:a1) (v:List Int×cd)=>show(aH au G X).aj S k none (.bM (ai.cells (bA v)))=k (bA v) S from rfl
  have af:∀a,y.2≠.bQ a:=bG y (by rw[J];simp);have ag:∀a,B.2≠.bQ a:=bG B (by rw[J];simp);have eB:∀(S:aq) (k:a1),(aH au G X).av S k 1 [bA y,bA B]=k (.aW 1 [bA y,bA B] .exact) S:=fun S k=>by
   refine iY 1 _ ?_ rfl;exact nw [y,B] (fun u hu=>by
    simp only[List.mem_cons,mc,or_false] at hu;rcases hu with rfl |rfl
    ·exact af
    ·exact ag)
  refine⟨aa,L,M,?_,by rw[K,N];exact ab⟩;rw[Aj,aA,U,bi,a7 H,ba];refine(ac _).trans ?_;refine(i0 _ _).trans ?_;rw[Y];refine(i1 _ _).trans ?_;rw[Y,eB];refine(ad _).trans ?_;refine(show(aH au G X).av _ _ 1 [I 1]=_ from l8 G X 1).trans ?_;refine(ae _).trans ?_;rw[K]
 ·have K:gu A.aF x=a4 A.aF x.args:=by unfold gu;rw[if_neg H]
  have N:stepT l x=x.args.map (eT l):=by unfold stepT;rw[if_neg H]
  refine⟨F,jb,tv,?_,by rw[K,N];exact h⟩;rw[Aj,aA,U,bi,aM H,bc,K]
theorem nv.len{ai2:Nat}{F:List bd}{tv:ai}{ts:List Nat}(h:nv ai2 F tv ts)(S:aq)(k:a1):(aH au G X).aY S k false tv=k (In ts.length) S:=by rcases h with⟨rfl,rfl⟩|⟨t,rfl,_,_⟩<;> rfl
theorem nv.ak{ai2:Nat}{F:List bd}{tv:ai}{ts:List Nat}(h:nv ai2 F tv ts)(d:Nat):q5 F d (tv.ak d) ts:=by
 rcases h with⟨rfl,rfl⟩|⟨t,rfl,aD,aG,_⟩
 ·exact .inl ⟨rfl,rfl⟩
 ·exact .inr ⟨t,rfl,aD,aG⟩
theorem nv.pw{ai2:Nat}{F:List bd}{tv:ai}{ts:List Nat}(h:nv ai2 F tv ts)(d:Nat){i:Nat}(bk:i<ai2):aa2 d i (tv.ak d):=fun a b c e=>by
 rcases h with⟨rfl,rfl⟩|⟨t,rfl,aD,aG,bz⟩
 ·cases e
 ·injection e with e;injection e with bU r;omega
end
section
variable{l:List aO}{g:cd}{x:aO}{A:cj}{S0:aq}{j:Nat}{cO:ai}{ck cm b5:cd}
theorem iy.ext{F dD:List bd}{d:Nat}(h:iy F d j A cO ck cm b5)(bo:gi F dD):iy dD d j A cO ck cm b5:=
 have k:∀{g n},ct F d g n→ct dD d g n:=fun bD=>ct.bf bD (fun t e=>by have cB:=(ct.le (e ▸ bD)).1;rw[cB];exact bo.bf t _ cB)
 ⟨bo.bf j _ h.c,k h.Bj,k h.Q1,k h.wr,h.ai0,h.ai1,h.qJ⟩
theorem lI(S:aq)(F dD:List bd):({S with own:=F}:aq).bH S.aa dD= {S with own:=dD}:=by unfold aq.bH;rw[if_pos (show S.aa=({S with own:=F}:aq).aa from rfl)]
theorem Ri(gH v2 ac ad af:ai)(F0 F:List bd)(i7:Nat)(aI:i7≠j)(Q:F0[i7]? =some (.cells x.cs))(ag:iy F0 S0.aa j A cO ck cm b5)(aT:ks l x A)(jb:cd)(tv:ai)(h:jX F0 F S0 jb (gu A.aF x).length tv (stepT l x)):
  ∃dD aJ dh q6 iz,tA (aH au G X) gH v2 (.ref (.l j) 0) (.ref (.l i7) 0) (.aW 1 ((gu A.aF x).map bA) jb) tv ac ad af {S0 with own:=F}=xw (aH au G X) gH v2 (.ref (.l j) 0) ac ad af {S0 with own:=dD}∧iy dD S0.aa j (lH l x A) aJ dh q6 iz∧(∀(i:Nat) (cs:List ai),F0[i]? =some (.cells cs)→i≠j→dD[i]? =some (.cells cs))∧F0.length≤dD.length:=by
 have bB:=aT.aiz;have bC:=aT.auO
 let S:aq:={S0 with own:=F}
 let d:=S0.aa
 have bD:S.aa=d:=rfl;have inf:fi S d:=⟨by have:=S0.lG;show S0.ro.length≤S0.aa;omega,aX _⟩;have L:S.cA d=F:=gY S;have aK:iy (S.cA d) d j A cO ck cm b5:=by rw[L];exact iy.ext ag h.e
 have aL:=(bZ.1 ag.c).1;have bE:=(bZ.1 Q).1;have aN:(stepT l x).length<9:=by unfold stepT;have:=aT.Dj;split<;> simp <;> omega
 have bF:(ds (decide (x.op=4)) (stepT l x)).length=(stepT l x).length:=by unfold ds;split<;> simp
 obtain⟨r,am,bU,an,ao,aO,bI,aP⟩:=ZO G X inf aK (tv:=tv.ak d) (ts:=stepT l x) (by rw[L];exact nv.ak h.t d) (nv.pw h.t d aL) (gu A.aF x) (jb.ak d) (decide (x.op=4)) aN aT.t4 (by rw[AZ l x A.aF aT.two];exact aX _) aT.fit;rw[L] at ao aO;have aQ:S.bH d r= {S0 with own:=r}:=lI S0 F r;rw[aQ] at bU an;obtain⟨n,bX⟩:=Int.eq_ofNat_of_zero_le (show 0≤x.op by omega);have R:1≤n:=by omega
 have U:n≤16:=by omega
 have aR:x.op.toNat=n:=by rw[bX];rfl
 let c:=kA (stepT l x)
 obtain⟨g1,g2,s',f46,aS⟩:=apW G X n c R U;obtain⟨aV,a0⟩:=lV n c R U;obtain⟨bJ,bK,bL,bM,a4,a5⟩:=lW n c R U;have a6:(iJ l x A).ins=A.ins:=rfl;have a8:dv (iJ l x A) (e1 (c6 n c)) (eu n c).length:=⟨by show A.ins.length+_<_;have:=aT.ins;omega,by show A.roots.length+_<_;have:=aT.roots;omega,aT.CV,by show A.dj+_<_;have:=aT.dj;omega⟩;have ba:(cC (c6 n c) (iJ l x A)).ins.length+j4 (f8 n c)<1000000000:=by
  have:∀(D:List (List Nat×jc)) (A:cj),(cC D A).ins.length=A.ins.length+e1 D:=fun D=>by
   induction D with
   |nil=>intro A;rfl
   |cons p D H=>
    intro A;obtain⟨w,y⟩:=p;rw[cC,H,e1];cases y with
    |e5=>show(A.emit 1 A.dj 0).1.ins.length+_=_;rw[fv,jc.size];omega
    |root e=>show((e.run A).1.emit 6 (e.run A).2 0).1.ins.length+_=_;rw[fv,dU,jc.size];omega
    |ex e=>show(e.run A).1.ins.length+_=_;rw[dU,jc.size];omega
  rw[this,a6]
  have:=aT.ins;omega
 have M:mI d j am cm b5 {S0 with own:=r} (iJ l x A) ck:=an;obtain⟨s2,bb,bc,B,V,ap⟩:=ZJ G X 400 (eu n c) (fB n c) (c6 n c) (f8 n c) g1 g2 aV a0 (by omega) (by omega) (fun p aU=>by have:=a4 p aU;omega) (fun p aU=>by have:=a5 p aU;omega) M a8 ba;obtain⟨u,rfl⟩:=ap.ez;have ar:({S0 with own:=r}:aq).bH d u= {S0 with own:=u}:=lI S0 r u;rw[ar] at B V;have Ck:=ap.Ck;have N:({S0 with own:=r}:aq).cA d=r:=gY {S0 with own:=r};have av:({S0 with own:=u}:aq).cA d=u:=gY {S0 with own:=u};rw[ar,N,av] at Ck;have be:dS (f8 n c) (cC (c6 n c) (iJ l x A))=fL l x A:=by unfold fL;rw[aR]
 rw[be] at B V;have Y:(fL l x A).1.aF=A.aF:=by
  have hG:∀(E:List g9) (A:cj),(dS E A).1.aF=A.aF:=fun E=>by
   induction E with
   |nil=>intro A;rfl
   |cons e E H=>intro A;rw[dS];exact(H _).trans (e3 e A).2.2.1
  have oY:∀(D:List (List Nat×jc)) (A:cj),(cC D A).aF=A.aF:=fun D=>by
   induction D with
   |nil=>intro A;rfl
   |cons p D H=>
    intro A;obtain⟨w,y⟩:=p;rw[cC,H];cases y with
    |e5=>rfl
    |root e=>exact(e3 e A).2.2.1
    |ex e=>exact(e3 e A).2.2.1
  unfold fL;rw[hG,oY];rfl
 have aw:∀a,eR (fL l x A).2≠.bQ a:=fun a e=>by unfold eR at e;split at e<;> cases e
 have Z:=V.as;rw[av] at Z;obtain⟨ax,bg,bh,bj,bl,O⟩:=aiy G X (S:={S0 with own:=u}) (j:=j) (A:=(fL l x A).1) Z ((fL l x A).2,eR (fL l x A).2) aw (by rw[Y];exact aT.MW);have ay:∀(i:Nat) (cs:List ai),F0[i]? =some (.cells cs)→i≠j→r[i]? =some (.cells cs):=fun i cs bk cQ=>ao i _ (h.e.bf i _ bk) cQ (nv.pw h.t d (bZ.1 bk).1)
 have bm:∀(i:Nat) (cs:List ai),F0[i]? =some (.cells cs)→i≠j→u[i]? =some (.cells cs):=fun i cs bk cQ=>by
  have aD:=ay i cs bk cQ;refine Ck.bf i _ aD cQ (fun e=>?_) (fun e=>?_) (fun e=>aP i (by rw[L];have:=h.e.len;have:=(bZ.1 bk).1;omega) e)
  ·have:=M.as.Bj;rw[N] at this;have:=(ct.le (e ▸ this)).1;rw[aD] at this;cases this
  ·have:=M.as.wr;rw[N] at this;have:=(ct.le (e ▸ this)).1;rw[aD] at this;cases this
 refine⟨ax,am,bb,bg,bc,?_,bh,fun i cs bk cQ=>bj i cs (bm i cs bk cQ) cQ,by have:=h.e.len;have:=Ck.len;have:u.length≤ax.length:=bl;omega⟩;have bn:∀K:a1,(aH au G X).aY S (fun bo s=>(aH au G X).ah s (fun J s=>(aH au G X).ae J true (fun k=>k tv s) s (fun bp s=>(aH au G X).ae J true (fun k=>(aH au G X).aZ s k 1 bp (.int .i64 0)) s (fun bq s=>(aH au G X).ae J true (fun k=>(aH au G X).aj s k none bq) s (fun br s=>(aH au G X).ae J true (fun k=>(aH au G X).ah s k (al .eql br (.int .i64 3))) s (fun bs s=>(aH au G X).a2 s K J bs (.bool false)))))) (al .gtr bo (.int .i64 0))) false tv=K (.bool c) S:=fun K=>by
  rcases h.t with⟨bU,B⟩|⟨t,bU,O,az,bN⟩
  ·have a9:c=false:=by show kA (stepT l x)=false;rw[B];rfl
   rw[nv.len G X h.t,ee,B,aM (by decide),a9];rfl
  ·obtain⟨t0,aB,aC⟩:∃t0 aB,stepT l x=t0::aB:=by
    cases bt:stepT l x with
    |nil=>rw[bt] at az;cases az
    |cons a b=>exact⟨a,b,rfl⟩
   have a9:c=decide ((t0:Int)=3):=by show kA (stepT l x)=_;rw[aC];unfold kA;simp only[List.head?_cons,bV];exact decide_eq_decide.2 (by omega)
   have bu:=fun(k:a1)=>uF G X (S:=S) (k:=k) (a:=.l t) (kk:=.i64) (stepT l x).length 0 0 (by omega)
   have eQ:=fun(k:a1)=>ii G X (S:=S) (k:=k) (i:=t) (o:=0) (c:=In t0) O (by rw[aC];rfl)
   rw[nv.len G X h.t,ee,a7 (by omega),bU,a9];simp only[dP];refine(bu _).trans ?_;rw[eQ,bi,cR]
 have aE:∀(F:List bd) (k:a1),F[i7]? =some (.cells x.cs)→(aH au G X).aj {S0 with own:=F} k none (.ref (.l i7) (0+1))=k (I x.op) {S0 with own:=F}:=fun F k kQ=>ii G X (S:={S0 with own:=F}) (i:=i7) (o:=0+1) (c:=I x.op) kQ rfl
 have bv:=h.e.bf i7 _ Q;have bw:=ay i7 _ Q aI;have bx:rV (.ref (.l j) (0+0+2)) (.ref (.l j) 0) 2=.ref (.l j) 2:=by simp [rV,mY]
 have ab:=M.as;rw[N] at ab;have bz:=fun(k:a1)=>ii G X (S:={S0 with own:=r}) (k:=k) (i:=j) (o:=2) (c:=.aW 1 (A.aF.map bA) cm) ab.c rfl
 have aG:∀(F:List bd) (A:cj) (cO:ai) (ck b5:cd) (vs:List (List Int×cd)),F[j]? =some (.cells (A.cells cO ck cm b5))→A.aF=vs→dH {S0 with own:=F} none (mj (.ref (.l j) 0) 2)=some [.aW 1 (vs.map bA) cm]:=fun F A cO ck b5 vs kQ bG=>by unfold dH cellsOf mj;simp only[show({S0 with own:=F}:aq).get (.l j)=some (.cells (A.cells cO ck cm b5)) from kQ];subst bG;rfl
 rw[OB];refine(bn _).trans ?_;rw[aA,aE F _ bv,bi];refine(dc bU (by rfl)).trans ?_;rw[a3,aA,aA,bx,bz,aA,aE r _ bw];refine(k7 (T:=au) (by rfl) (by rw[bX];exact f46) aS).trans ?_;refine(vo G X B (by rfl) ?_).trans ?_
 ·rw[aG r _ _ _ _ A.aF ab.c rfl,aG u _ _ _ _ A.aF Z.c Y];exact mL.2 ⟨_,rfl,rfl⟩
 rw[show dx (fL l x A).2 (eR (fL l x A).2)=bA ((fL l x A).2,eR (fL l x A).2) from rfl,qY G X _ aw];rw[Y] at O;refine(O _).trans ?_;rfl
end
def lg(l:List aO):List aO→cj→cj
 |[],A=>A
 |x::r,A=>lg l r (lH l x A)
def kP:cj:=⟨[],[],[],[],0,0⟩
section
variable(l:List aO)(g:cd)(bD:∀a,g≠.bQ a)(br:l.length<9223372036854775806)(b6:∀o,o∈l→mh o)(od:dy l=0)
include bD br b6 od
theorem Rj{j:Nat}{A:cj}{cO:ai}{ck cm b5:cd}(x:aO)(i:Nat)(bk:l[i]? =some x)(v2 e:ai)(F:List bd)(S0:aq)(y:iy F S0.aa j A cO ck cm b5)(aT:ks l x A):
  ∃dD r dh q6 iz,EM (aH au G X) (bP l g) v2 (.ref (.l j) 0) (bP l g) e (In i) {S0 with own:=F}=xw (aH au G X) (bP l g) v2 (.ref (.l j) 0) (bP l g) e (In i) {S0 with own:=dD}∧iy dD S0.aa j (lH l x A) r dh q6 iz∧(∀(i:Nat) (cs:List ai),F[i]? =some (.cells cs)→i≠j→dD[i]? =some (.cells cs))∧F.length≤dD.length:=by
 have ag:=(bZ.1 y.c).1
 let F0:List bd:=F++[.cells x.cs]
 have bo:gi F F0:=⟨by simp [F0],fun i o B=>(ev (bZ.1 B).1).trans B⟩;have H:=iy.ext y bo;have u:F0[F.length]? =some (.cells x.cs):=by simp [F0]
 have I:(l.map aO.enc)[i]? =some x.enc:=by rw[fw,bk];rfl
 have J:=fun S k=>ic G X S k 12 _ g .i64 i _ I
 have L:∀(S:aq) (K:a1),(aH au G X).aj S K (some 12) (.bM (ai.cells x.enc))=K x.enc S:=fun S K=>rfl
 have ez:=fun(cs:List ai) (k:a1) (h:cs.length=12)=>kx (T:=au) (G:=G) (X:=X) (s:={S0 with own:=F}) (k:=k) 12 x.cs cs rfl h x.cells
 have M:=fun(k:a1)=>ii G X (S:={S0 with own:=F0}) (k:=k) (i:=F.length) (o:=0+2) (c:=dx x.args x.g0) u rfl
 have N:jX F0 F0 S0 .nil (a4 A.aF []).length (.aW 1 [] .nil) (([]:List Int).map (eT l)):=jX.nil F0 S0;obtain⟨O,jb,tv,bU,Q⟩:=Rf G X l g bD br b6 od x v2 (.ref (.l F.length) 0) (bP l g) e (In i) F0 S0 H.c aT.qJ (by have:=aT.Dj;omega) aT.args x.args [] F0 .nil (.aW 1 [] .nil) rfl N;obtain⟨R,U,V,Y,Z⟩:=Rh G X (l:=l) (A:=A) (j:=j) (bP l g) v2 (bP l g) e (In i) F0 O S0 F.length u aT jb tv Q;obtain⟨ab,r,dh,q6,iz,ac,ad,ae,af⟩:=Ri G X (bP l g) v2 (bP l g) e (In i) F0 R F.length (by omega) u H aT U V Z;refine⟨ab,r,dh,q6,iz,?_,ad,fun i cs bk cQ=>ae i cs (bo.bf i _ bk) cQ,Nat.le_trans bo.len af⟩;rw[OC,J,L,gI];refine(ez _ _ rfl).trans ?_;rw[show({S0 with own:=F}:aq).new (.cells x.cs)= {S0 with own:=F0} from rfl,show({S0 with own:=F}:aq).own.length=F.length from rfl,aA,M,bg,b2];exact bU.trans (Y.trans ac)
theorem Rk{j i2:Nat}(B:i2≠j)(u:List ai)(S0:aq):∀(rest pre:List aO) (F:List bd) (A:cj) (cO:ai) (ck cm b5:cd),l=pre++rest→iy F S0.aa j A cO ck cm b5→F[i2]? =some (.cells u)→(∀(p q:List aO) (x:aO),rest=p++x::q→ks l x (lg l p A))→
  ∃dD H dh q6 iz,xz (aH au G X) (bP l g) (.ref (.l i2) 0) (.ref (.l j) 0) (bP l g) (In l.length) (In pre.length) {S0 with own:=F}=zx (aH au G X) (.ref (.l i2) 0) (.ref (.l j) 0) {S0 with own:=dD}∧iy dD S0.aa j (lg l rest A) H dh q6 iz∧dD[i2]? =some (.cells u)∧F.length≤dD.length∧(∀(i:Nat) (cs:List ai),F[i]? =some (.cells cs)→i≠j→dD[i]? =some (.cells cs)):=by
 intro rest
 induction rest with
 |nil=>intro pre F A cO ck cm b5 aU e aG r;rw[gf] at aU;subst aU;refine⟨F,cO,ck,cm,b5,?_,e,aG,aX _,fun _ _ h _=>h⟩;rw[Al,be,aM (by omega),bc]
 |cons x rest I=>
  intro pre F A cO ck cm b5 aU e aG r;have ae:pre.length<l.length:=by rw[aU];simp
  have aT:ks l x A:=r [] rest x rfl;have J:=fun S k=>fJ G X S k pre.length (by omega)
  obtain⟨K,L,M,mw,N,bU,O,gw,Q⟩:=Rj G X l g bD br b6 od x pre.length (by rw[aU];simp) (.ref (.l i2) 0) (In l.length) F S0 e aT;obtain⟨R,U,V,u2,Y,Z,ab,ac,ad,hj⟩:=I (pre++[x]) K (lH l x A) L M mw N (by rw[aU];simp) O (gw i2 _ aG B) (fun p q y aQ=>r (x::p) q y (by rw[aQ];rfl));refine⟨R,U,V,u2,Y,?_,ab,ac,Nat.le_trans Q ad,fun i cs bk cQ=>hj i cs (gw i cs bk cQ) cQ⟩;rw[Al,be,a7 (by omega),ba,bU,OA,J,←Z,dm];rfl
end
def vq(e:Int)(ins:List fR)(ck:cd)(aF:List (List Int×cd))(cm:cd)(roots:List Int)(b5:cd):ai:=.agg [I e,.aW 3 (ins.map fR.enc) ck,.aW 1 (aF.map bA) cm,dx roots b5]
end Go.h6
end
section
namespace Go.h6
open Go.Ab Go.hd
structure Inv (l pre:List aO) (A:cj):Prop where
 MW:A.aF.length=pre.length
 len:∀(k:Nat) (x:aO) (v:List Int×cd),pre[k]? =some x→A.aF[k]? =some v→v.1.length=nU (dg x.op).toNat
 qJ:∀v∈A.aF,∀a,v.2≠.bQ a
 ins:A.ins.length≤500*pre.length
 roots:A.roots.length≤40*pre.length
 CV:0≤A.dj
 dj:A.dj≤40*(pre.length:Int)
theorem qZ:∀(p e:List aO) (x:aO) (q:List aO),jG e (p++x::q)=true→wf (e++p) x=true
 |[],e,x,q,h=>by rw[List.nil_append,jG,bL] at h;rw[gf];exact h.1
 |y::p,e,x,q,h=>by
  rw[List.cons_append,jG,bL] at h
  have:=qZ p (e++[y]) x q h.2
  rwa [jY] at this
theorem auP{op:Int}(h:dg op≠0):1≤op∧op≤16:=by
 unfold dg at h;split at h
 ·omega
 ·split at h
  ·omega
  ·split at h
   ·omega
   ·exact absurd rfl h
theorem l9(op:Int):dg op=0∨dg op=1∨dg op=2∨dg op=3:=by
 unfold dg;split
 ·exact .inr (.inl rfl)
 ·split
  ·exact .inr (.inr (.inl rfl))
  ·split
   ·exact .inr (.inr (.inr rfl))
   ·exact .inl rfl
theorem qx(pre:List aO):∀(ws as:List Int) (k:Nat) (w a:Int),gE pre ws as=true→ws[k]? =some w→as[k]? =some a→n9 pre w a=true
 |[],_,k,w,a,_,h,_=>by simp at h
 |_::_,[],k,w,a,_,_,h=>by simp at h
 |r::ws,u::as,0,w,a,h,hw,e=>by rw[gE,bL] at h;simp only[List.getElem?_cons_zero,bV] at hw e;subst hw;subst e;exact h.1
 |r::ws,u::as,k+1,w,a,h,hw,e=>by rw[gE,bL] at h;exact qx pre ws as k w a h.2 (by simpa using hw) (by simpa using e)
theorem aiA{l pre rest:List aO}(br:l=pre++rest){a:Int}(cL:0≤a)(aD:a<(pre.length:Int)):∃o,pre[a.toNat]? =some o∧eT l a=(dg o.op).toNat∧o∈pre:=by
 have aG:a.toNat<pre.length:=by omega
 refine⟨pre[a.toNat],by simp [aG],?_,h4 aG⟩;unfold eT;rw[br];simp [List.getD,ev aG,aG]
theorem uG{l pre rest:List aO}(br:l=pre++rest)(hw:jG [] l=true):∀o∈pre,dg o.op≠0:=by intro o e;obtain⟨p,q,r⟩:=List.append_of_mem e;have h:=qZ p [] o (q++rest) (by rw[←List.cons_append,←jY,←r,←br];exact hw);unfold wf at h;simp only[bL,ij] at h;exact h.1.1.1
theorem aiB{p:Prop}[Decidable p]{a b:List Int}(e:a.length≤3)(r:b.length≤3):(if p then a else b).length≤3:=by
 by_cases h:p
 ·rw[if_pos h];exact e
 ·rw[if_neg h];exact r
theorem aa3(op:Int):(h9 op).length≤3:=by
 unfold h9
 repeat (first|exact(by decide:([]:List Int).length≤3)|refine aiB (by decide) ?_)
theorem Ba{l pre rest:List aO}{x:aO}{A:cj}(br:l=pre++x::rest)(hw:jG [] l=true)(am:l.length≤40)(e:Inv l pre A):ks l x A:=by
 have an:pre.length<l.length:=by rw[br];simp
 have N:=qZ pre [] x rest (by rw[←br];exact hw);rw[List.nil_append] at N;unfold wf at N;simp only[bL,ij] at N;obtain⟨⟨⟨ac,O⟩,ao⟩,ad,ap⟩:=N;obtain⟨ae,af⟩:=auP ac;have jw:x.args.length≤3:=by rw[←O];exact aa3 x.op
 have J:∀(k:Nat) (a:Int),x.args[k]? =some a→∃w,(h9 x.op)[k]? =some w∧0≤a∧a<(pre.length:Int)∧∃o,pre[a.toNat]? =some o∧o∈pre∧eT l a=(dg o.op).toNat∧acc w (dg o.op)=true:=by
  intro k a cg;have Z:k<(h9 x.op).length:=by rw[O];exact(bZ.1 cg).1
  have b6:=qx pre _ _ k _ a ad (dM Z) cg;unfold n9 at b6;simp only[bL,ij] at b6;obtain⟨⟨ml,K⟩,aa⟩:=b6;obtain⟨o,u,H,r⟩:=aiA br ml K;rw[u] at aa;exact⟨_,dM Z,ml,K,o,u,r,H,aa⟩
 have hV:∀a∈x.args,∃k,x.args[k]? =some a:=fun a L=>List.getElem?_of_mem L
 have Q:∀(a:Int) (o:aO),0≤a→pre[a.toNat]? =some o→(A.aF.getD a.toNat ([],.nil)).1.length=nU (dg o.op).toNat:=fun a o cL aD=>by
  have aG:=(bZ.1 aD).1;have bz:a.toNat<A.aF.length:=by rw[e.MW];exact aG
  have:A.aF.getD a.toNat ([],.nil)=A.aF[a.toNat]:=by simp [List.getD,bz]
  rw[this];exact e.len a.toNat o _ aD (dM bz)
 have iq:∀o∈pre,(dg o.op).toNat=1∨(dg o.op).toNat=2∨(dg o.op).toNat=3:=fun o ag=>by
  have aD:=uG br hw o ag;rcases l9 o.op with h|h|h|h
  ·exact absurd h aD
  ·rw[h];exact .inl rfl
  ·rw[h];exact .inr (.inl rfl)
  ·rw[h];exact .inr (.inr rfl)
 have aG:x.op=5→x.args.length=2:=fun h=>by rw[←O,h];rfl
 refine⟨ae,af,by omega,fun a L=>?_,e.qJ,aG,fun t cB=>?_,?_,by have:=e.ins;omega,by have:=e.roots;omega,e.CV,by have:=e.dj;omega,by rw[e.MW];omega⟩
 ·obtain⟨k,cg⟩:=hV a L;obtain⟨w,_,ml,K,_⟩:=J k a cg;exact⟨ml,by omega,by rw[e.MW];omega⟩
 ·have:∀t∈x.args.map (eT l),t<4:=fun t cB=>by
   simp only[List.mem_map] at cB;obtain⟨a,L,rfl⟩:=cB;obtain⟨k,cg⟩:=hV a L;obtain⟨w,_,ml,K,o,u,H,r,I⟩:=J k a cg;rw[r]
   have:=iq o H;omega
  unfold stepT at cB;split at cB
  ·rw[List.mem_append] at cB;rcases cB with cB|cB
   ·exact this t cB
   ·simp at cB;omega
  ·exact this t cB
 ·
  by_cases B:x.op=5
  ·have hlen:=aG B;obtain⟨a,b,R⟩:∃a b,x.args=[a,b]:=by
    match aT:x.args with
    |[a,b]=>exact⟨a,b,rfl⟩
    |[]=>rw[aT] at hlen;simp at hlen
    |[_]=>rw[aT] at hlen;simp at hlen
    |_::_::_::_=>rw[aT] at hlen;simp at hlen
   obtain⟨aq,U,V,ah,o,u,H,r,I⟩:=J 0 a (by rw[R];rfl);obtain⟨ar,Y,ml,K,o',d1,d2,d3,d4⟩:=J 1 b (by rw[R];rfl);have kR:h9 x.op=[1,1]:=by rw[B];rfl
   rw[kR] at U Y;simp only[List.getElem?_cons_zero,List.getElem?_cons_succ,bV] at U Y;subst U;subst Y;have t0:(dg o.op).toNat=1:=by rcases l9 o.op with h|h|h|h<;> rw[h] at I ⊢ <;> first|rfl |exact absurd I (by decide)
   have t1:(dg o'.op).toNat=1:=by rcases l9 o'.op with h|h|h|h<;> rw[h] at d4 ⊢ <;> first|rfl |exact absurd d4 (by decide)
   have M:=Q a o V u;have hG:=Q b o' ml d1;rw[t0] at M r;rw[t1] at hG d3;have ai:decide (x.op=4)=false:=by rw[B];rfl
   rw[ai];unfold gu stepT ds a4;rw[if_pos B,if_pos B,R];simp only[fU,List.map_nil,r,d3,co,if_false];intro p aU;simp only[List.getD_cons_zero,List.getD_cons_succ,List.cons_append,List.nil_append,List.zip_cons_cons,List.zip_nil_right,List.mem_cons,mc,or_false] at aU;rcases aU with rfl |rfl |rfl
   ·rw[M];exact aX 3
   ·rw[M];exact aX 3
   ·rw[hG];exact aX 3
  ·have es:gu A.aF x=a4 A.aF x.args:=by unfold gu;rw[if_neg B]
   have aj:stepT l x=x.args.map (eT l):=by unfold stepT;rw[if_neg B]
   rw[es,aj];intro p aU;obtain⟨k,cg⟩:=List.getElem?_of_mem aU;rw[List.getElem?_zip_eq_some] at cg;obtain⟨gw,hj⟩:=cg;unfold a4 at gw;rw[fw] at gw;obtain⟨a,ab,x2⟩:=Option.map_eq_some_iff.1 gw;obtain⟨w,hw,V,ah,o,u,H,r,I⟩:=J k a ab;have M:=Q a o V u;rw[←x2,M];by_cases cz:x.op=4
   ·have kR:h9 x.op=[2,2]:=by rw[cz];rfl
    rw[kR] at hw;have ak:w=2:=by
     match k,hw with
     |0,hw=>simp at hw;exact hw.symm
     |1,hw=>simp at hw;exact hw.symm
     |k+2,hw=>simp at hw
    subst ak;have t0:(dg o.op).toNat=2:=by rcases l9 o.op with h|h|h|h<;> rw[h] at I ⊢ <;> first|rfl |exact absurd I (by decide)
    rw[a7 cz] at hj;unfold ds at hj;rw[if_pos rfl,fw] at hj;obtain⟨y,_,al⟩:=Option.map_eq_some_iff.1 hj;rw[t0,←al];decide
   ·rw[aM cz] at hj;unfold ds at hj;rw[if_neg (by decide),fw,ab] at hj;simp only[eU,bV] at hj;rw[←hj,r,CU _ (iq o H)];exact aX _
end Go.h6
end
section
namespace Go.h6
open Go.Ab Go.hd
variable(G:Nat→ai)(X:Nat→List ai→aq→ao)
theorem nx:∀(E:List g9) (A:cj),(dS E A).1.aF=A.aF∧(dS E A).1.roots=A.roots∧(dS E A).1.dj=A.dj∧(dS E A).1.ins.length=A.ins.length+j4 E
 |[],A=>⟨rfl,rfl,rfl,rfl⟩
 |e::E,A=>by have aD:=e3 e A;have aG:=nx E (e.run A).1;have bz:=dU e A;rw[dS];refine⟨aG.1.trans aD.2.2.1,aG.2.1.trans aD.1,aG.2.2.1.trans aD.2.1,?_⟩;rw[aG.2.2.2,bz,j4];omega
theorem gv:∀(D:List (List Nat×jc)) (A:cj),(cC D A).aF=A.aF∧(cC D A).roots.length≤A.roots.length+D.length∧A.dj≤(cC D A).dj∧(cC D A).dj≤A.dj+D.length∧(cC D A).ins.length=A.ins.length+e1 D
 |[],A=>⟨rfl,aX _,Int.le_refl _,by rw[cC];simp,rfl⟩
 |(w,y)::D,A=>by
  have h:=gv D (y.run w A);rw[cC,e1,c0];cases y with
  |e5=>have bU:(jc.e5.run w A).aF=A.aF:=rfl;have u:(jc.e5.run w A).roots=A.roots:=rfl;have B:(jc.e5.run w A).dj=A.dj+1:=rfl;have H:(jc.e5.run w A).ins.length=A.ins.length+1:=fv A 1 A.dj 0;rw[bU,u,B,H] at h;exact⟨h.1,by omega,by omega,by omega,by rw[h.2.2.2.2,jc.size];omega⟩
  |root e=>
   have r:=e3 e A;have bU:((jc.root e).run w A).aF=A.aF:=r.2.2.1;have u:((jc.root e).run w A).roots.length=A.roots.length+1:=by show((e.run A).1.roots++[_]).length=_;rw[r.1];simp
   have B:((jc.root e).run w A).dj=A.dj:=r.2.1;have H:((jc.root e).run w A).ins.length=A.ins.length+(e.size+1):=by show((e.run A).1.emit 6 (e.run A).2 0).1.ins.length=_;rw[fv,dU];omega
   rw[bU,u,B,H] at h;exact⟨h.1,by omega,by omega,by omega,by rw[h.2.2.2.2,jc.size];omega⟩
  |ex e=>have r:=e3 e A;have bU:((jc.ex e).run w A).aF=A.aF:=r.2.2.1;have u:((jc.ex e).run w A).roots=A.roots:=r.1;have B:((jc.ex e).run w A).dj=A.dj:=r.2.1;have H:((jc.ex e).run w A).ins.length=A.ins.length+e.size:=dU e A;rw[bU,u,B,H] at h;exact⟨h.1,by omega,by omega,by omega,by rw[h.2.2.2.2,jc.size];omega⟩
theorem aiC(op:Nat)(c:Bool)(aD:1≤op)(aG:op≤16):(c6 op c).length≤30:=by
 have t:∀op:Nat,op<17→1≤op→∀c:Bool,(c6 op c).length≤30:=by decide +kernel
 exact t op (by omega) aD c
theorem aa4{l pre rest:List aO}{x:aO}{A:cj}(h:Inv l pre A)(aT:ks l x A):Inv l (pre++[x]) (lH l x A):=by
 obtain⟨n,bX⟩:=Int.eq_ofNat_of_zero_le (show 0≤x.op by have:=aT.aiz;omega);have B:1≤n:=by have:=aT.aiz;omega
 have H:n≤16:=by have:=aT.auO;omega
 have L:x.op.toNat=n:=by rw[bX];rfl
 let c:=kA (stepT l x)
 obtain⟨V,Y,Z,aa,ab,ac⟩:=lW n c B H;have ad:=aiC n c B H;have J:fL l x A=dS (f8 n c) (cC (c6 n c) (iJ l x A)):=by unfold fL;rw[L]
 have u:=nx (f8 n c) (cC (c6 n c) (iJ l x A));have d1:=gv (c6 n c) (iJ l x A);rw[←J] at u;have M:(iJ l x A).aF=A.aF:=rfl;have N:(iJ l x A).roots=A.roots:=rfl;have O:(iJ l x A).dj=A.dj:=rfl;have es:(iJ l x A).ins=A.ins:=rfl;rw[M,N,O,es] at d1;have bG:(fL l x A).1.aF=A.aF:=u.1.trans d1.1;have I:(lH l x A).aF=A.aF++[((fL l x A).2,eR (fL l x A).2)]:=by show(fL l x A).1.aF++_=_;rw[bG]
 have Q:∀a,eR (fL l x A).2≠.bQ a:=fun a e=>by unfold eR at e;split at e<;> cases e
 refine⟨by rw[I];simp [h.MW],fun k y v cg r=>?_,fun v bG a=>?_,?_,?_,?_,?_⟩
 ·rw[I] at r;by_cases K:k<pre.length
  ·rw[ev K] at cg;rw[ev (by rw[h.MW];exact K)] at r;exact h.len k y v cg r
  ·have R:=(bZ.1 cg).1;simp at R;have U:k=pre.length:=by omega
   subst U;rw[←h.MW] at r;rw[i9 (aX _)] at cg r;simp at cg r;subst cg;subst r;show(fL l x A).2.length=_;rw[J,vp,bX];exact aix n c B H
 ·rw[I] at bG;simp only[List.mem_append,List.mem_singleton] at bG;rcases bG with bG|rfl
  ·exact h.qJ v bG a
  ·exact Q a
 ·show(fL l x A).1.ins.length≤_;rw[u.2.2.2,d1.2.2.2.2];have:=h.ins;simp;omega
 ·show(fL l x A).1.roots.length≤_;rw[u.2.1];have:=h.roots;simp;omega
 ·show 0≤(fL l x A).1.dj;rw[u.2.2.1];have:=h.CV;omega
 ·show(fL l x A).1.dj≤_;rw[u.2.2.1];have:=h.dj;simp;omega
theorem aiD(l:List aO):Inv l [] kP:=⟨rfl,fun k x v h=>by simp at h,fun v h=>by simp [kP] at h,aX _,aX _,Int.le_refl _,Int.le_refl _⟩
theorem uH{l:List aO}(hw:jG [] l=true)(h:l.length≤40):∀(p pre q:List aO) (A:cj),l=pre++p++q→Inv l pre A→Inv l (pre++p) (lg l p A)
 |[],pre,q,A,br,e=>by rw[gf];exact e
 |x::p,pre,q,A,br,e=>by
  have aT:=Ba (rest:=p++q) (x:=x) (by rw[br];simp) hw h e;have aD:=aa4 (rest:=p++q) e aT
  have:=uH hw h p (pre++[x]) q (lH l x A) (by rw[br];simp) aD;rw[lg];simpa using this
theorem CW{l:List aO}(hw:jG [] l=true)(e:l.length≤40)(p q:List aO)(x:aO)(br:l=p++x::q):ks l x (lg l p kP):=by have:=uH hw e p [] (x::q) kP (by rw[br];rfl) (aiD l);rw[List.nil_append] at this;exact Ba br hw e this
theorem mX{l:List aO}(h:dy l=0):jG [] l=true∧l.length≤40:=by
 unfold dy at h;cases hw:jG [] l with
 |false=>rw[hw] at h;simp at h
 |true=>
  rw[hw] at h;simp only[cb] at h;split at h
  ·cases h
  ·rename_i aD;exact⟨rfl,by omega⟩
def gM(l:List aO):cj:=lg l l kP
def aiE(A:cj)(ck cm b5:cd):ai:=vq A.dj A.ins ck A.aF cm A.roots b5
abbrev cl:List ai:=[.int .i64 0,.aW 3 [] .nil,.aW 1 [] .nil,.aW 1 [] .nil]
theorem ma{S:aq}{k:a1}{i n:Nat}{cs:List ai}(h:S.own[i]? =some (.cells cs))(bX:n≤cs.length):(aH au G X).aj S k (some n) (.ref (.l i) 0)=k (.agg (cs.take n)) S:=by rw[k5];simp only[fq,show S.get (.l i)=some (.cells cs) from h,bT];exact ed (T:=au) (G:=G) (X:=X) (s:=S) (k:=k) n cs bX
structure lJ (F:List bd) (d:Nat) (L:List (cd×Nat)):Prop where
 b5:∀(k:Nat) (p:cd×Nat),L[k]? =some p→ct F d p.1 p.2
 pw:∀(k jh:Nat) (p x3:cd×Nat),k≠jh→L[k]? =some p→L[jh]? =some x3→apart d p.1 x3.1
structure aqT (F dD:List bd) (j:Nat):Prop where
 bf:∀(i:Nat) (cs:List ai),F[i]? =some (.cells cs)→i≠j→dD[i]? =some (.cells cs)
 len:F.length≤dD.length
theorem aqT.refl(F:List bd)(j:Nat):aqT F F j:=⟨fun _ _ h _=>h,aX _⟩
theorem aqT.trans{F e r:List bd}{j:Nat}(h:aqT F e j)(k:aqT e r j):aqT F r j:=⟨fun i cs bk cQ=>k.bf i cs (h.bf i cs bk cQ) cQ,Nat.le_trans h.len k.len⟩
structure eM (d j:Nat) (S b4:aq):Prop where
 ez:∃F,b4=S.bH d F
 x2:aqT (S.cA d) (b4.cA d) j
section
variable{d j:Nat}{S b4:aq}
theorem eM.refl(fd:fi S d):eM d j S S:=⟨⟨S.cA d,by rw[ky fd]⟩,.refl _ _⟩
theorem eM.trans{e:aq}(h:eM d j S b4)(k:eM d j b4 e):eM d j S e:=by obtain⟨F,rfl⟩:=h.ez;obtain⟨dD,rfl⟩:=k.ez;exact⟨⟨dD,by rw[gr]⟩,h.x2.trans k.x2⟩
theorem eM.aa(h:eM d j S b4):b4.aa=S.aa:=by obtain⟨F,rfl⟩:=h.ez;rw[eS]
theorem lJ.set{F:List bd}{L:List (cd×Nat)}{cs:List ai}(h:lJ F d L)(cp:F[j]? =some (.cells cs))(o:bd):lJ (F.set j o) d L:=
 ⟨fun k p aU=>ct.set (h.b5 k p aU) cp (fun _ e=>by cases e),h.pw⟩
theorem oM{cs es new:List ai}{L:List (cd×Nat)}{k o q bytes:Nat}{g g2:cd}(h:fi S d)(cQ:d≠S.aa)(a9:(S.cA d)[j]? =some (.cells cs))(T:lJ (S.cA d) d L)(cg:L[k]? =some (g,es.length))(ab:o<cs.length)(bX:new≠[])(ac:(es.length+new.length)*bytes≤1099511627776)(ad:(new.flatMap ai.cells).all ai.dZ=true)(ae:∀a,g2≠.bQ a):
  ∃J g',lJ J d (L.set k (g',es.length+new.length))∧J[j]? =some (.cells (cs.set o (.aW q (es++new) g')))∧aqT (S.cA d) J j∧
   ∀K:a1,(aH au G X).cn S (fun v s=>(aH au G X).a6 s K 1 (.ref (.g d j) o) (ai.ak s.aa v)) q bytes (some (.g d j)) (.aW q es g) (.aW q new g2)=K .dead (S.bH d J):=by
 have O:=(bZ.1 cg).1;have bD:=T.b5 k _ cg;obtain⟨t,B,gw,hj,af,M,ag⟩:=ZI G X (S:=S) (i:=j) (q:=q) (bytes:=bytes) (es:=es) (new:=new) (g:=g) (g2:=g2) h cQ bD bX ac ad ae;have N:B[j]? =some (.cells cs):=M.mv j _ a9 (fun e=>by have:=(ct.le (e ▸ bD)).1;rw[a9] at this;cases this);have ah:=(bZ.1 N).1;have aj:t≠j:=fun e=>by subst e;rw[N] at gw;cases gw
 have V:(S.bH d B).cA d=B:=cv h B;have ez:=fun K:a1=>jR (T:=au) (G:=G) (X:=X) (k:=K) (h.put d B) (by rw[V];exact N) (o:=o) (v:=.aW q (es++new) (.bQ (.g d t))) ab rfl rfl rfl (.inr (AW d t _ _))
 rw[V,gr] at ez;refine⟨B.set j (.cells (cs.set o (.aW q (es++new) (.bQ (.g d t))))),.bQ (.g d t),?_,by simp [ah],⟨fun i an bk al=>?_,by rw[List.length_set];exact M.len⟩,fun K=>?_⟩
 ·have Y:∀(jh:Nat) (p:cd×Nat),k≠jh→L[jh]? =some p→∀u,p.1=.bQ (.g d u)→t≠u:=fun jh p I aU u e y=>by
   have hu:=(ct.le (e ▸ T.b5 jh p aU)).1;have ao:=(bZ.1 hu).1;rcases bD with⟨H,cL⟩|⟨am,H,aD,aG⟩
   ·have:=hj H;omega
   ·have:=af am H;subst this;subst y;exact T.pw k jh _ _ I cg aU _ H e
  refine⟨fun jh p aU=>?_,fun a b p x3 Q aU r=>?_⟩
  ·by_cases I:k=jh
   ·subst I;rw[List.getElem?_set_self O] at aU;injection aU with aU;subst aU
    exact .inr ⟨t,rfl,by cases new with |nil=>exact absurd rfl bX|cons a b=>simp;omega,by rw[ew (Ne.symm aj),gw]⟩
   ·rw[ew I] at aU;exact ct.set (nS.Q8 M (T.b5 jh p aU) (T.pw k jh _ _ I cg aU)) N (fun _ e=>by cases e)
  ·by_cases R:k=a
   ·subst R;rw[List.getElem?_set_self O] at aU;injection aU with aU;subst aU
    rw[ew Q] at r;intro u e y;injection e with e;injection e with H U
    exact Y b x3 Q r u y U
   ·rw[ew R] at aU;by_cases Z:k=b
    ·subst Z;rw[List.getElem?_set_self O] at r;injection r with r;subst r
     intro u e y;injection y with y;injection y with H U
     exact Y a p R aU u e U
    ·rw[ew Z] at r;exact T.pw a b p x3 Q aU r
 ·rw[ew (Ne.symm al)];exact M.mv i _ bk (fun e=>by have:=(ct.le (e ▸ bD)).1;rw[bk] at this;cases this)
 ·refine(ag _).trans ?_;exact ez K
end
def ef(A:cj)(ck cm b5 oe pq:cd)(src:List Nat)(n:Nat):List ai:=[I A.e5,.aW 3 (A.ins.map fR.enc) ck,.aW 1 (A.aF.map bA) cm,dx A.roots b5,.aW 1 (A.env.reverse.map fun p=>.str p.1) oe,dx (A.env.reverse.map Prod.snd) pq,.str src,In n,I A.dj]
structure i6 (d j:Nat) (S:aq) (A:cj) (src:List Nat) (n:Nat):Prop where
 fd:fi S d
 c:∃ck cm b5 oe pq,(S.cA d)[j]? =some (.cells (ef A ck cm b5 oe pq src n))∧lJ (S.cA d) d [(ck,A.ins.length),(cm,A.aF.length),(b5,A.roots.length),(oe,A.env.length),(pq,A.env.length)]
 l:n≤src.length
 b:src.length<1000000000
section
variable{d j n:Nat}{S:aq}{A:cj}{src:List Nat}
theorem i6.af(h:i6 d j S A src n):i6 d j S.af A src n:=⟨h.fd.af,by rw[fp h.fd];exact h.c,h.l,h.b⟩
theorem i6.ne(h:i6 d j S A src n):d≠S.af.aa:=by have:=h.fd.bk;have:=f6 S;omega
theorem eM.exit{e:aq}{A':cj}{r:List Nat}{y:Nat}(h:i6 d j S A src n)(u:eM d j S.af e)(k:i6 d j e A' r y):∃b4,e=b4.af∧eM d j S b4∧i6 d j b4 A' r y:=by obtain⟨F,rfl⟩:=u.ez;have x2:=u.x2;rw[cv h.fd.af,fp h.fd] at x2;have c:=k.c;rw[cv h.fd.af] at c;exact⟨S.bH d F,(h2 h.fd F).symm,⟨⟨F,rfl⟩,by rw[cv h.fd];exact x2⟩,⟨h.fd.put _ _,by rw[cv h.fd];exact c,k.l,k.b⟩⟩
theorem i6.l7(h:i6 d j S A src n)(k:a1):(aH au G X).aj S k none (.ref (.g d j) (0+6))=k (.str src) S:=by obtain⟨_,_,_,_,_,c,_⟩:=h.c;exact gF h.fd c rfl
theorem i6.mi(h:i6 d j S A src n)(k:a1):(aH au G X).aj S k none (.ref (.g d j) (0+7))=k (In n) S:=by obtain⟨_,_,_,_,_,c,_⟩:=h.c;exact gF h.fd c rfl
theorem i6.at(h:i6 d j S A src n)(m:Nat)(hm:m≤src.length):∃b4,i6 d j b4 A src m∧eM d j S b4∧∀k:a1,(aH au G X).a6 S k 1 (.ref (.g d j) (0+7)) (ai.ak S.aa (In m))=k .dead b4:=by
 obtain⟨ck,cm,b5,oe,pq,c,T⟩:=h.c;have e:=(bZ.1 c).1;have bq:=fun F=>cv h.fd F
 refine⟨S.bH d ((S.cA d).set j (.cells (ef A ck cm b5 oe pq src m))),⟨h.fd.put _ _,⟨ck,cm,b5,oe,pq,by rw[bq];simp [e],by rw[bq];exact T.set c _⟩,hm,h.b⟩,⟨⟨_,rfl⟩,?_⟩,fun k=>jR h.fd c (by simp [ef]) rfl rfl rfl (.inl rfl)⟩;rw[bq];exact⟨fun i cs bk r=>by rw[ew (Ne.symm r)];exact bk,by rw[List.length_set];exact aX _⟩
theorem aiF(h:i6 d j S A src n)(O:A.ins.length<1000000000)(op a b:Int):∃b4,az au G X 146 [.ref (.g d j) 0,I op,I a,I b] S=.ok (I (A.emit op a b).2) b4∧i6 d j b4 (A.emit op a b).1 src n∧eM d j S b4:=by
 have cL:=h.af;obtain⟨ck,cm,b5,oe,pq,c,T⟩:=cL.c;have K:=fun k:a1=>AV G X k cL.fd c (o:=0+0+1) (c:=.aW 3 (A.ins.map fR.enc) ck) rfl
 have L:∀(S:aq) (k:a1),(aH au G X).cH [.int .i64 0,.int .i64 0,.int .i64 0] [(0,1,I op),(1,1,I a),(2,1,I b)] S k=k (fR.enc (fR.mk op a b)) S:=fun S k=>rfl
 have eB:∀(S:aq) (k:a1),(aH au G X).av S k 3 [fR.enc (fR.mk op a b)]=k (.aW 3 [fR.enc (fR.mk op a b)] .exact) S:=fun S k=>rfl
 obtain⟨r,g',B,H,x2,pw⟩:=oM G X (S:=S.af) (j:=j) (k:=0) (o:=0+0+1) (q:=3) (bytes:=24) (es:=A.ins.map fR.enc) (new:=[fR.enc (fR.mk op a b)]) (g:=ck) (g2:=.exact) cL.fd h.ne c T (by simp) (by simp [ef]) (by simp) (by simp;omega) rfl (fun a e=>by cases e);have y:(S.af.bH d r).cA d=r:=cv cL.fd r
 let A':=(A.emit op a b).1
 have bU:A.ins.map fR.enc++[fR.enc (fR.mk op a b)]=A'.ins.map fR.enc:=by simp [A',cj.emit]
 rw[bU] at H;have el:A'.ins.length=A.ins.length+1:=fv A op a b;have J:i6 d j (S.af.bH d r) A' src n:=⟨cL.fd.put _ _,⟨g',cm,b5,oe,pq,by rw[y];exact H,by rw[y];rw[b2] at B;simp only[List.set_cons_zero,c0,ek,cf] at B;rw[el];exact B⟩,h.l,h.b⟩;obtain⟨b4,M,u,k⟩:=eM.exit h ⟨⟨r,rfl⟩,by rw[y];exact x2⟩ J;refine⟨b4,?_,k,u⟩;have N:=fun k:a1=>AV G X k J.fd (by rw[y];exact H) (o:=0+0+1) (c:=.aW 3 (A'.ins.map fR.enc) g') rfl
 rw[QC,aht,a3,aA,aA,K,L,eB];refine(pw _).trans ?_;rw[a3,aA,aA];refine(N _).trans ?_;rw[bg,b2,el,nj,gJ _ (by omega) (by omega),M];show(aH au G X).aB false [some (I (((A.ins.length+1:Nat):Int)-1))] b4.af=_;rw[show(((A.ins.length+1:Nat):Int)-1)=(A.ins.length:Int) by omega];exact b1 _ _
end
section
variable{d j n:Nat}{S:aq}{A:cj}{src:List Nat}
def rT(d j:Nat)(R:ao)(S:aq)(A':cj)(src:List Nat)(r:List Nat)(v:ai):Prop:=
 ∃e,R=(aH au G X).aB false [some v] e∧i6 d j e A' src (posOf src r)∧eM d j S e∧src.drop (posOf src r)=r
theorem rT.via{y:aq}{R:ao}{A':cj}{r:List Nat}{v:ai}(u:eM d j S y)(b:rT G X d j R y A' src r v):rT G X d j R S A' src r v:=by obtain⟨B,e,h,H,MX⟩:=b;exact⟨B,e,h,u.trans H,MX⟩
theorem rT.of{R R':ao}{A':cj}{r:List Nat}{v:ai}(e:R=R')(b:rT G X d j R' S A' src r v):rT G X d j R S A' src r v:=e ▸ b
theorem rT.auQ{R:ao}{A':cj}{r:List Nat}{x:Int}(h:i6 d j S A src n)(b:rT G X d j R S.af A' src r (I x)):∃b4,R=.ok (I x) b4∧i6 d j b4 A' src (posOf src r)∧eM d j S b4∧src.drop (posOf src r)=r:=by obtain⟨B,e,k,u,MX⟩:=b;obtain⟨b4,rfl,y,jh⟩:=eM.exit h u k;exact⟨b4,by rw[e];exact b1 _ _,jh,y,MX⟩
theorem Mx:∀(l:List Nat) (n:Nat) (S:aq),i6 d j S A src n→src.drop n=l→
  ∃r,tZ (aH au G X) (.ref (.g d j) 0) S=(aH au G X).aB false [] r∧i6 d j r A src (posOf src (skip l))∧eM d j S r∧src.drop (posOf src (skip l))=skip l:=by
 intro l
 induction l with
 |nil=>
  intro n S h bI;have bX:=drop_nil bI h.l;have c:¬(n:Int)<(src.length:Int):=by omega
  have e:posOf src (skip [])=n:=by simp [posOf,skip,bX]
  refine⟨S,?_,by rw[e];exact h,.refl h.fd,by rw[e,bI];rfl⟩;rw[qk,a3,aA,h.mi,a3,aA,h.l7,ei,be,aM c];simp only[fh,df,bc]
 |cons x l B=>
  intro n S h bI;obtain⟨aD,aG,bz⟩:=h3 bI;have c:(n:Int)<(src.length:Int):=by omega
  have y:=fun(k:a1)=>gq G X (s:=S) (k:=k) src .i64 n x aD
  have H:=fun S k=>fJ G X S k n (by have:=h.b;omega)
  by_cases aT:x=32
  ·obtain⟨r,gw,I,ez⟩:=h.at G X (n+1) (by omega);obtain⟨J,K,hj,L,MX⟩:=B (n+1) r gw aG;have es:skip (x::l)=skip l:=by rw[skip,if_pos aT]
   rw[es];refine⟨J,?_,hj,I.trans L,MX⟩;have u:((x:Nat):Int)=32:=by omega
   rw[qk,a3,aA,h.mi,a3,aA,h.l7,ei,be,a7 c];simp only[dP];rw[a3,aA,h.l7,a3,aA,h.mi,y,bi,a7 u,cR,ba,Lt,a3,aA,h.mi,H,a3,aA];exact(ez _).trans K
  ·have es:skip (x::l)=x::l:=by rw[skip,if_neg aT]
   have e:posOf src (x::l)=n:=(gQ bI h.l).symm;rw[es,e];refine⟨S,?_,h,.refl h.fd,bI⟩;have u:¬((x:Nat):Int)=32:=by omega
   rw[qk,a3,aA,h.mi,a3,aA,h.l7,ei,be,a7 c];simp only[dP];rw[a3,aA,h.l7,a3,aA,h.mi,y,bi,aM u,cR,bc]
theorem oN(s:aq):(aH au G X).aB false [] s.af=.ok (.cT []) s:=rfl
theorem My{l:List Nat}(h:i6 d j S A src n)(bI:src.drop n=l):∃b4,az au G X 202 [.ref (.g d j) 0] S=.ok (.cT []) b4∧i6 d j b4 A src (posOf src (skip l))∧eM d j S b4∧src.drop (posOf src (skip l))=skip l:=by obtain⟨y,e,k,u,MX⟩:=Mx G X l n S.af h.af bI;obtain⟨b4,rfl,r,jh⟩:=eM.exit h u k;exact⟨b4,by rw[QG,ahx,e];exact oN G X _,jh,r,MX⟩
def iK(c:Nat)(l:List Nat):List Nat:=match skip l with
 |[]=>[]
 |x::r=>if x=c then r else x::r
def vr(c:Nat)(l:List Nat):Bool:=match skip l with
 |[]=>false
 |x::_=>decide (x=c)
theorem aiG{l:List Nat}(h:i6 d j S A src n)(bI:src.drop n=l)(c:Nat):∃b4,az au G X 187 [.ref (.g d j) 0,.int .u8 (c:Int)] S=.ok (.bool (vr c l)) b4∧i6 d j b4 A src (posOf src (iK c l))∧eM d j S b4∧src.drop (posOf src (iK c l))=iK c l:=by
 obtain⟨y,bU,aD,B,d1⟩:=My G X h.af bI;have call:∀k:a1,(aH au G X).ar S.af k 202 [ai.ak S.af.aa (.ref (.g d j) 0)]=k (.cT []) y:=fun k=>dc bU B.aa
 rw[QE,ahv,call];unfold vr iK;have fin:∀(e:aq) (b:Bool) (r:List Nat),eM d j S.af e→i6 d j e A src (posOf src r)→src.drop (posOf src r)=r→∃b4,(aH au G X).aB false [some (.bool b)] e=.ok (.bool b) b4∧i6 d j b4 A src (posOf src r)∧eM d j S b4∧src.drop (posOf src r)=r:=fun e b r u k MX=>by obtain⟨b4,rfl,J,jh⟩:=eM.exit h u k;exact⟨b4,bE _,jh,J,MX⟩
 cases cg:skip l with
 |nil=>
  rw[cg] at aD d1;have bX:=drop_nil d1 aD.l;have H:¬((posOf src []:Nat):Int)<(src.length:Int):=by omega
  rw[a3,aA,aD.mi,a3,aA,aD.l7,ei,be,aM H];simp only[fh,df,bc];rw[wN];exact fin y false [] B aD d1
 |cons x r=>
  rw[cg] at aD d1;obtain⟨g1,g2,N⟩:=h3 d1;have H:((posOf src (x::r):Nat):Int)<(src.length:Int):=by omega
  have K:=fun(k:a1)=>gq G X (s:=y) (k:=k) src .i64 (posOf src (x::r)) x g1
  have L:=fun S k=>fJ G X S k (posOf src (x::r)) (by have:=h.b;omega)
  rw[a3,aA,aD.mi,a3,aA,aD.l7,ei,be,a7 H];simp only[dP];rw[a3,aA,aD.l7,a3,aA,aD.mi,K,bi,cR];by_cases aT:x=c
  ·obtain⟨e,aG,M,ez⟩:=aD.at G X (posOf src (x::r)+1) (by omega);have I:posOf src (x::r)+1=posOf src r:=gQ g2 (by omega);rw[a7 (by omega),ba,a3,aA,aD.mi,L,a3,aA,if_pos aT,a7 aT];rw[I] at aG ez;rw[I];obtain⟨b4,f1,f2,f3,f4⟩:=fin e true r (B.trans M) aG (by rw[←I,g2]);exact⟨b4,(ez _).trans f1,f2,f3,f4⟩
  ·rw[aM (by omega),bc,if_neg aT,aM aT,wN];exact fin y false (x::r) B aD d1
end
section
variable{d j n:Nat}{S:aq}{A:cj}{src:List Nat}
theorem i6.Q7(h:i6 d j S A src n):∃oe,∀k:a1,(aH au G X).aj S k none (.ref (.g d j) (0+4))=k (.aW 1 (A.env.reverse.map fun p=>ai.str p.1) oe) S:=by obtain⟨_,_,_,oe,_,c,_⟩:=h.c;exact⟨oe,fun k=>gF h.fd c rfl⟩
theorem i6.auR(h:i6 d j S A src n):∃pq,∀k:a1,(aH au G X).aj S k none (.ref (.g d j) (0+5))=k (dx (A.env.reverse.map Prod.snd) pq) S:=by obtain⟨_,_,_,_,pq,c,_⟩:=h.c;exact⟨pq,fun k=>gF h.fd c rfl⟩
theorem aiH(h:i6 d j S A src n)(w:List Nat)(J:A.env.length<1000000000):az au G X 208 [.ref (.g d j) 0,.str w] S=.ok (I ((jV A.env w).getD 0)) S:=by
 have cL:=h.af;obtain⟨oe,Q7⟩:=cL.Q7 G X;obtain⟨pq,auR⟩:=cL.auR G X;have loop:∀k:Nat,k≤A.env.length→ua (aH au G X) (.ref (.g d j) 0) (.str w) (I ((k:Int)-1)) S.af=.ok (I ((jV (A.env.drop (A.env.length-k)) w).getD 0)) S:=by
  intro k
  induction k with
  |zero=>intro cg;rw[wP,fG,aM (by omega),bc,LA,Nat.sub_zero,List.drop_length];exact b1 _ _
  |succ k r=>
   intro cg;have r:=r (by omega);have kR:(((k+1:Nat):Int)-1)=(k:Int):=by omega
   have bk:A.env.length-(k+1)<A.env.length:=by omega
   have aT:A.env.reverse[k]? =some (A.env[A.env.length-(k+1)]):=by rw[List.getElem?_reverse (by omega),show A.env.length-1-k=A.env.length-(k+1) by omega,dM bk]
   have u:A.env.drop (A.env.length-(k+1))=A.env[A.env.length-(k+1)]::A.env.drop (A.env.length-k):=by rw[gl bk,show A.env.length-(k+1)+1=A.env.length-k by omega]
   generalize A.env[A.env.length-(k+1)]=p at aT u;obtain⟨y,v⟩:=p;have g1:(A.env.reverse.map fun p=>ai.str p.1)[k]? =some (.str y):=by rw[fw,aT];rfl
   have g2:((A.env.reverse.map Prod.snd).map I)[k]? =some (I v):=by rw[fw,fw,aT];rfl
   have i1:=fun(jh:a1)=>iw (T:=au) (G:=G) (X:=X) (s:=S.af) (k:=jh) 1 _ oe .i64 k _ g1
   have i2:=fun(jh:a1)=>iw (T:=au) (G:=G) (X:=X) (s:=S.af) (k:=jh) 1 _ pq .i64 k _ g2
   have B:=fun(k:a1)=>show(aH au G X).aj S.af k none (.bM (ai.cells (.str y)))=k (.str y) S.af from rfl
   have H:=fun(k:a1)=>show(aH au G X).aj S.af k none (.bM (ai.cells (I v)))=k (I v) S.af from rfl
   rw[kR,wP,fG,a7 (by omega),ba,Lz,a3,aA,Q7,i1,B,qV,u,jV];by_cases dX:w=y
   ·rw[a7 dX.symm,ba,a3,aA,auR,i2,H,if_pos dX];exact b1 _ _
   ·rw[aM (fun e=>dX e.symm),bc,if_neg dX,Ly,nj,gJ _ (by omega) (by omega)];exact r
 rw[QJ,ahA,a3,aA,Q7,bg,b2,List.length_reverse,nj,gJ _ (by omega) (by omega),loop A.env.length (aX _),Nat.sub_self,bT]
theorem Mz(v:ai):∀(l:List Nat) (n:Nat) (S:aq),i6 d j S A src n→src.drop n=l→
  ∃r,qd (aH au G X) (.ref (.g d j) 0) v S=qc (aH au G X) (.ref (.g d j) 0) v r∧i6 d j r A src (posOf src (eJ l))∧eM d j S r∧src.drop (posOf src (eJ l))=eJ l:=by
 intro l
 induction l with
 |nil=>
  intro n S h bI;have bX:=drop_nil bI h.l;have c:¬(n:Int)<(src.length:Int):=by omega
  have e:posOf src (eJ [])=n:=by simp [posOf,eJ,bX]
  refine⟨S,?_,by rw[e];exact h,.refl h.fd,by rw[e,bI];rfl⟩;rw[wO,a3,aA,h.mi,a3,aA,h.l7,ei,be,aM c];simp -implicitDefEqProofs only[fh,eG,df,bc]
 |cons x l u=>
  intro n S h bI;obtain⟨aD,aG,bz⟩:=h3 bI;have c:(n:Int)<(src.length:Int):=by omega
  have y:=fun(k:a1)=>gq G X (s:=S) (k:=k) src .i64 n x aD
  have B:=fun S k=>fJ G X S k n (by have:=h.b;omega)
  have step:qd (aH au G X) (.ref (.g d j) 0) v S=if vj x=true then zV (aH au G X) (.ref (.g d j) 0) v S else qc (aH au G X) (.ref (.g d j) 0) v S:=by
   have kR:vj x=((decide ((97:Int)≤(x:Int))&&decide ((x:Int)≤122))||(decide ((48:Int)≤(x:Int))&&decide ((x:Int)≤57))):=by unfold vj;rw[Bool.eq_iff_iff];simp only[Bool.or_eq_true,bL,Nat.ble_eq,decide_eq_true_iff];omega
   rw[kR,wO,a3,aA,h.mi,a3,aA,h.l7,ei,be,a7 c];have H:=fun(S:aq) (k:a1)=>fG (T:=au) (G:=G) (X:=X) (s:=S) (k:=k) .u8 (x:Int) 97
   have I:=fun(S:aq) (k:a1)=>n5 (T:=au) (G:=G) (X:=X) (s:=S) (k:=k) .u8 (x:Int) 122
   have J:=fun(S:aq) (k:a1)=>fG (T:=au) (G:=G) (X:=X) (s:=S) (k:=k) .u8 (x:Int) 48
   have K:=fun(S:aq) (k:a1)=>n5 (T:=au) (G:=G) (X:=X) (s:=S) (k:=k) .u8 (x:Int) 57
   have L:=fun(k:a1)=>h.l7 G X k
   have M:=fun(k:a1)=>h.mi G X k
   generalize decide ((97:Int)≤(x:Int))=ml at *;generalize decide ((x:Int)≤122)=N at *;generalize decide ((48:Int)≤(x:Int))=O at *;generalize decide ((x:Int)≤57)=Q at *;cases ml<;> cases N<;> cases O<;> cases Q<;> simp -implicitDefEqProofs only[H,I,J,K,L,M,y,a3,aA,eG,dP,ej,fh,de,cR,df,ba,bc,Bool.or_true,Bool.or_false,Bool.and_true,Bool.and_false,if_true,if_false,co]
  rw[step];by_cases aT:vj x=true
  ·obtain⟨r,gw,R,ez⟩:=h.at G X (n+1) (by omega);obtain⟨U,V,hj,Y,MX⟩:=u (n+1) r gw aG;have es:eJ (x::l)=eJ l:=by rw[eJ,if_pos aT]
   rw[es,if_pos aT];refine⟨U,?_,hj,R.trans Y,MX⟩;rw[Lu,a3,aA,h.mi,B,a3,aA];exact(ez _).trans V
  ·have es:eJ (x::l)=x::l:=by rw[eJ,if_neg aT]
   have e:posOf src (x::l)=n:=(gQ bI h.l).symm;rw[es,e,if_neg aT];exact⟨S,rfl,h,.refl h.fd,bI⟩
end
def avy(f:Nat)(l:List Nat):Option (g9×List Nat):=
 match skip l with
  |[]=>none
  |x::r=>if x=40 then(match vm f r with
    |none=>none
    |some (e,hG)=>match skip hG with
     |[]=>none
     |y::oY=>if y=41 then some (e,oY) else none)
   else match jS (x::r) with
    |[]=>none
    |c::w=>if c≤57 then(if w=[] then some (.aa0 (c-48),eJ (x::r)) else none) else some (.var (c::w),eJ (x::r))
theorem auS(f:Nat)(l:List Nat):Fa (f+1) l=match avy f l with |none=>none|some (e,r)=>vl e r:=by
 unfold Fa avy;cases skip l with
 |nil=>rfl
 |cons x r=>
  simp only;by_cases aT:x=40
  ·rw[if_pos aT,if_pos aT];cases vm f r with
   |none=>rfl
   |some h=>
    obtain⟨e,hG⟩:=h;simp only;cases skip hG with
    |nil=>rfl
    |cons y oY=>
     simp only;by_cases dX:y=41
     ·rw[if_pos dX,if_pos dX]
     ·rw[if_neg dX,if_neg dX]
  ·rw[if_neg aT,if_neg aT];cases jS (x::r) with
   |nil=>rfl
   |cons c w=>
    simp only;by_cases a9:c≤57
    ·rw[if_pos a9,if_pos a9];by_cases hw:w=[]
     ·rw[if_pos hw,if_pos hw]
     ·rw[if_neg hw,if_neg hw]
    ·rw[if_neg a9,if_neg a9]
section
variable{d j n:Nat}{S:aq}{A:cj}{src:List Nat}
def Rl(d j:Nat)(src:List Nat)(fn:Nat)(p:List Nat→Option (g9×List Nat)):Prop:=
 ∀l ex r S n A,p l=some (ex,r)→src.drop n=l→i6 d j S A src n→A.ins.length+ex.size<1000000000→A.env.length<1000000000→
  ∃b4,az au G X fn [.ref (.g d j) 0] S=.ok (I (ex.run A).2) b4∧i6 d j b4 (ex.run A).1 src (posOf src r)∧eM d j S b4∧src.drop (posOf src r)=r
theorem Rl.use{fn:Nat}{p:List Nat→Option (g9×List Nat)}(c:Rl G X d j src fn p){l r:List Nat}{ex:g9}(aU:p l=some (ex,r))(bI:src.drop n=l)(h:i6 d j S A src n)(e:A.ins.length+ex.size<1000000000)(he:A.env.length<1000000000):
  ∃b4,i6 d j b4 (ex.run A).1 src (posOf src r)∧eM d j S b4∧src.drop (posOf src r)=r∧∀k:a1,(aH au G X).ar S k fn [ai.ak S.aa (.ref (.g d j) 0)]=k (I (ex.run A).2) b4:=by
 obtain⟨b4,aD,aG,bz,cz⟩:=c l ex r S n A aU bI h e he;exact⟨b4,aG,bz,cz,fun k=>dc aD bz.aa⟩
theorem i6.put(h:i6 d j S A src n)(e:A.ins.length<1000000000)(op a b:Int):∃b4,i6 d j b4 (A.emit op a b).1 src n∧eM d j S b4∧∀k:a1,(aH au G X).ar S k 146 [ai.ak S.aa (.ref (.g d j) 0),ai.ak S.aa (I op),ai.ak S.aa (I a),ai.ak S.aa (I b)]=k (I (A.emit op a b).2) b4:=by obtain⟨b4,aD,aG,bz⟩:=aiF G X h e op a b;exact⟨b4,aG,bz,fun k=>dc aD bz.aa⟩
theorem i6.is(h:i6 d j S A src n){l:List Nat}(bI:src.drop n=l)(c:Nat):∃b4,i6 d j b4 A src (posOf src (iK c l))∧eM d j S b4∧src.drop (posOf src (iK c l))=iK c l∧∀k:a1,(aH au G X).ar S k 187 [ai.ak S.aa (.ref (.g d j) 0),ai.ak S.aa (.int .u8 (c:Int))]=k (.bool (vr c l)) b4:=by obtain⟨b4,aD,aG,bz,cz⟩:=aiG G X h bI c;exact⟨b4,aG,bz,cz,fun k=>dc aD bz.aa⟩
theorem rT.done{r:List Nat}{A':cj}{x:Int}(h:i6 d j S A' src n)(bI:src.drop n=r):rT G X d j ((aH au G X).aB false [some (I x)] S) S A' src r (I x):=by have e:=gQ bI h.l;exact⟨S,rfl,by rw[←e];exact h,.refl h.fd,by rw[←e,bI]⟩
theorem rT.Fx{R:ao}{A':cj}{r:List Nat}{x:Int}(h:i6 d j S A src n)(b:rT G X d j R S.af A' src r (I x)):∃b4,R=.ok (I x) b4∧i6 d j b4 A' src (posOf src r)∧eM d j S b4∧src.drop (posOf src r)=r:=rT.auQ G X h b
theorem aiI(f:Nat)(bl:Rl G X d j src 168 (vm f)):Rl G X d j src 207 (avy f):=by
 intro l ex r S n A aU bI h M he;rw[QI,ahz];refine rT.Fx G X h ?_;obtain⟨V,aD,Y,d1,Z⟩:=h.af.is G X bI 40;refine .via G X Y (.of G X (Z _) ?_);unfold avy at aU;cases cg:skip l with
 |nil=>rw[cg] at aU;cases aU
 |cons x e=>
  rw[cg] at aU;simp only at aU;have aa:iK 40 l=if x=40 then e else x::e:=by unfold iK;rw[cg]
  have ab:vr 40 l=decide (x=40):=by unfold vr;rw[cg]
  rw[aa] at aD d1;rw[ab];by_cases aT:x=40
  ·rw[if_pos aT] at aU aD d1;rw[a7 aT,ba];cases dQ:vm f e with
   |none=>rw[dQ] at aU;cases aU
   |some ac=>
    obtain⟨ad,hG⟩:=ac;rw[dQ] at aU;simp only at aU;cases B:skip hG with
    |nil=>rw[B] at aU;cases aU
    |cons y oY=>
     rw[B] at aU;simp only at aU;have N:y=41:=by
      by_cases O:y=41
      ·exact O
      ·rw[if_neg O] at aU;cases aU
     rw[if_pos N] at aU;injection aU with aU;injection aU with bU u;subst bU;subst u
     obtain⟨Q,aG,H,d2,ae⟩:=bl.use G X dQ d1 aD M he;obtain⟨ag,bz,I,d3,J⟩:=aG.is G X d2 41;have ah:iK 41 hG=oY:=by unfold iK;rw[B];simp only;rw[if_pos N]
     rw[ah] at bz d3;refine .via G X H (.via G X I (.of G X ?_ (rT.done G X (x:=(ad.run A).2) bz d3)));refine(ae _).trans ?_;exact J _
  ·rw[if_neg aT] at aU aD d1;rw[aM aT,bc];obtain⟨Q,u,aG,H,d2⟩:=Mz G X (In (posOf src (x::e))) (x::e) _ V aD d1;have ai:=pj (x::e) _ d1 aD.l;refine .via G X H (.of G X (R':=qc (aH au G X) (.ref (.g d j) 0) (In (posOf src (x::e))) Q) ?_ ?_)
   ·rw[Lx,a3,aA,aD.mi];exact u
   ·obtain⟨m,xl,oh,K,R⟩:=ai;have hm:=gQ K oh;rw[←hm] at aG;cases hw:jS (x::e) with
    |nil=>rw[hw] at aU;cases aU
    |cons c w=>
     rw[hw] at aU R;simp only at aU;have a9:=uD hw;have L:∀(S:aq) (k:a1),(aH au G X).db S k (.str (c::w)) (.int .i64 0)=k (.int .u8 (c:Int)) S:=fun S k=>gq G X (s:=S) (k:=k) (c::w) .i64 0 c rfl
     rw[Lw,a3,aA,aG.l7,a3,aA,aG.mi,E9 G X src _ m xl oh,R,L,fG,a7 (by omega)];simp only[dP];rw[L,n5,cR];by_cases U:c≤57
     ·rw[if_pos U] at aU;by_cases bX:w=[]
      ·rw[if_pos bX] at aU;injection aU with aU;injection aU with bU u;subst bU;subst u
       subst bX;rw[g9.size] at M;obtain⟨ag,bz,I,J⟩:=aG.put G X (by omega) 2 ((c-48:Nat):Int) 0;have aj:IntKind.wrap .u8 ((c:Int)-48)=((c-48:Nat):Int):=by unfold IntKind.wrap;simp only[show IntKind.bits .u8=8 from rfl,show IntKind.signed .u8=false from rfl,c1];show((c:Int)-48)%256=_;omega
       have ak:∀(S:aq) (k:a1),(aH au G X).bm S k .i64 (.int .u8 ((c-48:Nat):Int))=k (.int .i64 ((c-48:Nat):Int)) S:=fun S k=>by show k (.int .i64 (IntKind.wrap .i64 ((c-48:Nat):Int))) S=_;rw[gJ _ (by omega) (by omega)]
       refine .via G X I (.of G X ?_ (rT.done G X (x:=(A.emit 2 ((c-48:Nat):Int) 0).2) bz K));rw[a7 (by omega),ba,L,nj,aj,ak];exact J _
      ·rw[if_neg bX] at aU;cases aU
     ·rw[if_neg U] at aU;injection aU with aU;injection aU with bU u;subst bU;subst u
      rw[aM (by omega),bc,Lv];refine .of G X (aK (aiH G X aG (c::w) he)) ?_;exact rT.done G X aG K
end
section
variable{d j n:Nat}{S:aq}{A:cj}{src:List Nat}
theorem ny(x:g9)(A:cj):(x.run A).1.env=A.env:=(e3 x A).2.2.2
theorem aa5(f:Nat)(H:Rl G X d j src 207 (avy f)):Rl G X d j src 203 (Fa (f+1)):=by
 intro l ex r S n A aU bI h I he;rw[QH,ahy];refine rT.Fx G X h ?_;rw[auS] at aU;cases dQ:avy f l with
 |none=>rw[dQ] at aU;cases aU
 |some J=>
  obtain⟨e,hG⟩:=J;rw[dQ] at aU;simp only at aU;have dY:=oL aU;obtain⟨K,aD,L,d1,M⟩:=H.use G X dQ bI h.af (by omega) he;have br:=dU e A;refine .via G X L (.of G X (M _) ?_);cases hG with
  |nil=>
   rw[vl] at aU;injection aU with aU;injection aU with bU u;subst bU;subst u
   have bX:=drop_nil d1 aD.l;have c:¬((posOf src []:Nat):Int)<(src.length:Int):=by omega
   refine .of G X ?_ (rT.done G X (x:=(e.run A).2) aD d1);rw[a3,aA,aD.mi,a3,aA,aD.l7,ei,be,aM c];simp -implicitDefEqProofs only[fh,df,bc];rw[ql]
  |cons y hG=>
   obtain⟨g1,g2,U⟩:=h3 d1;have c:((posOf src (y::hG):Nat):Int)<(src.length:Int):=by omega
   have B:=fun(k:a1)=>gq G X (s:=K) (k:=k) src .i64 (posOf src (y::hG)) y g1
   by_cases dX:y=94
   ·simp only[vl.eq_def,if_pos dX] at aU;cases hG with
    |nil=>cases aU
    |cons z oY=>
     injection aU with aU;injection aU with bU u;subst bU;subst u
     obtain⟨gw,hj,V⟩:=h3 g2;have N:∀(S:aq) (k:a1),(aH au G X).ah S k (al .add (.int .i64 ((posOf src (y::z::oY):Nat):Int)) (.int .i64 2))=k (.int .i64 ((posOf src (y::z::oY)+2:Nat):Int)) S:=fun S k=>g8 (T:=au) (G:=G) (X:=X) (s:=S) (k:=k) _ 2 (by have:=h.b;omega)
     obtain⟨Y,aG,O,ez⟩:=aD.at G X (posOf src (y::z::oY)+2) (by omega);rw[g9.size] at I;obtain⟨Z,bz,Q,R⟩:=aG.put G X (by omega) 5 (e.run A).2 (e.run A).2;refine .via G X O (.via G X Q (.of G X ?_ (rT.done G X (x:=((e.run A).1.emit 5 (e.run A).2 (e.run A).2).2) bz hj)));rw[a3,aA,aD.mi,a3,aA,aD.l7,ei,be,a7 c];simp only[dP];rw[a3,aA,aD.l7,a3,aA,aD.mi,B,bi,cR,a7 (by omega),ba,a3,aA,aD.mi,N,a3,aA];refine(ez _).trans ?_;refine(R _).trans ?_;rw[ql]
   ·simp only[vl.eq_def,if_neg dX] at aU;injection aU with aU;injection aU with bU u;subst bU;subst u
    refine .of G X ?_ (rT.done G X (x:=(e.run A).2) aD d1);rw[a3,aA,aD.mi,a3,aA,aD.l7,ei,be,a7 c];simp only[dP];rw[a3,aA,aD.l7,a3,aA,aD.mi,B,bi,cR,aM (by omega),bc,ql]
def aww(d j:Nat)(src:List Nat)(p:g9→List Nat→Option (g9×List Nat)):Prop:=
 ∀ex l e r A0 A x S n,p ex l=some (e,r)→src.drop n=l→ex.run A0=(A,x)→i6 d j S A src n→A0.ins.length+e.size<1000000000→A0.env.length<1000000000→
  rT G X d j (tY (aH au G X) (.ref (.g d j) 0) (I x) S) S (e.run A0).1 src r (I (e.run A0).2)
theorem i6.apY(h:i6 d j S A src n){l:List Nat}(bI:src.drop n=l):∃b4,i6 d j b4 A src (posOf src (skip l))∧eM d j S b4∧src.drop (posOf src (skip l))=skip l∧∀k:a1,(aH au G X).ar S k 202 [ai.ak S.aa (.ref (.g d j) 0)]=k (.cT []) b4:=by obtain⟨b4,aD,aG,bz,cz⟩:=My G X h bI;exact⟨b4,aG,bz,cz,fun k=>dc aD bz.aa⟩
theorem auT(f:Nat)(bq:Rl G X d j src 203 (Fa f))(cB:aww G X d j src (qt f)):aww G X d j src (qt (f+1)):=by
 intro ex l K r A0 A x S n aU bI aQ h L he;obtain⟨u,aD,M,d1,N⟩:=h.apY G X bI;refine .via G X M (.of G X ((Ls).trans (N _)) ?_);have br:=dU ex A0;rw[aQ] at br;dsimp only at br;have O:A.env=A0.env:=by have:=ny ex A0;rw[aQ] at this;exact this
 unfold qt at aU;cases cg:skip l with
 |nil=>
  rw[cg] at aU aD d1;injection aU with aU;injection aU with bU B;subst bU;subst B
  have bX:=drop_nil d1 aD.l;rw[aQ];refine .of G X ?_ (rT.done G X (x:=x) aD d1);rw[a3,aA,aD.mi,a3,aA,aD.l7,ei,bi,a7 (by omega)];simp only[ej,cR,ba]
 |cons y J=>
  rw[cg] at aU aD d1;simp only at aU;have Q:y≠0:=fun e=>by rw[if_pos e] at aU;cases aU
  rw[if_neg Q] at aU;obtain⟨g1,g2,ai⟩:=h3 d1;have R:=fun(k:a1)=>gq G X (s:=u) (k:=k) src .i64 (posOf src (y::J)) y g1
  have U:=fun(S:aq) (k:a1)=>bi (T:=au) (G:=G) (X:=X) (s:=S) (k:=k) .u8 (y:Int) 43
  have V:=fun(S:aq) (k:a1)=>bi (T:=au) (G:=G) (X:=X) (s:=S) (k:=k) .u8 (y:Int) 45
  have Y:=fun(S:aq) (k:a1)=>bi (T:=au) (G:=G) (X:=X) (s:=S) (k:=k) .u8 (y:Int) 41
  have Z:=fun(k:a1)=>aD.l7 G X k
  have aa:=fun(k:a1)=>aD.mi G X k
  have kR:(y=43∨y=45∨y=41)↔(decide ((y:Int)=43)||(decide ((y:Int)=45)||decide ((y:Int)=41)))=true:=by simp only[Bool.or_eq_true,decide_eq_true_iff];omega
  have step:∀(T E:ao),(if(y=43∨y=45∨y=41) then T else E)=if(decide ((y:Int)=43)||(decide ((y:Int)=45)||decide ((y:Int)=41)))=true then T else E:=fun T E=>by simp only[kR]
  rw[a3,aA,aD.mi,a3,aA,aD.l7,ei,bi,aM (by omega)];refine .of G X (R':=if(y=43∨y=45∨y=41) then(aH au G X).aB false [some (I x)] u else zT (aH au G X) (.ref (.g d j) 0) (I x) u) ?_ ?_
  ·rw[step];generalize decide ((y:Int)=43)=ml at *;generalize decide ((y:Int)=45)=ab at *;generalize decide ((y:Int)=41)=ac at *;cases ml<;> cases ab<;> cases ac<;> simp -implicitDefEqProofs only[U,V,Y,Z,aa,R,a3,aA,ej,de,cR,df,ba,bc,Bool.or_true,Bool.or_false,if_true,if_false,co]
  ·by_cases dX:y=43∨y=45∨y=41
   ·rw[if_pos dX] at aU ⊢;injection aU with aU;injection aU with bU B;subst bU;subst B
    rw[aQ];exact rT.done G X aD d1
   ·rw[if_neg dX] at aU ⊢;cases dQ:Fa f (y::J) with
    |none=>rw[dQ] at aU;cases aU
    |some ad=>obtain⟨H,hG⟩:=ad;rw[dQ] at aU;simp only at aU;have dY:=oK _ _ _ _ _ aU;rw[g9.size] at dY;have aj:=dU H A;obtain⟨ak,aG,ae,d2,af⟩:=bq.use G X dQ d1 aD (by omega) (by rw[O];exact he);obtain⟨al,bz,ag,ah⟩:=aG.put G X (by omega) 5 x (H.run A).2;refine .via G X ae (.via G X ag (.of G X ?_ (cB (.mul ex H) hG K r A0 _ _ _ _ aU d2 (by rw[g9.run,aQ]) bz L he)));rw[Lr];refine(af _).trans ?_;exact ah _
theorem MA(f:Nat)(bq:Rl G X d j src 203 (Fa f))(cB:aww G X d j src (qt f)):Rl G X d j src 188 (wV (f+1)):=by
 intro l ex r S n A aU bI h e he;rw[QF,ahw];refine rT.Fx G X h ?_;unfold wV at aU;cases dQ:Fa f l with
 |none=>rw[dQ] at aU;cases aU
 |some u=>obtain⟨y,hG⟩:=u;rw[dQ] at aU;simp only at aU;have dY:=oK _ _ _ _ _ aU;obtain⟨I,aD,B,d1,H⟩:=bq.use G X dQ bI h.af (by omega) he;exact .via G X B (.of G X (H _) (cB y hG ex r A _ _ _ _ aU d1 rfl aD e he))
end
section
variable{d j n:Nat}{S:aq}{A:cj}{src:List Nat}
def awx(d j:Nat)(src:List Nat)(p:g9→List Nat→Option (g9×List Nat)):Prop:=
 ∀ex l e r A0 A x S n,p ex l=some (e,r)→src.drop n=l→ex.run A0=(A,x)→i6 d j S A src n→A0.ins.length+e.size<1000000000→A0.env.length<1000000000→
  rT G X d j (oH (aH au G X) (.ref (.g d j) 0) (I x) S) S (e.run A0).1 src r (I (e.run A0).2)
theorem rN{c:Nat}{l:List Nat}{x:Nat}{r:List Nat}(cg:skip l=x::r)(h:x≠c):iK c l=x::r∧vr c l=false:=by unfold iK vr;rw[cg];simp only;exact⟨if_neg h,aM h⟩
theorem qy{c:Nat}{l:List Nat}{r:List Nat}(cg:skip l=c::r):iK c l=r∧vr c l=true:=by unfold iK vr;rw[cg];simp only;exact⟨by simp,by simp⟩
theorem aa6{c:Nat}{l:List Nat}(cg:skip l=[]):iK c l=[]∧vr c l=false:=by unfold iK vr;rw[cg];exact⟨rfl,rfl⟩
theorem auU(f:Nat)(bq:Rl G X d j src 188 (wV f))(cB:awx G X d j src (oc f)):awx G X d j src (oc (f+1)):=by
 intro ex l L r A0 A x S n aU bI aQ h Z he;obtain⟨O,aD,ab,d1,ac⟩:=h.is G X bI 43;refine .via G X ab (.of G X ((Lq).trans (ac _)) ?_);have br:=dU ex A0;rw[aQ] at br;dsimp only at br;have ad:A.env=A0.env:=by have:=ny ex A0;rw[aQ] at this;exact this
 unfold oc at aU;have stop:∀e:List Nat,skip l=e→vr 43 l=false→iK 43 l=e→skip e=e→vr 45 e=false→iK 45 e=e→rT G X d j (zR (aH au G X) (.ref (.g d j) 0) (I x) O) O A src e (I x):=fun e bU M ae av af ag=>by rw[ae] at aD d1;obtain⟨u,aG,Q,d2,R⟩:=aD.is G X d1 45;rw[ag] at aG d2;refine .via G X Q (.of G X ((wL).trans (R _)) ?_);rw[af,eY,eC,ba];exact rT.done G X aG d2
 cases cg:skip l with
 |nil=>
  rw[cg] at aU;injection aU with aU;injection aU with bU M;subst bU;subst M
  obtain⟨K,B⟩:=aa6 (c:=43) cg;rw[B,bc,aQ];exact stop [] cg B K rfl rfl rfl
 |cons y H=>
  rw[cg] at aU;simp only at aU;have body:∀(mk:g9→g9→g9) (op:Int) (J:g9×List Nat) (u:aq) (hW:Nat),(∀a b A,(mk a b).run A=(b.run (a.run A).1).1.emit op (a.run A).2 (b.run (a.run A).1).2)→(∀a b,(mk a b).size=a.size+b.size+1)→wV f H=some J→oc f (mk ex J.1) J.2=some (L,r)→i6 d j u A src hW→src.drop hW=H→
    rT G X d j ((aH au G X).ar u (fun ah s=>(aH au G X).ar s (fun aj s=>oH (aH au G X) (.ref (.g d j) 0) aj s) 146 [ai.ak s.aa (.ref (.g d j) 0),ai.ak s.aa (I op),ai.ak s.aa (I x),ai.ak s.aa ah]) 188 [ai.ak u.aa (.ref (.g d j) 0)]) u (L.run A0).1 src r (I (L.run A0).2):=fun mk op ⟨U,hG⟩ u hW al am dQ aU aG d2=>by
   have dY:=kO _ _ _ _ _ aU;rw[am] at dY
   dsimp only at dY aU
   have aw:=dU U A;obtain⟨ax,bz,an,d3,ao⟩:=bq.use G X dQ d2 aG (by omega) (by rw[ad];exact he);obtain⟨ay,cz,ap,as⟩:=bz.put G X (by omega) op x (U.run A).2;refine .via G X an (.via G X ap (.of G X ?_ (cB (mk ex U) hG L r A0 _ _ _ _ aU d3 (by rw[al,aQ]) cz Z he)));refine(ao _).trans ?_;exact as _
  by_cases dX:y=43
  ·rw[if_pos dX] at aU;subst dX;obtain⟨K,B⟩:=qy cg;rw[K] at aD d1;rw[B,ba];cases dQ:wV f H with
   |none=>rw[dQ] at aU;cases aU
   |some J=>rw[dQ] at aU;exact body .add 3 J O _ (fun _ _ _=>rfl) (fun _ _=>rfl) dQ aU aD d1
  ·rw[if_neg dX] at aU;obtain⟨K,B⟩:=rN cg dX;have V:skip (y::H)=y::H:=by rw[←cg,AX]
   rw[B,bc];by_cases N:y=45
   ·rw[if_pos N] at aU;subst N;rw[K] at aD d1;obtain⟨u,aG,Q,d2,R⟩:=aD.is G X d1 45;obtain⟨ml,Y⟩:=qy V;rw[ml] at aG d2;refine .via G X Q (.of G X ((wL).trans (R _)) ?_);rw[Y,eY,eV,bc,Lp];cases dQ:wV f H with
    |none=>rw[dQ] at aU;cases aU
    |some J=>rw[dQ] at aU;exact body .sub 4 J u _ (fun _ _ _=>rfl) (fun _ _=>rfl) dQ aU aG d2
   ·rw[if_neg N] at aU;injection aU with aU;injection aU with bU M;subst bU;subst M
    obtain⟨ml,Y⟩:=rN V N;rw[aQ];exact stop (y::H) cg B K V Y ml
theorem aiJ(f:Nat)(bq:Rl G X d j src 188 (wV f))(cB:awx G X d j src (oc f)):Rl G X d j src 168 (vm (f+1)):=by
 intro l ex r S n A aU bI h K he;rw[QD,ahu];refine rT.Fx G X h ?_;obtain⟨Y,aD,M,d1,N⟩:=h.af.is G X bI 45;refine .via G X M (.of G X (N _) ?_);unfold vm at aU;cases cg:skip l with
 |nil=>rw[cg] at aU;cases aU
 |cons y L=>
  rw[cg] at aU;simp only at aU;by_cases dX:y=45
  ·rw[if_pos dX] at aU;subst dX;obtain⟨u,B⟩:=qy cg;rw[u] at aD d1;rw[B,ba];cases dQ:wV f L with
   |none=>rw[dQ] at aU;cases aU
   |some H=>obtain⟨e,hG⟩:=H;rw[dQ] at aU;simp only at aU;have dY:=kO _ _ _ _ _ aU;rw[g9.size] at dY;obtain⟨Z,aG,O,Q⟩:=aD.put G X (by omega) 2 0 0;have aa:=fv A 2 0 0;obtain⟨R,bz,I,d3,J⟩:=bq.use G X dQ d1 aG (by omega) he;have ab:=dU e (A.emit 2 0 0).1;obtain⟨ac,cz,U,V⟩:=bz.put G X (by omega) 4 (A.emit 2 0 0).2 (e.run (A.emit 2 0 0).1).2;refine .via G X O (.via G X I (.via G X U (.of G X ?_ (cB (.neg e) hG ex r A _ _ _ _ aU d3 rfl cz K he))));refine(Q _).trans ?_;refine(J _).trans ?_;refine(V _).trans ?_;rw[wM];rfl
  ·rw[if_neg dX] at aU;obtain⟨u,B⟩:=rN cg dX;rw[u] at aD d1;rw[B,bc];cases dQ:wV f (y::L) with
   |none=>rw[dQ] at aU;cases aU
   |some H=>obtain⟨e,hG⟩:=H;rw[dQ] at aU;simp only at aU;have dY:=kO _ _ _ _ _ aU;obtain⟨R,bz,I,d3,J⟩:=bq.use G X dQ d1 aD (by omega) he;refine .via G X I (.of G X ?_ (cB e hG ex r A _ _ _ _ aU d3 rfl bz K he));refine(J _).trans ?_;rw[wM]
theorem MB:∀f:Nat,Rl G X d j src 203 (Fa f)∧Rl G X d j src 188 (wV f)∧Rl G X d j src 168 (vm f)∧aww G X d j src (qt f)∧awx G X d j src (oc f)
 |0=>⟨fun l ex r S n A aU=>by simp [Fa] at aU,fun l ex r S n A aU=>by simp [wV] at aU,fun l ex r S n A aU=>by simp [vm] at aU,fun ex l h r A0 A x S n aU=>by simp [qt] at aU,fun ex l h r A0 A x S n aU=>by simp [oc] at aU⟩
 |f+1=>by obtain⟨aD,aG,bz,cz,e⟩:=MB f;exact⟨aa5 G X f (aiI G X f bz),MA G X f aD cz,aiJ G X f aG e,auT G X f aD cz,auU G X f aG e⟩
end
section
variable{d j n:Nat}{S:aq}{A:cj}{src:List Nat}
theorem i6.start(h:i6 d j S A src n)(r:List Nat)(L:r.length<1000000000):∃b4,i6 d j b4 A r 0∧eM d j S b4∧
  ∀k:a1,(aH au G X).aE S (fun M s=>(aH au G X).ag s (fun N s=>(aH au G X).a6 s (fun O s=>(aH au G X).aE s (fun v10 s=>(aH au G X).ag s (fun v11 s=>(aH au G X).a6 s k 1 v11 (ai.ak s.aa (.int .i64 0))) 7 v10) (.ref (.g d j) 0)) 1 N (ai.ak s.aa (.str r))) 6 M) (.ref (.g d j) 0)=k .dead b4:=by
 obtain⟨ck,cm,b5,oe,pq,c,T⟩:=h.c;have B:=(bZ.1 c).1
 let e:=(S.cA d).set j (.cells ((ef A ck cm b5 oe pq src n).set 6 (.str r)))
 have H:(S.bH d e).cA d=e:=cv h.fd e;have I:e[j]? =some (.cells ((ef A ck cm b5 oe pq src n).set 6 (.str r))):=by simp [e,B]
 have n7:=fun k:a1=>jR (T:=au) (G:=G) (X:=X) (k:=k) h.fd c (o:=0+6) (v:=.str r) (by simp [ef]) rfl rfl rfl (.inl rfl)
 have J:=fun k:a1=>jR (T:=au) (G:=G) (X:=X) (k:=k) (h.fd.put d e) (by rw[H];exact I) (o:=0+7) (v:=In 0) (by simp [ef]) rfl rfl rfl (.inl rfl)
 rw[H,gr] at J
 let u:=e.set j (.cells (ef A ck cm b5 oe pq r 0))
 have y:(S.bH d u).cA d=u:=cv h.fd u;refine⟨S.bH d u,⟨h.fd.put _ _,⟨ck,cm,b5,oe,pq,by rw[y];simp [u,e,B],by rw[y];exact(T.set c _).set I _⟩,Nat.zero_le _,L⟩,⟨⟨_,rfl⟩,?_⟩,fun k=>?_⟩
 ·rw[y];exact⟨fun i cs bk K=>by rw[ew (Ne.symm K),ew (Ne.symm K)];exact bk,by simp [u,e]⟩
 ·rw[a3,aA];refine(n7 _).trans ?_;rw[a3,aA];exact J k
theorem Bb(h:i6 d j S A src n){e:List Nat}{f:Nat}{ex:g9}{r:List Nat}(aU:vm f e=some (ex,r))(br:e.length<1000000000)(u:A.ins.length+ex.size<1000000000)(he:A.env.length<1000000000):
  ∃b4,az au G X 145 [.ref (.g d j) 0,.str e] S=.ok (I (ex.run A).2) b4∧i6 d j b4 (ex.run A).1 e (posOf e r)∧eM d j S b4:=by
 obtain⟨M,aD,y,B⟩:=h.af.start G X e br;obtain⟨N,aG,H,d2,J⟩:=(MB G X f).2.2.1.use G X aU rfl aD u he;obtain⟨K,rfl,L,bz⟩:=eM.exit h (y.trans H) aG;refine⟨K,?_,bz,L⟩;rw[QB,ahs];refine(B _).trans ?_;refine(J _).trans ?_;exact b1 _ _
theorem uI(h:i6 d j S A src n)(w:List Nat)(v:Int)(he:A.env.length<1000000000):∃b4,az au G X 107 [.ref (.g d j) 0,.str w,I v] S=.ok (.cT []) b4∧i6 d j b4 (A.name w v) src n∧eM d j S b4:=by
 have cL:=h.af;obtain⟨ck,cm,b5,oe,pq,c,T⟩:=cL.c;have N:=fun k:a1=>AV G X k cL.fd c (o:=0+4) (c:=.aW 1 (A.env.reverse.map fun p=>ai.str p.1) oe) rfl
 obtain⟨r,g1,O,J,Q,R⟩:=oM G X (S:=S.af) (j:=j) (k:=3) (o:=0+4) (q:=1) (bytes:=16) (es:=A.env.reverse.map fun p=>ai.str p.1) (new:=[.str w]) (g:=oe) (g2:=.exact) cL.fd h.ne c T (by simp) (by simp [ef]) (by simp) (by simp;omega) rfl (fun a e=>by cases e);have B:(S.af.bH d r).cA d=r:=cv cL.fd r;have K:fi (S.af.bH d r) d:=cL.fd.put d r;have U:=fun k:a1=>AV G X k K (by rw[B];exact J) (o:=0+5) (c:=dx (A.env.reverse.map Prod.snd) pq) rfl
 obtain⟨y,g2,V,Y,L,M⟩:=oM G X (S:=S.af.bH d r) (j:=j) (k:=4) (o:=0+5) (q:=1) (bytes:=8) (es:=(A.env.reverse.map Prod.snd).map I) (new:=[I v]) (g:=pq) (g2:=.exact) K (by rw[eS];exact h.ne) (by rw[B];exact J) (by rw[B];exact O) (by simp) (by simp [ef]) (by simp) (by simp;omega) rfl (fun a e=>by cases e);rw[B] at L;rw[gr] at M;have H:(S.af.bH d y).cA d=y:=cv cL.fd y;have Z:i6 d j (S.af.bH d y) (A.name w v) src n:=by
  refine⟨cL.fd.put _ _,⟨ck,cm,b5,g1,g2,?_,?_⟩,h.l,h.b⟩
  ·rw[H,Y];simp [ef,cj.name]
  ·rw[H];simpa [cj.name] using V
 obtain⟨b4,aa,u,k⟩:=eM.exit h ⟨⟨y,rfl⟩,by rw[H];exact Q.trans L⟩ Z;have ab:∀(S:aq) (k:a1),(aH au G X).av S k 1 [.str w]=k (.aW 1 [.str w] .exact) S:=fun S k=>rfl
 refine⟨b4,?_,k,u⟩;rw[Qq,ahh,a3,aA,N,ab];refine(R _).trans ?_;rw[a3,aA,U,l8];refine(M _).trans ?_;rw[aa];exact oN G X _
end
section
variable{d j n:Nat}{s S:aq}{A:cj}{src:List Nat}
theorem i6.child(h:i6 d j s A src n)(e:Child s S):i6 d j S A src n:=
 ⟨Child.aij e h.fd,by rw[Child.cA e h.fd];exact h.c,h.l,h.b⟩
theorem eM.child{b4:aq}{A':cj}{y:List Nat}{B:Nat}(h:i6 d j s A src n)(e:Child s S)(u:eM d j S b4)(r:i6 d j b4 A' y B):
  ∃s',Child s' b4∧b4.own=S.own∧eM d j s s'∧i6 d j s' A' y B:=by
 obtain⟨F,rfl⟩:=u.ez;obtain⟨J,K⟩:=Child.bH e h.fd F;have bq:=cv h.fd F;have H:=cv (Child.aij e h.fd) F;have x2:=u.x2;rw[H,Child.cA e h.fd] at x2;have I:=r.c;rw[H] at I;exact⟨s.bH d F,J,K,⟨⟨F,rfl⟩,by rw[bq];exact x2⟩,⟨h.fd.put _ _,by rw[bq];exact I,r.l,r.b⟩⟩
def hL(d j:Nat)(s:aq)(A:cj):Prop:=∃src n,i6 d j s A src n
theorem MC(f:Nat)(cs:List (List Nat))(g2:cd)(ah:cs.length<1000000)(M:∀p∈cs,p.length<1000000000):∀(l pre:List (List Nat)) (E:List g9) (s S:aq) (A:cj) (g:cd) (out:List Int),cs=pre++l→j3 f l=some E→hL d j s A→Child s S→gW S g out.length→out.length=pre.length→A.ins.length+j4 E<1000000000→A.env.length<1000000000→
  ∃s',tT (aH au G X) (.ref (.g d j) 0) (.aW 1 (cs.map ai.str) g2) (dx out g) (In pre.length) S=.ok (dx (out++(dS E A).2) (eR (out++(dS E A).2))) s'∧hL d j s' (dS E A).1∧eM d j s s':=by
 intro l
 induction l with
 |nil=>
  intro pre E s S A g out bI bo h u bD H J he;injection bo with bo;subst bo
  rw[gf] at bI;subst bI;obtain⟨src,n,h⟩:=h;refine⟨s,?_,⟨src,n,h⟩,.refl h.fd⟩;rw[wI,bg,b2,be,aM (by omega),bc,Li];have aC:=k8 (S:=S) (sz:=1) (es:=out.map I) (g:=g) (by simpa using bD) (lf _);rw[mW] at aC;rw[show(dS [] A).2=[] from rfl,gf];exact gV u _ _ aC
 |cons y l N=>
  intro pre E s S A g out bI bo h u bD H J he;rw[j3] at bo;cases aU:vm f y with
  |none=>rw[aU] at bo;cases bo
  |some O=>
   obtain⟨ex,r⟩:=O;rw[aU] at bo;simp only at bo;cases dQ:j3 f l with
   |none=>rw[dQ] at bo;cases bo
   |some B=>
    rw[dQ] at bo;injection bo with bo
    subst bo;rw[j4] at J;obtain⟨src,n,h⟩:=h;have hlen:pre.length<cs.length:=by rw[bI];simp
    have Q:(cs.map ai.str)[pre.length]? =some (.str y):=by rw[bI];simp
    have br:=dU ex A;obtain⟨R,bU,aD,K⟩:=Bb G X (h.child u) aU (M y (by rw[bI];simp)) (by omega) he;obtain⟨s1,U,V,v1,Y⟩:=eM.child h u K aD;have Z:=fun(k:a1)=>awZ G X S k bU K.aa
    have i1:=fun S k=>ic G X S k 1 (cs.map ai.str) g2 .i64 pre.length _ Q
    have ab:=fun(S:aq) (k:a1) (b:List Nat)=>show(aH au G X).aj S k none (.bM (ai.cells (.str b)))=k (.str b) S from rfl
    have ac:=fun S k=>fJ G X S k pre.length (by omega)
    have ad:(dS (ex::B) A).2=(ex.run A).2::(dS B (ex.run A).1).2:=rfl;obtain⟨g',b4,gw,hj,ak,al,ae,af⟩:=qv G X (S:=R) (q:=1) (bytes:=8) (es:=out.map I) (new:=[I (ex.run A).2]) (g:=g) (g2:=.exact) (by rw[b2];exact gW.own bD V) (by simp) (by simp;omega) rfl (fun a e=>by cases e);obtain⟨s2,L,aG,ag⟩:=N (pre++[y]) B s1 b4 (ex.run A).1 g' (out++[(ex.run A).2]) (by rw[bI];simp) dQ ⟨_,_,Y⟩ (ae.child U) (by simpa using gw) (by simp [H]) (by omega) (by rw[ny];exact he);refine⟨s2,?_,aG,v1.trans ag⟩;rw[wI,bg,b2,be,a7 (by omega),ba,Lh,i1,ab];refine(Z _).trans ?_;rw[l8];refine(af _).trans ?_;rw[Lg,ac,ad];rw[dm,jY,List.singleton_append] at L;rw[←L,dx,List.map_append];rfl
theorem aiK(f:Nat)(cs:List (List Nat))(E:List g9)(g2:cd)(bo:j3 f cs=some E)(e:cs.length<1000000)(r:∀p∈cs,p.length<1000000000)(h:hL d j s A)(u:A.ins.length+j4 E<1000000000)(he:A.env.length<1000000000):
  ∃s',az au G X 108 [.ref (.g d j) 0,.aW 1 (cs.map ai.str) g2] s=.ok (dx (dS E A).2 (eR (dS E A).2)) s'∧hL d j s' (dS E A).1∧eM d j s s':=by
 rw[Qr,ahi];have y:gW s.af .nil ([]:List Int).length:=.nil;exact MC G X f cs g2 e r cs [] E s s.af A .nil [] rfl bo h (Child.af s) y rfl u he
theorem Bc(h:hL d j s A)(w:List Nat)(H:A.ins.length<1000000000)(he:A.env.length<1000000000)(bk:0≤A.dj∧A.dj<1000000000):
  ∃s',az au G X 127 [.ref (.g d j) 0,.str w] s=.ok (.cT []) s'∧hL d j s' (jc.e5.run w A)∧eM d j s s':=by
 obtain⟨src,n,h⟩:=h;have cL:=h.af;have y:∀{S:aq} {A:cj},i6 d j S A src n→∀k:a1,(aH au G X).aj S k none (.ref (.g d j) (0+8))=k (I A.dj) S:=fun h k=>by obtain⟨_,_,_,_,_,c,_⟩:=h.c;exact gF h.fd c rfl
 obtain⟨r,aD,J,K⟩:=cL.put G X H 1 A.dj 0;obtain⟨ck,cm,b5,oe,pq,c,T⟩:=aD.c
 let A1:cj:={(A.emit 1 A.dj 0).1 with dj:=A.dj+1}
 have L:=(bZ.1 c).1;have ez:=fun k:a1=>jR (T:=au) (G:=G) (X:=X) (k:=k) aD.fd c (o:=0+8) (v:=I (A.dj+1)) (by simp [ef]) rfl rfl rfl (.inl rfl)
 let e:=(r.cA d).set j (.cells (ef A1 ck cm b5 oe pq src n))
 have u:(r.bH d e).cA d=e:=cv aD.fd e;have aG:i6 d j (r.bH d e) A1 src n:=⟨aD.fd.put _ _,⟨ck,cm,b5,oe,pq,by rw[u];simp [e,L],by rw[u];exact T.set c _⟩,aD.l,aD.b⟩;have M:eM d j r (r.bH d e):=⟨⟨_,rfl⟩,by rw[u];exact⟨fun i cs bk N=>by rw[ew (Ne.symm N)];exact bk,by simp [e]⟩⟩;obtain⟨U,O,bz,B⟩:=uI G X aG w (A.emit 1 A.dj 0).2 he;obtain⟨s',rfl,Q,R⟩:=eM.exit h (J.trans (M.trans B)) bz;refine⟨s',?_,⟨src,n,R⟩,Q⟩;have kz:=fun(k:a1)=>y aD k
 rw[show(A.emit 1 A.dj 0).1.dj=A.dj from rfl] at kz;rw[Qv,ahm,a3,aA,y cL];refine(K _).trans ?_;rw[a3,aA,kz,pW,gJ _ (by omega) (by omega),a3,aA];refine(ez _).trans ?_;refine(dc O B.aa).trans ?_;exact oN G X _
end
section
variable{d j n:Nat}{s S:aq}{A:cj}{src:List Nat}
theorem i6.root(h:i6 d j S A src n)(cQ:d≠S.aa)(Z:A.roots.length<1000000000)(v:Int):∃b4,i6 d j b4 {A with roots:=A.roots++[v]} src n∧eM d j S b4∧
  ∀k:a1,(aH au G X).aE S (fun y s=>(aH au G X).ag s (fun B s=>(aH au G X).ag s (fun H s=>(aH au G X).aj s (fun J s=>(aH au G X).av s (fun K s=>(aH au G X).cn s (fun L s=>(aH au G X).aE s (fun M s=>(aH au G X).ag s (fun N s=>(aH au G X).ag s (fun O s=>(aH au G X).a6 s k 1 O (ai.ak s.aa L)) 3 N) 0 M) (.ref (.g d j) 0)) 1 8 (B4 (.ref (.g d j) 0)) J K) 1 [I v]) none H) 3 B) 0 y) (.ref (.g d j) 0)=k .dead b4:=by
 obtain⟨ck,cm,b5,oe,pq,c,T⟩:=h.c;have Q:=fun k:a1=>AV G X k h.fd c (o:=0+0+3) (c:=dx A.roots b5) rfl
 obtain⟨r,g1,R,U,V,Y⟩:=oM G X (S:=S) (j:=j) (k:=2) (o:=0+0+3) (q:=1) (bytes:=8) (es:=A.roots.map I) (new:=[I v]) (g:=b5) (g2:=.exact) h.fd cQ c T (by simp) (by simp [ef]) (by simp) (by simp;omega) rfl (fun a e=>by cases e);have u:(S.bH d r).cA d=r:=cv h.fd r;refine⟨S.bH d r,⟨h.fd.put _ _,⟨ck,cm,g1,oe,pq,by rw[u,U];simp [ef],by rw[u];simpa using R⟩,h.l,h.b⟩,⟨⟨_,rfl⟩,by rw[u];exact V⟩,fun k=>?_⟩;rw[a3,aA,aA,Q,l8];refine Eq.trans ?_ (Y k);rfl
theorem MD(f:Nat)(dK:List (List Nat×List Nat))(g1:cd)(aE:dK.length<1000000)(af:∀p∈dK,p.2.length<1000000000∧p.2≠[105,110]):∀(l pre:List (List Nat×List Nat)) (D:List (List Nat×jc)) (S:aq) (A:cj),dK=pre++l→fK f l=some D→hL d j S A→d≠S.aa→dv A (e1 D) l.length→A.env.length+l.length<1000000000→
  ∃b4,tV (aH au G X) (.ref (.g d j) 0) (.aW 1 (dV dK) g1) (.int .i64 ((2*pre.length:Nat):Int)) S=(aH au G X).aB false [] b4∧hL d j b4 (cC D A)∧eM d j S b4:=by
 intro l
 induction l with
 |nil=>
  intro pre D S A bI e h cQ Y he;injection e with e;subst e
  obtain⟨src,n,h⟩:=h;refine⟨S,?_,⟨src,n,h⟩,.refl h.fd⟩;have hlen:=nu dK;rw[gf] at bI;subst bI;have I:=fun S k=>fJ G X S k (2*dK.length) (by omega)
  rw[wJ,I,bg,hlen,be,aM (by omega),bc]
 |cons p l ag=>
  intro pre D S A bI e h cQ Y he;obtain⟨w,K⟩:=p;rw[fK] at e;cases aT:Mk f K with
  |none=>rw[aT] at e;cases e
  |some x=>
   rw[aT] at e;simp only at e;cases dQ:fK f l with
   |none=>rw[dQ] at e;cases e
   |some O=>
    rw[dQ] at e;injection e with e
    subst e;obtain⟨src,n,h⟩:=h;have hlen:=nu dK;have aF:pre.length<dK.length:=by rw[bI];simp
    have bD:=rM pre (w,K) l;rw[←bI] at bD
    dsimp only at bD
    obtain⟨Q,Z⟩:=af (w,K) (by rw[bI];simp)
    dsimp only at Q Z
    have M:=Y;rw[c0,e1] at M;rw[c0] at he;have ak:dv (x.run w A) (e1 O) l.length:=dv.awu w M;have ab:=M.ins;have aI:=M.roots;have I:=fun S k=>fJ G X S k (2*pre.length) (by omega)
    have am:∀(S:aq) (k:a1),(aH au G X).ah S k (al .add (.int .i64 ((2*pre.length:Nat):Int)) (.int .i64 2))=k (.int .i64 ((2*pre.length+2:Nat):Int)) S:=fun S k=>g8 (T:=au) (G:=G) (X:=X) (s:=S) (k:=k) (2*pre.length) 2 (by omega)
    have i1:=fun S k=>ic G X S k 1 (dV dK) g1 .i64 (2*pre.length) _ bD.1
    have i2:=fun S k=>ic G X S k 1 (dV dK) g1 .i64 (2*pre.length+1) _ bD.2
    have L:=fun(S:aq) (k:a1) (b:List Nat)=>show(aH au G X).aj S k none (.bM (ai.cells (.str b)))=k (.str b) S from rfl
    have rest:∀B:aq,hL d j B (x.run w A)→(x.run w A).env.length=A.env.length+1→eM d j S B→∃b4,tU (aH au G X) (.ref (.g d j) 0) (.aW 1 (dV dK) g1) (.int .i64 ((2*pre.length:Nat):Int)) B=(aH au G X).aB false [] b4∧hL d j b4 (cC ((w,x)::O) A)∧eM d j S b4:=fun B aD j0 u=>by obtain⟨N,R,aG,H⟩:=ag (pre++[(w,K)]) O B (x.run w A) (by rw[bI];simp) dQ aD (by rw[u.aa];exact cQ) ak (by omega);refine⟨N,?_,aG,u.trans H⟩;rw[Lj,am,←R,dm];rfl
    rw[wJ,I,bg,hlen,be,a7 (by omega),ba,Ll,I,i2,L];unfold Mk at aT;rw[if_neg Z] at aT;cases K with
    |nil=>cases aT
    |cons y r=>
     simp only at aT;have ac:∀(S:aq) (k:a1),(aH au G X).db S k (.str (y::r)) (.int .i64 0)=k (.int .u8 (y:Int)) S:=fun S k=>gq G X (s:=S) (k:=k) (y::r) .i64 0 y rfl
     by_cases dX:y=33
     ·rw[if_pos dX] at aT;cases aU:vm f r with
      |none=>rw[aU] at aT;cases aT
      |some U=>
       obtain⟨ex,hG⟩:=U;rw[aU] at aT;injection aT with aT
       subst aT;rw[jc.size] at ab;have br:=dU ex A;have J:=e3 ex A;have an:∀(S:aq) (k:a1),(aH au G X).nf (.str (y::r)) (some (.int .i64 1)) none S k=k (.str r) S:=fun S k=>by show hSub (.str (y::r)) (some (.int .i64 1)) none S k=_;unfold hSub;simp [pB,eE];have ao:Nat.ble 1 (r.length+1)=true:=dN (by omega);have ap:Nat.ble (r.length+1) (r.length+1)=true:=dN (aX _);rw[ao,ap];rfl
       obtain⟨B,bU,aD,u⟩:=Bb G X h aU (by simp at Q;omega) (by omega) (by omega);obtain⟨N,aG,H,ar⟩:=aD.put G X (by omega) 6 (ex.run A).2 0;obtain⟨ad,bz,V,as⟩:=aG.root G X (by rw[H.aa,u.aa];exact cQ) (by show(ex.run A).1.roots.length<_;rw[J.1];omega) ((ex.run A).1.emit 6 (ex.run A).2 0).2;obtain⟨av,aw,cz,ae⟩:=uI G X bz w ((ex.run A).1.emit 6 (ex.run A).2 0).2 (by show(ex.run A).1.env.length<_;rw[J.2.2.2];omega);obtain⟨ax,ay,az,aA⟩:=rest av ⟨_,_,cz⟩ (by show(ex.run A).1.env.length+1=_;rw[J.2.2.2]) (u.trans (H.trans (V.trans ae)));refine⟨ax,?_,az,aA⟩;rw[ac,bi,a7 (by omega),ba,I,i2,L,an];refine(dc bU u.aa).trans ?_;refine(ar _).trans ?_;refine(as _).trans ?_;rw[i1,L];exact(dc aw ae.aa).trans ay
     ·rw[if_neg dX] at aT;cases aU:vm f (y::r) with
      |none=>rw[aU] at aT;cases aT
      |some U=>
       obtain⟨ex,hG⟩:=U;rw[aU] at aT;injection aT with aT
       subst aT;rw[jc.size] at ab;have J:=e3 ex A;obtain⟨B,bU,aD,u⟩:=Bb G X h aU Q (by omega) (by omega);obtain⟨N,R,aG,H⟩:=uI G X aD w (ex.run A).2 (by rw[J.2.2.2];omega);obtain⟨ad,aC,bz,V⟩:=rest N ⟨_,_,aG⟩ (by show(ex.run A).1.env.length+1=_;rw[J.2.2.2]) (u.trans H);refine⟨ad,?_,bz,V⟩;rw[ac,bi,aM (by omega),bc,Lk,I,i2,L];refine(dc bU u.aa).trans ?_;rw[i1,L];exact(dc R H.aa).trans aC
theorem ME(f:Nat)(dK:List (List Nat×List Nat))(D:List (List Nat×jc))(g1:cd)(e:fK f dK=some D)(r:dK.length<1000000)(u:∀p∈dK,p.2.length<1000000000∧p.2≠[105,110])(h:hL d j s A)(y:dv A (e1 D) dK.length)(he:A.env.length+dK.length<1000000000):
  ∃s',az au G X 110 [.ref (.g d j) 0,.aW 1 (dV dK) g1] s=.ok (.cT []) s'∧hL d j s' (cC D A)∧eM d j s s':=by
 obtain⟨src,n,h⟩:=h;obtain⟨L,bU,⟨B,H,aD⟩,I⟩:=MD G X f dK g1 r u dK [] D s.af A rfl e ⟨src,n,h.af⟩ h.ne y he;obtain⟨s',rfl,J,K⟩:=eM.exit h I aD;refine⟨s',?_,⟨B,H,K⟩,J⟩;rw[Qt,ahk];exact bU.trans (oN G X _)
end
section
variable{d j n:Nat}{S:aq}{A:cj}{src:List Nat}
theorem MF(rows:List (List Int×cd))(g:cd)(v2:ai)(i:Nat)(row:List Int)(J:cd)(Q:rows[i]? =some (row,J))(tail:List Nat)(ag:tail.length≤1)(u:List (List Nat))(oe:cd)(R:∀n∈u,n.length≤2)(hi:row.length<1000)(ah:u.length<1000):
  ∀(H pre:List Int) (y K:List (List Nat)) (S:aq) (e:aa1),row=pre++H→u=K++y→K.length=pre.length→hL d j S {A with env:=e}→e.length+H.length<1000000000→
  ∃b4,qb (aH au G X) (.ref (.g d j) 0) (.aW 1 (rows.map bA) g) v2 (In i) (.str tail) (.aW 1 (strs u) oe) (In pre.length) S=zO (aH au G X) (.ref (.g d j) 0) (.aW 1 (rows.map bA) g) v2 (In i) b4∧hL d j b4 {A with env:=hz tail y H e}∧eM d j S b4:=by
 have avG:(rows.map bA)[i]? =some (dx row J):=by rw[fw,Q];rfl
 have i0:=fun S k=>ic G X S k 1 (rows.map bA) g .i64 i _ avG
 have L:=fun S k=>show(aH au G X).aj S k none (.bM (ai.cells (dx row J)))=k (dx row J) S from rfl
 have M:∀(S:aq) (k:a1),(aH au G X).aY S k false (.aW 1 (strs u) oe)=k (In u.length) S:=fun S k=>by rw[bg];simp [strs]
 intro H
 induction H with
 |nil=>
  intro pre y K S e aU bX br h he;rw[gf] at aU;subst aU;obtain⟨src,n,h⟩:=h;have U:hz tail y [] e=e:=by cases y<;> rfl
  rw[U];refine⟨S,?_,⟨src,n,h⟩,.refl h.fd⟩;rw[qj,i0,L,bg,b2,be,aM (by omega)];simp -implicitDefEqProofs only[fh,df,bc]
 |cons r H V=>
  intro pre y K S e aU bX br h he;have ak:pre.length<row.length:=by rw[aU];simp
  have N:=fun(S:aq) (k:a1)=>be (T:=au) (G:=G) (X:=X) (s:=S) (k:=k) .i64 (pre.length:Int) (u.length:Int)
  cases y with
  |nil=>obtain⟨src,n,h⟩:=h;rw[gf] at bX;have al:=congrArg List.length bX;refine⟨S,?_,⟨src,n,h⟩,.refl h.fd⟩;rw[qj,i0,L,bg,b2,be,a7 (by omega)];simp only[dP,M,N];rw[aM (by omega),cR,bc]
  |cons B y=>
   have am:pre.length<u.length:=by rw[←br,bX];simp
   have g1:(strs u)[pre.length]? =some (.str B):=by rw[bX,←br];simp [strs]
   have g2:(row.map I)[pre.length]? =some (I r):=by rw[aU];simp
   have i1:=fun S k=>ic G X S k 1 (strs u) oe .i64 pre.length _ g1
   have i2:=fun S k=>ic G X S k 1 (row.map I) J .i64 pre.length _ g2
   have Y:=fun S k=>show(aH au G X).aj S k none (.bM (ai.cells (.str B)))=k (.str B) S from rfl
   have Z:=fun S k=>show(aH au G X).aj S k none (.bM (ai.cells (I r)))=k (I r) S from rfl
   have ab:=fun S k=>fJ G X S k pre.length (by omega)
   rw[c0] at he;obtain⟨src,n,h⟩:=h;obtain⟨ac,bU,aD,O⟩:=uI G X h (B++tail) r (by show e.length<_;omega);obtain⟨ad,ae,aG,af⟩:=V (pre++[r]) y (K++[B]) ac ((B++tail,r)::e) (by rw[aU];simp) (by rw[bX];simp) (by simp [br]) ⟨src,n,aD⟩ (by rw[c0];omega);refine⟨ad,?_,aG,O.trans af⟩;rw[qj,i0,L,bg,b2,be,a7 (by omega)];simp only[dP,M,N];rw[a7 (by omega),cR,ba,Le,i1,Y,ZL G X B tail (by have:=R B (by rw[bX];simp);omega),i0,L,i2,Z];refine(dc bU O.aa).trans ?_;rw[Ld,ab,←ae,dm];rfl
end
def Rm(t:Nat):List Nat→Nat
 |[]=>0
 |x::l=>(if x=t then 1 else 0)+Rm t l
theorem Bd(t:Nat):∀(l:List Nat) (f:Nat→Nat),jW l f t=f t+Rm t l
 |[],f=>rfl
 |x::l,f=>by
  rw[jW,Bd t l,Rm];unfold hq;by_cases h:t=x
  ·rw[if_pos h,if_pos h.symm];omega
  ·rw[if_neg h,if_neg (fun e=>h e.symm)];omega
theorem aiL(t:Nat):∀l,Rm t l≤l.length
 |[]=>aX _
 |x::l=>by rw[Rm,c0];have:=aiL t l;split<;> omega
section
variable{d j n:Nat}{S:aq}{A:cj}{src:List Nat}
theorem Rn(gH v1:ai)(ts:List Nat)(gt:cd)(i t:Nat)(bk:ts[i]? =some t)(br:ts.length<1000)(S:aq):∀(rest pre:List Nat) (same number:Nat),ts=pre++rest→same≤pre.length→number≤pre.length+1→
  xK (aH au G X) gH v1 (.aW 1 (ts.map In) gt) (In i) (In same) (In number) (In pre.length) S=xJ (aH au G X) gH v1 (.aW 1 (ts.map In) gt) (In i) (In (same+Rm t rest)) (In (number+Rm t (rest.take (i-pre.length)))) S:=by
 intro rest
 induction rest with
 |nil=>intro pre same number aU bl bX;rw[gf] at aU;subst aU;rw[Au,bg,b2,be,aM (by omega),bc];simp only[List.take_nil,Rm,Nat.add_zero]
 |cons x rest u=>
  intro pre same number aU bl bX;have H:pre.length<ts.length:=by rw[aU];simp
  have g1:(ts.map In)[pre.length]? =some (In x):=by rw[aU];simp
  have g2:(ts.map In)[i]? =some (In t):=by rw[fw,bk];rfl
  have i1:=fun S k=>ic G X S k 1 (ts.map In) gt .i64 pre.length _ g1
  have i2:=fun S k=>ic G X S k 1 (ts.map In) gt .i64 i _ g2
  have r:=fun(S:aq) (k:a1) (x:Nat)=>show(aH au G X).aj S k none (.bM (ai.cells (In x)))=k (In x) S from rfl
  have y:=fun S k=>fJ G X S k pre.length (by omega)
  have as:=fun S k=>fJ G X S k same (by omega)
  have B:=fun S k=>fJ G X S k number (by omega)
  have next:∀e h:Nat,e≤pre.length+1→h≤pre.length+2→tQ (aH au G X) gH v1 (.aW 1 (ts.map In) gt) (In i) (In e) (In h) (In pre.length) S=xJ (aH au G X) gH v1 (.aW 1 (ts.map In) gt) (In i) (In (e+Rm t rest)) (In (h+Rm t (rest.take (i-(pre.length+1))))) S:=fun e h aD aG=>by have:=u (pre++[x]) e h (by rw[aU];simp) (by simp;omega) (by simp;omega);rw[dm] at this;rw[OY,y];exact this
  rw[Au,bg,b2,be,a7 (by omega),ba,OZ,i1,r,i2,r,bi,Rm];by_cases aT:x=t
  ·rw[a7 (by omega),ba,as,be,if_pos aT];by_cases cg:pre.length<i
   ·rw[a7 (by omega),ba,B,next (same+1) (number+1) (by omega) (by omega)];rw[show i-pre.length=(i-(pre.length+1))+1 by omega,hI,Rm,if_pos aT,Nat.add_assoc,Nat.add_assoc]
   ·rw[aM (by omega),bc,next (same+1) number (by omega) (by omega)];rw[show i-pre.length=0 by omega,show i-(pre.length+1)=0 by omega,hn,hn,Nat.add_assoc]
  ·rw[aM (by omega),bc,if_neg aT,next same number (by omega) (by omega),cf];by_cases cg:pre.length<i
   ·rw[show i-pre.length=(i-(pre.length+1))+1 by omega,hI,Rm,if_neg aT,cf]
   ·rw[show i-pre.length=0 by omega,show i-(pre.length+1)=0 by omega,hn,hn]
end
theorem Be(t:Nat):∀(l:List Nat) (f:Nat→Nat),jW (l++[t]) f=hq (jW l f) t
 |[],f=>rfl
 |x::l,f=>by rw[List.cons_append,jW,jW,Be t l]
theorem Ro{S:aq}{k:a1}(m:Nat)(h:m<10):(aH au G X).ah S (fun e s=>(aH au G X).bm s (fun r s=>(aH au G X).av s (fun u s=>(aH au G X).kh s k u) 1 [r]) .u8 e) (al .add (.int .i64 48) (In m))=k (.str [48+m]) S:=by
 have hm:m=0∨m=1∨m=2∨m=3∨m=4∨m=5∨m=6∨m=7∨m=8∨m=9:=by omega
 rcases hm with rfl |rfl |rfl |rfl |rfl |rfl |rfl |rfl |rfl |rfl <;> rfl
section
variable{d j n:Nat}{S:aq}{A:cj}{src:List Nat}
theorem Rp(gH v1:ai)(ts:List Nat)(gt:cd)(i t:Nat)(bk:ts[i]? =some t)(cB:t=1∨t=2∨t=3)(v10:ai)(S:aq):
  tR (aH au G X) gH v1 (.aW 1 (ts.map In) gt) (In i) v10 S=qb (aH au G X) gH v1 (.aW 1 (ts.map In) gt) (In i) v10 (.aW 1 (strs (hy t)) .exact) (.int .i64 0) S:=by
 have g2:(ts.map In)[i]? =some (In t):=by rw[fw,bk];rfl
 have i2:=fun S k=>ic G X S k 1 (ts.map In) gt .i64 i _ g2
 have e:=fun(S:aq) (k:a1) (x:Nat)=>show(aH au G X).aj S k none (.bM (ai.cells (In x)))=k (In x) S from rfl
 have ml:∀(S:aq) (k:a1),(aH au G X).av S k 1 [.str [120],.str [121],.str [122]]=k (.aW 1 (strs (hy 1)) .exact) S:=fun _ _=>rfl
 have h:∀(S:aq) (k:a1),(aH au G X).av S k 1 [.str [97],.str [98],.str [99]]=k (.aW 1 (strs (hy 2)) .exact) S:=fun _ _=>rfl
 have r:∀(S:aq) (k:a1),(aH au G X).av S k 1 [.str [117],.str [112],.str [113],.str [114],.str [97,120],.str [97,121],.str [97,122]]=k (.aW 1 (strs (hy 3)) .exact) S:=fun _ _=>rfl
 rw[O0,ml,i2,e,bi];rcases cB with rfl |rfl |rfl
 ·rw[aM (by decide),bc,rG,i2,e,bi,aM (by decide),bc,rF]
 ·rw[a7 (by decide),ba,h,rG,i2,e,bi,aM (by decide),bc,rF]
 ·rw[aM (by decide),bc,rG,i2,e,bi,a7 (by decide),ba,r,rF]
theorem Rq(rows:List (List Int×cd))(g gt:cd)(ts:List Nat)(ah:ts.length<9)(Q:∀t∈ts,t=1∨t=2∨t=3)(hi:∀r∈rows,r.1.length<100):∀(rest pre:List (List Int×cd)) (y u:List Nat) (S:aq) (e:aa1),rows=pre++rest→ts=u++y→u.length=pre.length→rest.length=y.length→hL d j S {A with env:=e}→e.length+100*rest.length<1000000000→
  ∃b4,xL (aH au G X) (.ref (.g d j) 0) (.aW 1 (rows.map bA) g) (.aW 1 (ts.map In) gt) (In pre.length) S=(aH au G X).aB false [] b4∧hL d j b4 {A with env:=pk (jW ts fun _=>0) (jW u fun _=>0) y (rest.map Prod.fst) e}∧eM d j S b4:=by
 intro rest
 induction rest with
 |nil=>
  intro pre y u S e aQ cB br H h he;rw[gf] at aQ;subst aQ
  have:y=[]:=kU H.symm;subst this;obtain⟨src,n,h⟩:=h;refine⟨S,?_,⟨src,n,h⟩,.refl h.fd⟩;rw[Av,bg,b2,be,aM (by omega),bc]
 |cons v rest K=>
  intro pre y u S e aQ cB br H h he;cases y with
  |nil=>simp at H
  |cons t y=>
   obtain⟨v,I⟩:=v;have ai:pre.length<rows.length:=by rw[aQ];simp
   have L:ts[pre.length]? =some t:=by rw[cB,←br];simp
   have M:=Q t (by rw[cB];simp);have R:rows[pre.length]? =some (v,I):=by rw[aQ];simp
   have aj:v.length<100:=hi (v,I) (by rw[aQ];simp);have ak:pre.length<9:=by
    have:u.length≤ts.length:=by rw[cB];simp
    omega
   have U:=fun S k=>fJ G X S k pre.length (by omega)
   have N:=Rn G X (.ref (.g d j) 0) (.aW 1 (rows.map bA) g) ts gt pre.length t L (by omega) S ts [] 0 1 rfl (by simp) (by simp);have V:jW ts (fun _=>0) t=0+Rm t ts:=Bd t ts _;have Y:ts.take (pre.length-([]:List Nat).length)=u:=by rw[ek,Nat.sub_zero,←br,cB];simp
   have Z:hq (jW u fun _=>0) t t=1+Rm t u:=by unfold hq;rw[if_pos rfl,Bd];omega
   rw[Y,←V,←Z] at N;have al:=aiL t u;have am:u.length≤ts.length:=by rw[cB];simp
   let tail:List Nat:=if 1<jW ts (fun _=>0) t then[48+hq (jW u fun _=>0) t t] else[]
   have aa:tail.length≤1:=by show(if _ then _ else _:List Nat).length≤1;split<;> simp
   have ab:(hy t).length<1000:=by rcases M with rfl |rfl |rfl <;> decide
   rw[c0] at he;obtain⟨ac,bU,aD,ad⟩:=MF G X rows g (.aW 1 (ts.map In) gt) pre.length v I R tail aa (hy t) .exact (ZM t (by omega)) (by omega) ab v [] (hy t) [] S e rfl rfl rfl h (by omega);have ae:∀(J:List (List Nat)) (B:List Int) (e:aa1),(hz tail J B e).length≤e.length+B.length:=fun J=>by
    induction J with
    |nil=>intro B e;cases B<;> simp [hz]
    |cons a J K=>
     intro B e;cases B with
     |nil=>simp [hz]
     |cons r B=>rw[hz];have:=K B ((a++tail,r)::e);simp at this ⊢;omega
   obtain⟨O,af,aG,ag⟩:=K (pre++[(v,I)]) y (u++[t]) ac (hz tail (hy t) v e) (by rw[aQ];simp) (by rw[cB];simp) (by simp [br]) (by simpa using H) aD (by have:=ae (hy t) v e;omega);rw[Be] at aG;refine⟨O,?_,aG,ad.trans ag⟩;rw[Av,bg,b2,be,a7 (by omega),ba,O2];refine N.trans ?_;rw[O1,ee];have fin:tR (aH au G X) (.ref (.g d j) 0) (.aW 1 (rows.map bA) g) (.aW 1 (ts.map In) gt) (In pre.length) (.str tail) S=(aH au G X).aB false [] O:=by rw[Rp G X _ _ ts gt pre.length t L M];refine bU.trans ?_;rw[Lf,U,←af,dm];rfl
   by_cases hm:1<jW ts (fun _=>0) t
   ·rw[a7 (by omega),ba];refine(Ro G X _ (by omega)).trans ?_;rw[show tail=[48+hq (jW u fun _=>0) t t] from if_pos hm] at fin;exact fin
   ·rw[aM (by omega),bc];rw[show tail=[] from if_neg hm] at fin;exact fin
theorem ZS{s:aq}(rows:List (List Int×cd))(g gt:cd)(ts:List Nat)(e:ts.length<9)(br:rows.length=ts.length)(u:∀t∈ts,t=1∨t=2∨t=3)(hi:∀r∈rows,r.1.length<100)(h:hL d j s {A with env:=[]}):
  ∃s',az au G X 66 [.ref (.g d j) 0,.aW 1 (rows.map bA) g,.aW 1 (ts.map In) gt] s=.ok (.cT []) s'∧hL d j s' {A with env:=qw ts (rows.map Prod.fst)}∧eM d j s s':=by
 obtain⟨src,n,h⟩:=h;obtain⟨K,bU,⟨y,B,aD⟩,H⟩:=Rq G X (d:=d) (j:=j) (A:=A) rows g gt ts e u hi rows [] ts [] s.af [] rfl rfl rfl br ⟨src,n,h.af⟩ (by simp;omega);obtain⟨s',rfl,I,J⟩:=eM.exit h H aD;refine⟨s',?_,⟨y,B,J⟩,I⟩;rw[aaF,apA];exact bU.trans (oN G X _)
end
def px(i:Nat):List (List Nat×List Nat):=[([115,48+i],[120,48+i,94,50,32,43,32,121,48+i,94,50]),([102,48+i],[120,48+i,32,122,48+i]),([103,48+i],[121,48+i,32,122,48+i]),([104,48+i],[122,48+i,94,50])]
def oO(i:Nat):List (List Nat×jc):=(fK 400 (px i)).getD []
theorem aiM(i:Nat)(h:i<5):fK 400 (px i)=some (oO i)∧e1 (oO i)≤20∧(∀p∈px i,p.2.length<1000∧p.2≠[105,110]):=by
 have t:∀i,i<5→(fK 400 (px i)).isSome=true∧e1 (oO i)≤20∧(∀p∈px i,p.2.length<1000∧p.2≠[105,110]):=by decide +kernel
 obtain⟨t1,t2,t3⟩:=t i h;refine⟨?_,t2,t3⟩;unfold oO;rw[Option.isSome_iff_exists] at t1;obtain⟨a,e⟩:=t1;rw[e];rfl
def vt:Nat→Nat→List (List Nat×jc)
 |0,_=>[]
 |k+1,i=>oO i++vt k (i+1)
theorem jT:∀(a b:List (List Nat×jc)) (A:cj),cC (a++b) A=cC b (cC a A)
 |[],b,A=>rfl
 |(w,x)::a,b,A=>by rw[List.cons_append,cC,cC,jT a b]
section
variable{d j:Nat}{s:aq}{A:cj}
theorem MG(gH v1:ai)(i:Nat)(aD:1≤i)(aG:i≤4)(S:aq):zQ (aH au G X) gH v1 (In i) S=(aH au G X).ar S (fun _ s=>zP (aH au G X) gH v1 (In i) s) 110 [ai.ak S.aa gH,ai.ak S.aa (.aW 1 (dV (px i)) .exact)]:=by
 have bk:i=1∨i=2∨i=3∨i=4:=by omega
 rw[Ln];rcases bk with rfl |rfl |rfl |rfl <;> rfl
end
theorem aa7(i:Nat)(A:cj)(h:i<5):(cC (oO i) A).env.length=A.env.length+(oO i).length:=by
 have:∀(D:List (List Nat×jc)) (A:cj),(cC D A).env.length=A.env.length+D.length:=fun D=>by
  induction D with
  |nil=>intro A;rfl
  |cons p D r=>
   intro A;obtain⟨w,y⟩:=p;rw[cC,r,c0];cases y with
   |e5=>show(A.env.length+1)+_=_;omega
   |root e=>show((e.run A).1.env.length+1)+_=_;rw[ny];omega
   |ex e=>show((e.run A).1.env.length+1)+_=_;rw[ny];omega
 exact this _ _
theorem dv.run{n m:Nat}:∀(D:List (List Nat×jc)) (A:cj),dv A (e1 D+n) (D.length+m)→dv (cC D A) n m
 |[],A,h=>by rw[cC];simpa [e1] using h
 |(w,x)::D,A,h=>by
  rw[cC];refine dv.run D _ (dv.awu w ?_);rw[e1,c0] at h;have bU:x.size+e1 D+n=x.size+(e1 D+n):=by omega
  have e:D.length+1+m=D.length+m+1:=by omega
  rw[bU,e] at h;exact h
section
variable{d j:Nat}{s:aq}{A:cj}
theorem MH(N:Nat)(pE:N≤4)(h:hL d j s A)(e:dv A 200 100)(he:A.env.length<1000):
  ∃s',az au G X 111 [.ref (.g d j) 0,In N] s=.ok (.cT []) s'∧hL d j s' (cC (vt N 1) A)∧eM d j s s':=by
 have hlen:∀i,i<5→(oO i).length=4:=by decide +kernel
 have loop:∀(k i:Nat) (S:aq) (A:cj),i+k=N+1→1≤i→hL d j S A→dv A (40*k+20) (10*k+10)→A.env.length+10*k<10000→
   ∃b4,tX (aH au G X) (.ref (.g d j) 0) (In N) (In i) S=(aH au G X).aB false [] b4∧hL d j b4 (cC (vt k i) A)∧eM d j S b4:=by
  intro k
  induction k with
  |zero=>intro i S A bk aD r e he;obtain⟨src,n,r⟩:=r;refine⟨S,?_,⟨src,n,r⟩,.refl r.fd⟩;rw[wK,n5,aM (by omega),bc]
  |succ k H=>
   intro i S A bk aD r e he;obtain⟨I,ac,J⟩:=aiM i (by omega);have y:=hlen i (by omega);have K:dv A (e1 (oO i)) (px i).length:=⟨by have:=e.ins;omega,by have:=e.roots;show _+4<_;omega,e.eQ,by have:=e.dj;show _+((4:Nat):Int)<_;omega⟩;obtain⟨B,bU,L,u⟩:=ME G X 400 (px i) (oO i) .exact I (by show 4<_;omega) (fun p aU=>by have:=J p aU;exact⟨by omega,this.2⟩) r K (by show _+4<_;omega);have M:dv (cC (oO i) A) (40*k+20) (10*k+10):=dv.run (oO i) A ⟨by have:=e.ins;omega,by rw[y];have:=e.roots;omega,e.eQ,by rw[y];have:=e.dj;omega⟩;obtain⟨O,Q,aG,R⟩:=H (i+1) B (cC (oO i) A) (by omega) (by omega) L M (by rw[aa7 i A (by omega),y];omega);have U:=fun S k=>fJ G X S k i (by omega)
   refine⟨O,?_,by rw[vt,jT];exact aG,u.trans R⟩;rw[wK,n5,a7 (by omega),ba,MG G X _ _ i aD (by omega)];refine(dc bU u.aa).trans ?_;rw[Lm,U];exact Q
 obtain⟨src,n,h⟩:=h;obtain⟨B,bU,⟨V,Y,aD⟩,u⟩:=loop N 1 s.af A (by omega) (by omega) ⟨src,n,h.af⟩ ⟨by have:=e.ins;omega,by have:=e.roots;omega,e.eQ,by have:=e.dj;omega⟩ (by omega);obtain⟨s',rfl,Z,ab⟩:=eM.exit h u aD;refine⟨s',?_,⟨V,Y,ab⟩,Z⟩;rw[Qu,ahl];exact bU.trans (oN G X _)
end
theorem Bf(s:aq):az au G X 109 [] s=.ok (.aW 1 (strs (fB 3 false)) .exact) s:=by rw[Qs,ahj];rfl
theorem Bg(s:aq):az au G X 131 [] s=.ok (.aW 1 (dV (eu 8 false)) .exact) s:=by rw[Qz,ahq];rfl
theorem MI(s:aq):az au G X 132 [] s=.ok (.aW 1 (strs (fB 8 false)) .exact) s:=by rw[QA,ahr];rfl
section
variable{d j:Nat}{S:aq}{A:cj}
def pD(d j:Nat)(R:ao)(S:aq)(q:cj×List Int):Prop:=∃e,R=(aH au G X).aB false [some (dx q.2 (eR q.2))] e∧hL d j e q.1∧eM d j S e
theorem pD.via{r:aq}{R:ao}{q:cj×List Int}(u:eM d j S r)(b:pD G X d j R r q):pD G X d j R S q:=by obtain⟨y,e,h,B⟩:=b;exact⟨y,e,h,u.trans B⟩
theorem pD.of{R R':ao}{q:cj×List Int}(e:R=R')(b:pD G X d j R' S q):pD G X d j R S q:=e ▸ b
theorem qz{α:Type}(l:List α):∀a,eR l≠.bQ a:=fun a e=>by unfold eR at e;split at e<;> cases e
theorem pD.call{R:ao}{q:cj×List Int}(h:hL d j S A)(b:pD G X d j R S.af q):∃b4,R=.ok (dx q.2 (eR q.2)) b4∧hL d j b4 q.1∧eM d j S b4:=by obtain⟨src,n,h⟩:=h;obtain⟨H,e,⟨r,y,k⟩,u⟩:=b;obtain⟨b4,rfl,B,jh⟩:=eM.exit h u k;exact⟨b4,by rw[e];exact gV (Child.af b4) _ _ (vf (qz _) _ _ _),⟨r,y,jh⟩,B⟩
theorem hL.dK(h:hL d j S A)(f:Nat)(dK:List (List Nat×List Nat))(D:List (List Nat×jc))(r:fK f dK=some D)(y:dK.length<1000000)(B:∀p∈dK,p.2.length<1000000000∧p.2≠[105,110])(H:dv A (e1 D) dK.length)(he:A.env.length+dK.length<1000000000):
  ∃b4,hL d j b4 (cC D A)∧eM d j S b4∧∀k:a1,(aH au G X).ar S k 110 [ai.ak S.aa (.ref (.g d j) 0),ai.ak S.aa (.aW 1 (dV dK) .exact)]=k (.cT []) b4:=by
 obtain⟨b4,e,I,u⟩:=ME G X f dK D .exact r y B h H he;exact⟨b4,I,u,fun k=>dc e u.aa⟩
theorem hL.lh(h:hL d j S A)(f:Nat)(cs:List (List Nat))(E:List g9)(bo:j3 f cs=some E)(r:cs.length<1000000)(y:∀p∈cs,p.length<1000000000)(B:A.ins.length+j4 E<1000000000)(he:A.env.length<1000000000):
  pD G X d j ((aH au G X).ar S (fun v s=>(aH au G X).aB false [some v] s) 108 [ai.ak S.aa (.ref (.g d j) 0),ai.ak S.aa (.aW 1 (strs cs) .exact)]) S (dS E A):=by
 obtain⟨b4,e,H,u⟩:=aiK G X f cs E .exact bo r y h B he;exact⟨b4,dc e u.aa,H,u⟩
theorem f9:∀(D:List (List Nat×jc)) (A:cj),(cC D A).env.length=A.env.length+D.length
 |[],A=>rfl
 |(w,y)::D,A=>by
  rw[cC,f9 D,c0];cases y with
  |e5=>show(A.env.length+1)+_=_;omega
  |root e=>show((e.run A).1.env.length+1)+_=_;rw[ny];omega
  |ex e=>show((e.run A).1.env.length+1)+_=_;rw[ny];omega
theorem MJ(h:hL d j S A)(e:dv A 500 100)(he:A.env.length<1000):∃b4,az au G X 129 [.ref (.g d j) 0] S=.ok (dx (dS (f8 5 false) (cC (c6 5 false) A)).2 (eR (dS (f8 5 false) (cC (c6 5 false) A)).2)) b4∧hL d j b4 (dS (f8 5 false) (cC (c6 5 false) A)).1∧eM d j S b4:=by
 obtain⟨r,u⟩:=lV 5 false (by decide) (by decide);obtain⟨L,M,N,O,y,B⟩:=lW 5 false (by decide) (by decide);have Q:=aiC 5 false (by decide) (by decide);have H:∀p∈eu 5 false,p.2≠[105,110]:=by decide +kernel
 have aT:=h;obtain⟨src,n,I⟩:=h;have cL:hL d j S.af A:=⟨src,n,I.af⟩;rw[Qx,aho];refine pD.call G X aT ?_;obtain⟨R,aD,J,K⟩:=cL.dK G X 400 (eu 5 false) (c6 5 false) r (by omega) (fun p aU=>⟨by have:=y p aU;omega,H p aU⟩) ⟨by have:=e.ins;omega,by have:=e.roots;omega,e.eQ,by have:=e.dj;omega⟩ (by omega);have d1:=gv (c6 5 false) A;have b:=aD.lh G X 400 (fB 5 false) (f8 5 false) u (by omega) (fun p aU=>by have:=B p aU;omega) (by have:=e.ins;omega) (by rw[f9];omega);refine .via G X J (.of G X ?_ b);exact K _
end
section
variable{d j:Nat}{S:aq}{A:cj}
theorem auV:vt 3 1=c6 7 false:=by kernel_rfl
theorem aiN(h:hL d j S A)(e:dv A 500 100)(he:A.env.length<1000):∃b4,az au G X 130 [.ref (.g d j) 0] S=.ok (dx (dS (f8 7 false) (cC (c6 7 false) A)).2 (eR (dS (f8 7 false) (cC (c6 7 false) A)).2)) b4∧hL d j b4 (dS (f8 7 false) (cC (c6 7 false) A)).1∧eM d j S b4:=by obtain⟨H,u⟩:=lV 7 false (by decide) (by decide);obtain⟨I,J,K,L,M,y⟩:=lW 7 false (by decide) (by decide);have N:=aiC 7 false (by decide) (by decide);have aT:=h;obtain⟨src,n,B⟩:=h;have cL:hL d j S.af A:=⟨src,n,B.af⟩;rw[Qy,ahp];refine pD.call G X aT ?_;obtain⟨O,bU,aD,r⟩:=MH G X 3 (by decide) cL ⟨by have:=e.ins;omega,e.roots,e.eQ,e.dj⟩ he;rw[auV] at aD;have d1:=gv (c6 7 false) A;have b:=aD.lh G X 400 (fB 7 false) (f8 7 false) u (by omega) (fun p aU=>by have:=y p aU;omega) (by have:=e.ins;omega) (by rw[f9];omega);refine .via G X r (.of G X ?_ b);exact dc bU r.aa
end
section
variable{d j:Nat}{S:aq}{A:cj}
def Rr(c:Bool):List (List Nat×jc):=(fK 400 (eu 2 c).tail).getD []
theorem awi:c6 2 false=([116],.e5)::Rr false:=by kernel_rfl
theorem awj:c6 2 true=([116],.e5)::Rr true:=by kernel_rfl
theorem aw1(c:Bool):c6 2 c=([116],.e5)::Rr c:=by cases c;exact awi;exact awj
theorem apZ(c:Bool):fK 400 (eu 2 c).tail=some (Rr c)∧(∀p∈(eu 2 c).tail,p.2.length<1000∧p.2≠[105,110]):=by
 have t:∀c:Bool,(fK 400 (eu 2 c).tail).isSome=true∧(∀p∈(eu 2 c).tail,p.2.length<1000∧p.2≠[105,110]):=by decide +kernel
 obtain⟨t1,t2⟩:=t c;refine⟨?_,t2⟩;unfold Rr;rw[Option.isSome_iff_exists] at t1;obtain⟨a,e⟩:=t1;rw[e];rfl
theorem aiO(c:Bool)(h:hL d j S A)(e:dv A 500 100)(he:A.env.length<1000):∃b4,az au G X 128 [.ref (.g d j) 0,.bool c] S=.ok (dx (dS (f8 2 c) (cC (c6 2 c) A)).2 (eR (dS (f8 2 c) (cC (c6 2 c) A)).2)) b4∧hL d j b4 (dS (f8 2 c) (cC (c6 2 c) A)).1∧eM d j S b4:=by
 obtain⟨R,L⟩:=lV 2 c (by decide) (by decide);obtain⟨u,U,V,Y,Z,M⟩:=lW 2 c (by decide) (by decide);have y:=aiC 2 c (by decide) (by decide);obtain⟨N,B⟩:=apZ c;have aT:=h;obtain⟨src,n,O⟩:=h;have cL:hL d j S.af A:=⟨src,n,O.af⟩;rw[Qw,ahn];refine pD.call G X aT ?_;have d0:=gv (c6 2 c) A;have H:=f9 (c6 2 c) A;rw[aw1] at u y d0 H ⊢;rw[cC] at d0 H ⊢;rw[e1,jc.size] at u;rw[c0] at y;obtain⟨ab,bU,aD,I⟩:=Bc G X cL [116] (by have:=e.ins;omega) (by omega) ⟨e.eQ,by have:=e.dj;omega⟩;have ac:(eu 2 c).tail.length≤30:=by rw[List.length_tail];omega
 have r:dv (jc.e5.run [116] A) 400 90:=dv.awu (x:=.e5) [116] ⟨by have:=e.ins;rw[jc.size];omega,by have:=e.roots;omega,e.eQ,by have:=e.dj;omega⟩;have J:(jc.e5.run [116] A).env.length=A.env.length+1:=rfl;obtain⟨ad,aG,Q,K⟩:=aD.dK G X 400 (eu 2 c).tail (Rr c) N (by omega) (fun p aU=>⟨by have:=B p aU;omega,(B p aU).2⟩) ⟨by have:=r.ins;omega,by have:=r.roots;omega,r.eQ,by have:=r.dj;omega⟩ (by rw[J];omega);have d1:=gv (Rr c) (jc.e5.run [116] A);have b:=aG.lh G X 400 (fB 2 c) (f8 2 c) L (by omega) (fun p aU=>by have:=M p aU;omega) (by have:=r.ins;omega) (by rw[f9,J];omega);refine .via G X I (.via G X Q (.of G X ?_ b));refine(dc bU I.aa).trans ?_;rw[eY];cases c with
 |false=>rw[eC,ba];exact K _
 |true=>rw[eV,bc,Lo];exact K _
end
section
variable{d j:Nat}{S:aq}{A:cj}
abbrev d8(op:Nat)(c:Bool)(A:cj):cj×List Int:=dS (f8 op c) (cC (c6 op c) A)
theorem piece(op:Nat)(c:Bool)(aD:1≤op)(aG:op≤16)(r:∀p∈eu op c,p.2≠[105,110])(h:hL d j S A)(e:dv A 500 100)(he:A.env.length<1000):
  pD G X d j ((aH au G X).ar S (fun _ s=>(aH au G X).ar s (fun v s=>(aH au G X).aB false [some v] s) 108 [ai.ak s.aa (.ref (.g d j) 0),ai.ak s.aa (.aW 1 (strs (fB op c)) .exact)]) 110 [ai.ak S.aa (.ref (.g d j) 0),ai.ak S.aa (.aW 1 (dV (eu op c)) .exact)]) S (d8 op c A):=by
 obtain⟨u,y⟩:=lV op c aD aG;obtain⟨K,L,M,N,B,H⟩:=lW op c aD aG;have O:=aiC op c aD aG;obtain⟨Q,gw,I,J⟩:=h.dK G X 400 (eu op c) (c6 op c) u (by omega) (fun p aU=>⟨by have:=B p aU;omega,r p aU⟩) ⟨by have:=e.ins;omega,by have:=e.roots;omega,e.eQ,by have:=e.dj;omega⟩ (by omega);have d1:=gv (c6 op c) A;have b:=gw.lh G X 400 (fB op c) (f8 op c) y (by omega) (fun p aU=>by have:=H p aU;omega) (by have:=e.ins;omega) (by rw[f9];omega);exact .via G X I (.of G X (J _) b)
theorem x4(op:Nat)(c:Bool)(aD:1≤op)(aG:op≤16)(bX:c6 op c=[])(h:hL d j S A)(r:dv A 500 100)(he:A.env.length<1000):
  pD G X d j ((aH au G X).ar S (fun v s=>(aH au G X).aB false [some v] s) 108 [ai.ak S.aa (.ref (.g d j) 0),ai.ak S.aa (.aW 1 (strs (fB op c)) .exact)]) S (d8 op c A):=by
 obtain⟨B,u⟩:=lV op c aD aG;obtain⟨H,I,J,K,L,y⟩:=lW op c aD aG;have b:=h.lh G X 400 (fB op c) (f8 op c) u (by omega) (fun p aU=>by have:=y p aU;omega) (by have:=r.ins;omega) (by omega);have e:d8 op c A=dS (f8 op c) A:=by show dS _ (cC (c6 op c) A)=_;rw[bX];rfl
 rw[e];exact b
end
section
variable(gH v2:ai)(S:aq)
theorem ap0:f82 (aH au G X) gH (.int .i64 10) v2 S=(aH au G X).ar S (fun _ s=>(aH au G X).ar s (fun v s=>(aH au G X).aB false [some v] s) 108 [ai.ak s.aa gH,ai.ak s.aa (.aW 1 (strs (fB 10 false)) .exact)]) 110 [ai.ak S.aa gH,ai.ak S.aa (.aW 1 (dV (eu 10 false)) .exact)]:=by rw[ig];simp -implicitDefEqProofs only[bi,fI,fH,Int.reduceEq,dk,c9,ba,bc];rfl
theorem ap1:f82 (aH au G X) gH (.int .i64 11) v2 S=(aH au G X).ar S (fun _ s=>(aH au G X).ar s (fun v s=>(aH au G X).aB false [some v] s) 108 [ai.ak s.aa gH,ai.ak s.aa (.aW 1 (strs (fB 11 false)) .exact)]) 110 [ai.ak S.aa gH,ai.ak S.aa (.aW 1 (dV (eu 11 false)) .exact)]:=by rw[ig];simp -implicitDefEqProofs only[bi,fI,fH,Int.reduceEq,dk,c9,ba,bc];rfl
theorem ap2:f82 (aH au G X) gH (.int .i64 13) v2 S=(aH au G X).ar S (fun _ s=>(aH au G X).ar s (fun v s=>(aH au G X).aB false [some v] s) 108 [ai.ak s.aa gH,ai.ak s.aa (.aW 1 (strs (fB 13 false)) .exact)]) 110 [ai.ak S.aa gH,ai.ak S.aa (.aW 1 (dV (eu 13 false)) .exact)]:=by rw[ig];simp -implicitDefEqProofs only[bi,fI,fH,Int.reduceEq,dk,c9,ba,bc];rfl
theorem ap3:f82 (aH au G X) gH (.int .i64 14) v2 S=(aH au G X).ar S (fun _ s=>(aH au G X).ar s (fun v s=>(aH au G X).aB false [some v] s) 108 [ai.ak s.aa gH,ai.ak s.aa (.aW 1 (strs (fB 14 false)) .exact)]) 110 [ai.ak S.aa gH,ai.ak S.aa (.aW 1 (dV (eu 14 false)) .exact)]:=by rw[ig];simp -implicitDefEqProofs only[bi,fI,fH,Int.reduceEq,dk,c9,ba,bc];rfl
theorem ap4:f82 (aH au G X) gH (.int .i64 12) v2 S=(aH au G X).ar S (fun v s=>(aH au G X).aB false [some v] s) 108 [ai.ak S.aa gH,ai.ak S.aa (.aW 1 (strs (fB 12 false)) .exact)]:=by rw[ig];simp -implicitDefEqProofs only[bi,fI,fH,Int.reduceEq,dk,c9,ba,bc];rfl
theorem ap5:f82 (aH au G X) gH (.int .i64 16) v2 S=(aH au G X).ar S (fun v s=>(aH au G X).aB false [some v] s) 108 [ai.ak S.aa gH,ai.ak S.aa (.aW 1 (strs (fB 16 false)) .exact)]:=by rw[ig];simp only[bi,fI,fH,O3,Int.reduceEq,c9,bc];rfl
theorem auW:f82 (aH au G X) gH (.int .i64 5) v2 S=(aH au G X).ar S (fun v s=>(aH au G X).aB false [some v] s) 129 [ai.ak S.aa gH]:=by rw[ig];simp -implicitDefEqProofs only[bi,fI,fH,Int.reduceEq,dk,c9,ba,bc]
theorem auX:f82 (aH au G X) gH (.int .i64 6) v2 S=(aH au G X).ar S (fun v s=>(aH au G X).aB false [some v] s) 129 [ai.ak S.aa gH]:=by rw[ig];simp -implicitDefEqProofs only[bi,fI,fH,Int.reduceEq,dk,c9,ba,bc]
theorem auY:f82 (aH au G X) gH (.int .i64 7) v2 S=(aH au G X).ar S (fun v s=>(aH au G X).aB false [some v] s) 130 [ai.ak S.aa gH]:=by rw[ig];simp -implicitDefEqProofs only[bi,fI,fH,Int.reduceEq,dk,c9,ba,bc]
theorem auZ:f82 (aH au G X) gH (.int .i64 2) v2 S=(aH au G X).ar S (fun v s=>(aH au G X).aB false [some v] s) 128 [ai.ak S.aa gH,ai.ak S.aa v2]:=by rw[ig];simp -implicitDefEqProofs only[bi,fI,fH,Int.reduceEq,dk,c9,ba,bc]
end
section
variable(gH v2:ai)(S:aq)
theorem au0:f82 (aH au G X) gH (.int .i64 3) v2 S=(aH au G X).ar S (fun e s=>(aH au G X).ar s (fun v s=>(aH au G X).aB false [some v] s) 108 [ai.ak s.aa gH,ai.ak s.aa e]) 109 []:=by rw[ig];simp -implicitDefEqProofs only[bi,fI,fH,Int.reduceEq,dk,c9,ba,bc]
theorem au1:f82 (aH au G X) gH (.int .i64 4) v2 S=(aH au G X).ar S (fun e s=>(aH au G X).ar s (fun v s=>(aH au G X).aB false [some v] s) 108 [ai.ak s.aa gH,ai.ak s.aa e]) 109 []:=by rw[ig];simp -implicitDefEqProofs only[bi,fI,fH,Int.reduceEq,dk,c9,ba,bc]
theorem au2:f82 (aH au G X) gH (.int .i64 8) v2 S=(aH au G X).ar S (fun e s=>(aH au G X).ar s (fun _ s=>(aH au G X).ar s (fun h s=>(aH au G X).ar s (fun v s=>(aH au G X).aB false [some v] s) 108 [ai.ak s.aa gH,ai.ak s.aa h]) 132 []) 110 [ai.ak s.aa gH,ai.ak s.aa e]) 131 []:=by rw[ig];simp -implicitDefEqProofs only[bi,fI,fH,Int.reduceEq,dk,c9,ba,bc]
end
section
variable{d j:Nat}{S:aq}{A:cj}
theorem ap6(op:Nat)(c:Bool)(h:hL d j S A)(b:∀S:aq,hL d j S A→pD G X d j (f82 (aH au G X) (.ref (.g d j) 0) (In op) (.bool c) S) S (d8 op c A)):
  ∃b4,az au G X 82 [.ref (.g d j) 0,In op,.bool c] S=.ok (dx (d8 op c A).2 (eR (d8 op c A).2)) b4∧hL d j b4 (d8 op c A).1∧eM d j S b4:=by
 obtain⟨src,n,e⟩:=h;rw[aaG];exact pD.call G X ⟨src,n,e⟩ (b S.af ⟨src,n,e.af⟩)
theorem MK:∀op:Nat,op<17→3≤op→∀c:Bool,∀p∈eu op c,p.2≠[105,110]:=by decide +kernel
theorem ap7(c:Bool)(r:dv A 500 100)(he:A.env.length<1000)(S:aq)(h:hL d j S A):pD G X d j (f82 (aH au G X) (.ref (.g d j) 0) (In 10) (.bool c) S) S (d8 10 c A):=by
 have b:=piece G X 10 false (by decide) (by decide) (MK 10 (by decide) (by decide) false) h r he;have e:d8 10 c A=d8 10 false A:=by cases c<;> rfl
 rw[e];exact .of G X (ap0 G X (.ref (.g d j) 0) (.bool c) S) b
theorem ap8(c:Bool)(r:dv A 500 100)(he:A.env.length<1000)(S:aq)(h:hL d j S A):pD G X d j (f82 (aH au G X) (.ref (.g d j) 0) (In 11) (.bool c) S) S (d8 11 c A):=by
 have b:=piece G X 11 false (by decide) (by decide) (MK 11 (by decide) (by decide) false) h r he;have e:d8 11 c A=d8 11 false A:=by cases c<;> rfl
 rw[e];exact .of G X (ap1 G X (.ref (.g d j) 0) (.bool c) S) b
theorem ap9(c:Bool)(r:dv A 500 100)(he:A.env.length<1000)(S:aq)(h:hL d j S A):pD G X d j (f82 (aH au G X) (.ref (.g d j) 0) (In 13) (.bool c) S) S (d8 13 c A):=by
 have b:=piece G X 13 false (by decide) (by decide) (MK 13 (by decide) (by decide) false) h r he;have e:d8 13 c A=d8 13 false A:=by cases c<;> rfl
 rw[e];exact .of G X (ap2 G X (.ref (.g d j) 0) (.bool c) S) b
theorem aqa(c:Bool)(r:dv A 500 100)(he:A.env.length<1000)(S:aq)(h:hL d j S A):pD G X d j (f82 (aH au G X) (.ref (.g d j) 0) (In 14) (.bool c) S) S (d8 14 c A):=by
 have b:=piece G X 14 false (by decide) (by decide) (MK 14 (by decide) (by decide) false) h r he;have e:d8 14 c A=d8 14 false A:=by cases c<;> rfl
 rw[e];exact .of G X (ap3 G X (.ref (.g d j) 0) (.bool c) S) b
theorem aqb(c:Bool)(r:dv A 500 100)(he:A.env.length<1000)(S:aq)(h:hL d j S A):pD G X d j (f82 (aH au G X) (.ref (.g d j) 0) (In 12) (.bool c) S) S (d8 12 c A):=by
 have b:=x4 G X 12 false (by decide) (by decide) rfl h r he;have e:d8 12 c A=d8 12 false A:=by cases c<;> rfl
 rw[e];exact .of G X (ap4 G X (.ref (.g d j) 0) (.bool c) S) b
theorem aqc(c:Bool)(r:dv A 500 100)(he:A.env.length<1000)(S:aq)(h:hL d j S A):pD G X d j (f82 (aH au G X) (.ref (.g d j) 0) (In 16) (.bool c) S) S (d8 16 c A):=by
 have b:=x4 G X 16 false (by decide) (by decide) rfl h r he;have e:d8 16 c A=d8 16 false A:=by cases c<;> rfl
 rw[e];exact .of G X (ap5 G X (.ref (.g d j) 0) (.bool c) S) b
end
section
variable{d j:Nat}{S:aq}{A:cj}
theorem au3(c:Bool)(u:dv A 500 100)(he:A.env.length<1000)(S:aq)(h:hL d j S A):pD G X d j (f82 (aH au G X) (.ref (.g d j) 0) (In 5) (.bool c) S) S (d8 5 c A):=by
 obtain⟨b4,bU,aD,r⟩:=MJ G X h u he;have e:d8 5 c A=d8 5 false A:=by cases c<;> rfl
 rw[e];exact .of G X (auW G X (.ref (.g d j) 0) (.bool c) S) ⟨b4,dc bU r.aa,aD,r⟩
theorem au4(c:Bool)(u:dv A 500 100)(he:A.env.length<1000)(S:aq)(h:hL d j S A):pD G X d j (f82 (aH au G X) (.ref (.g d j) 0) (In 6) (.bool c) S) S (d8 6 c A):=by
 obtain⟨b4,bU,aD,r⟩:=MJ G X h u he;have e:d8 6 c A=d8 5 false A:=by cases c<;> rfl
 rw[e];exact .of G X (auX G X (.ref (.g d j) 0) (.bool c) S) ⟨b4,dc bU r.aa,aD,r⟩
theorem au5(c:Bool)(u:dv A 500 100)(he:A.env.length<1000)(S:aq)(h:hL d j S A):pD G X d j (f82 (aH au G X) (.ref (.g d j) 0) (In 7) (.bool c) S) S (d8 7 c A):=by
 obtain⟨b4,bU,aD,r⟩:=aiN G X h u he;have e:d8 7 c A=d8 7 false A:=by cases c<;> rfl
 rw[e];exact .of G X (auY G X (.ref (.g d j) 0) (.bool c) S) ⟨b4,dc bU r.aa,aD,r⟩
theorem au6(c:Bool)(r:dv A 500 100)(he:A.env.length<1000)(S:aq)(h:hL d j S A):pD G X d j (f82 (aH au G X) (.ref (.g d j) 0) (In 2) (.bool c) S) S (d8 2 c A):=by obtain⟨b4,bU,aD,e⟩:=aiO G X c h r he;exact .of G X (auZ G X (.ref (.g d j) 0) (.bool c) S) ⟨b4,dc bU e.aa,aD,e⟩
theorem au7(c:Bool)(r:dv A 500 100)(he:A.env.length<1000)(S:aq)(h:hL d j S A):pD G X d j (f82 (aH au G X) (.ref (.g d j) 0) (In 3) (.bool c) S) S (d8 3 c A):=by
 have b:=x4 G X 3 false (by decide) (by decide) rfl h r he;have e:d8 3 c A=d8 3 false A:=by cases c<;> rfl
 rw[e];refine .of G X (au0 G X (.ref (.g d j) 0) (.bool c) S) (.of G X ?_ b);exact aK (Bf G X S)
theorem au8(c:Bool)(r:dv A 500 100)(he:A.env.length<1000)(S:aq)(h:hL d j S A):pD G X d j (f82 (aH au G X) (.ref (.g d j) 0) (In 4) (.bool c) S) S (d8 4 c A):=by
 have b:=x4 G X 4 false (by decide) (by decide) rfl h r he;have e:d8 4 c A=d8 4 false A:=by cases c<;> rfl
 rw[e];refine .of G X (au1 G X (.ref (.g d j) 0) (.bool c) S) (.of G X ?_ b);exact aK (Bf G X S)
theorem au9(c:Bool)(r:dv A 500 100)(he:A.env.length<1000)(S:aq)(h:hL d j S A):pD G X d j (f82 (aH au G X) (.ref (.g d j) 0) (In 8) (.bool c) S) S (d8 8 c A):=by
 have b:=piece G X 8 false (by decide) (by decide) (MK 8 (by decide) (by decide) false) h r he;have e:d8 8 c A=d8 8 false A:=by cases c<;> rfl
 rw[e];refine .of G X (au2 G X (.ref (.g d j) 0) (.bool c) S) (.of G X ?_ b);refine(aK (Bg G X S)).trans ?_;congr 1;funext _ s;exact aK (MI G X s)
end
section
variable{d j:Nat}{A:cj}
theorem aw2(c:Bool):c6 1 c=[([120,120],.e5),([121,121],.e5)]:=by cases c<;> kernel_rfl
theorem ava(c:Bool)(r:dv A 500 100)(he:A.env.length<1000)(S:aq)(h:hL d j S A):pD G X d j (f82 (aH au G X) (.ref (.g d j) 0) (In 1) (.bool c) S) S (d8 1 c A):=by
 obtain⟨L,H⟩:=lV 1 c (by decide) (by decide);obtain⟨M,N,O,Q,R,I⟩:=lW 1 c (by decide) (by decide);obtain⟨U,bU,aD,u⟩:=Bc G X h [120,120] (by have:=r.ins;omega) (by omega) ⟨r.eQ,by have:=r.dj;omega⟩;have J:(jc.e5.run [120,120] A).ins.length=A.ins.length+1:=fv A 1 A.dj 0;have V:(jc.e5.run [120,120] A).env.length=A.env.length+1:=rfl;have y:(jc.e5.run [120,120] A).dj=A.dj+1:=rfl;obtain⟨Y,K,aG,B⟩:=Bc G X aD [121,121] (by have:=r.ins;omega) (by omega) ⟨by rw[y];have:=r.eQ;omega,by rw[y];have:=r.dj;omega⟩;have Z:(jc.e5.run [121,121] (jc.e5.run [120,120] A)).ins.length=A.ins.length+2:=by have:=fv (jc.e5.run [120,120] A) 1 (jc.e5.run [120,120] A).dj 0;rw[J] at this;exact this
 have ab:(jc.e5.run [121,121] (jc.e5.run [120,120] A)).env.length=A.env.length+2:=rfl;have b:=aG.lh G X 400 (fB 1 c) (f8 1 c) H (by omega) (fun p aU=>by have:=I p aU;omega) (by have:=r.ins;omega) (by omega);have e:d8 1 c A=dS (f8 1 c) (jc.e5.run [121,121] (jc.e5.run [120,120] A)):=by show dS _ (cC (c6 1 c) A)=_;rw[aw2];rfl
 rw[e];refine .via G X u (.via G X B (.of G X ?_ b));rw[ig,bi,a7 (by decide),ba];refine(dc bU u.aa).trans ?_;refine(dc K B.aa).trans ?_;cases c<;> rfl
end
section
variable{d j:Nat}{S:aq}{A:cj}
def xd:List (List Nat×jc):=(fK 400 ((eu 9 false).take 3)).getD []
def Cf:List (List Nat×jc):=(fK 400 (((eu 9 false).drop 3).take 4)).getD []
def wX:List (List Nat×jc):=(fK 400 ((eu 15 false).drop 7)).getD []
def py:List (List Nat×jc):=(fK 400 ((eu 15 false).take 3)).getD []
theorem aqd:fK 400 ((eu 9 false).take 3)=some xd:=by kernel_rfl
theorem aqe:fK 400 (((eu 9 false).drop 3).take 4)=some Cf:=by kernel_rfl
theorem aiP:fK 400 ((eu 15 false).take 3)=some py:=by kernel_rfl
theorem aiQ:fK 400 ((eu 15 false).drop 7)=some wX:=by kernel_rfl
theorem d9:c6 9 false=xd++(Cf++c6 8 false):=by kernel_rfl
theorem d15:c6 15 false=py++(c6 8 false++wX):=by kernel_rfl
end
section
variable{d j:Nat}{S:aq}{A:cj}
theorem hL.part(h:hL d j S A)(dK:List (List Nat×List Nat))(D:List (List Nat×jc))(r:fK 400 dK=some D)(br:dK.length≤20)(u:∀p∈dK,p.2.length<1000∧p.2≠[105,110]){n:Nat}(bl:e1 D≤200)(y:D.length≤20)(e:dv A (200+n) 60)(he:A.env.length+20<10000):
  ∃b4,hL d j b4 (cC D A)∧eM d j S b4∧∀k:a1,(aH au G X).ar S k 110 [ai.ak S.aa (.ref (.g d j) 0),ai.ak S.aa (.aW 1 (dV dK) .exact)]=k (.cT []) b4:=
 h.dK G X 400 dK D r (by omega) (fun p aU=>by have:=u p aU;exact⟨by omega,this.2⟩) ⟨by have:=e.ins;omega,by have:=e.roots;omega,e.eQ,by have:=e.dj;omega⟩ (by omega)
end
section
variable(gH v2:ai)(S:aq)
theorem avb:f82 (aH au G X) gH (.int .i64 9) v2 S=(aH au G X).ar S (fun _ s=>(aH au G X).ar s (fun _ s=>(aH au G X).ar s (fun e s=>(aH au G X).ar s (fun _ s=>(aH au G X).ar s (fun h s=>(aH au G X).ar s (fun v s=>(aH au G X).aB false [some v] s) 108 [ai.ak s.aa gH,ai.ak s.aa h]) 132 []) 110 [ai.ak s.aa gH,ai.ak s.aa e]) 131 []) 110 [ai.ak s.aa gH,ai.ak s.aa (.aW 1 (dV (((eu 9 false).drop 3).take 4)) .exact)]) 110 [ai.ak S.aa gH,ai.ak S.aa (.aW 1 (dV ((eu 9 false).take 3)) .exact)]:=by rw[ig];simp -implicitDefEqProofs only[bi,fI,fH,Int.reduceEq,dk,c9,ba,bc];rfl
theorem aqf:f82 (aH au G X) gH (.int .i64 15) v2 S=(aH au G X).ar S (fun _ s=>(aH au G X).ar s (fun e s=>(aH au G X).ar s (fun _ s=>(aH au G X).ar s (fun _ s=>(aH au G X).ar s (fun v s=>(aH au G X).aB false [some v] s) 108 [ai.ak s.aa gH,ai.ak s.aa (.aW 1 (strs (fB 15 false)) .exact)]) 110 [ai.ak s.aa gH,ai.ak s.aa (.aW 1 (dV ((eu 15 false).drop 7)) .exact)]) 110 [ai.ak s.aa gH,ai.ak s.aa e]) 131 []) 110 [ai.ak S.aa gH,ai.ak S.aa (.aW 1 (dV ((eu 15 false).take 3)) .exact)]:=by rw[ig];simp only[bi,fI,fH,Int.reduceEq,dk,c9,ba,bc];rfl
end
section
variable{d j:Nat}{S:aq}{A:cj}
theorem dv.le{n m e r:Nat}(h:dv A n m)(bX:e≤n)(hm:r≤m):dv A e r:=⟨by have:=h.ins;omega,by have:=h.roots;omega,h.eQ,by have:=h.dj;omega⟩
theorem dv.next{n m e r a b:Nat}{D:List (List Nat×jc)}(h:dv A n m)(bl:e1 D≤a)(br:D.length≤b)(bX:a+e≤n)(hm:b+r≤m):dv (cC D A) e r:=dv.run D A (h.le (by omega) (by omega))
theorem awk:(e1 xd≤100∧e1 Cf≤100∧e1 (c6 8 false)≤100∧e1 py≤100∧e1 wX≤100)∧(xd.length≤10∧Cf.length≤10∧(c6 8 false).length≤10∧py.length≤10∧wX.length≤10):=by decide +kernel
theorem aw3:f8 9 false=f8 8 false:=by kernel_rfl
theorem avc(c:Bool)(r:dv A 500 100)(he:A.env.length<1000)(S:aq)(h:hL d j S A):pD G X d j (f82 (aH au G X) (.ref (.g d j) 0) (In 9) (.bool c) S) S (d8 9 c A):=by
 obtain⟨⟨s1,s2,B,ac,ad⟩,H,I,J,ae,af⟩:=awk;obtain⟨ag,aD,K,L⟩:=h.part G X ((eu 9 false).take 3) xd aqd (by decide +kernel) (by decide +kernel) (n:=0) (by omega) (by omega) (r.le (by omega) (by omega)) (by omega);have u:dv (cC xd A) 400 90:=r.next s1 H (by decide) (by decide);have ah:=f9 xd A;obtain⟨M,aG,N,O⟩:=aD.part G X (((eu 9 false).drop 3).take 4) Cf aqe (by decide +kernel) (by decide +kernel) (n:=0) (by omega) (by omega) (u.le (by omega) (by omega)) (by omega);have y:dv (cC Cf (cC xd A)) 300 80:=u.next s2 I (by decide) (by decide);have ai:=f9 Cf (cC xd A);obtain⟨Q,R⟩:=lV 8 false (by decide) (by decide);obtain⟨aj,ak,al,am,an,U⟩:=lW 8 false (by decide) (by decide);obtain⟨V,bz,Y,Z⟩:=aG.part G X (eu 8 false) (c6 8 false) Q (by decide +kernel) (by decide +kernel) (n:=0) (by omega) (by omega) (y.le (by omega) (by omega)) (by omega);have aa:dv (cC (c6 8 false) (cC Cf (cC xd A))) 200 70:=y.next B J (by decide) (by decide);have ao:=f9 (c6 8 false) (cC Cf (cC xd A));have b:=bz.lh G X 400 (fB 8 false) (f8 8 false) R (by omega) (fun p aU=>by have:=U p aU;omega) (by have:=aa.ins;omega) (by omega);have e:d8 9 c A=d8 9 false A:=by cases c<;> rfl
 have ab:d8 9 false A=dS (f8 8 false) (cC (c6 8 false) (cC Cf (cC xd A))):=by show dS (f8 9 false) (cC (c6 9 false) A)=_;rw[d9,jT,jT,aw3]
 rw[e,ab];refine .of G X (avb G X (.ref (.g d j) 0) (.bool c) S) (.via G X K (.via G X N (.via G X Y (.of G X ?_ b))));refine(L _).trans ((O _).trans ((aK (Bg G X M)).trans ((Z _).trans (aK (MI G X V)))))
theorem aqg(c:Bool)(r:dv A 500 100)(he:A.env.length<1000)(S:aq)(h:hL d j S A):pD G X d j (f82 (aH au G X) (.ref (.g d j) 0) (In 15) (.bool c) S) S (d8 15 c A):=by
 obtain⟨⟨s1,s2,H,I,J⟩,ad,ae,K,L,M⟩:=awk;obtain⟨N,aD,O,Q⟩:=h.part G X ((eu 15 false).take 3) py aiP (by decide +kernel) (by decide +kernel) (n:=0) (by omega) (by omega) (r.le (by omega) (by omega)) (by omega);have u:dv (cC py A) 400 90:=r.next I L (by decide) (by decide);have af:=f9 py A;obtain⟨R,y⟩:=lV 8 false (by decide) (by decide);obtain⟨ag,aG,U,V⟩:=aD.part G X (eu 8 false) (c6 8 false) R (by decide +kernel) (by decide +kernel) (n:=0) (by omega) (by omega) (u.le (by omega) (by omega)) (by omega);have B:dv (cC (c6 8 false) (cC py A)) 300 80:=u.next H K (by decide) (by decide);have ah:=f9 (c6 8 false) (cC py A);obtain⟨ai,bz,Y,Z⟩:=aG.part G X ((eu 15 false).drop 7) wX aiQ (by decide +kernel) (by decide +kernel) (n:=0) (by omega) (by omega) (B.le (by omega) (by omega)) (by omega);have aa:dv (cC wX (cC (c6 8 false) (cC py A))) 200 70:=B.next J M (by decide) (by decide);have aj:=f9 wX (cC (c6 8 false) (cC py A));obtain⟨_,y⟩:=lV 15 false (by decide) (by decide);obtain⟨ak,al,am,an,ao,ab⟩:=lW 15 false (by decide) (by decide);have b:=bz.lh G X 400 (fB 15 false) (f8 15 false) y (by omega) (fun p aU=>by have:=ab p aU;omega) (by have:=aa.ins;omega) (by omega);have e:d8 15 c A=d8 15 false A:=by cases c<;> rfl
 have ac:d8 15 false A=dS (f8 15 false) (cC wX (cC (c6 8 false) (cC py A))):=by show dS (f8 15 false) (cC (c6 15 false) A)=_;rw[d15,jT,jT]
 rw[e,ac];refine .of G X (aqf G X (.ref (.g d j) 0) (.bool c) S) (.via G X O (.via G X U (.via G X Y (.of G X ?_ b))));refine(Q _).trans ((aK (Bg G X N)).trans ((V _).trans (Z _)))
theorem aqh(op:Nat)(c:Bool)(r:1≤op)(u:op≤16)(e:dv A 500 100)(he:A.env.length<1000)(h:hL d j S A):
  ∃b4,az au G X 82 [.ref (.g d j) 0,In op,.bool c] S=.ok (dx (d8 op c A).2 (eR (d8 op c A).2)) b4∧hL d j b4 (d8 op c A).1∧eM d j S b4:=by
 refine ap6 G X op c h (fun S h=>?_);have a9:op=1∨op=2∨op=3∨op=4∨op=5∨op=6∨op=7∨op=8∨op=9∨op=10∨op=11∨op=12∨op=13∨op=14∨op=15∨op=16:=by omega
 rcases a9 with rfl |rfl |rfl |rfl |rfl |rfl |rfl |rfl |rfl |rfl |rfl |rfl |rfl |rfl |rfl |rfl
 ·exact ava G X c e he S h
 ·exact au6 G X c e he S h
 ·exact au7 G X c e he S h
 ·exact au8 G X c e he S h
 ·exact au3 G X c e he S h
 ·exact au4 G X c e he S h
 ·exact au5 G X c e he S h
 ·exact au9 G X c e he S h
 ·exact avc G X c e he S h
 ·exact ap7 G X c e he S h
 ·exact ap8 G X c e he S h
 ·exact aqb G X c e he S h
 ·exact ap9 G X c e he S h
 ·exact aqa G X c e he S h
 ·exact aqg G X c e he S h
 ·exact aqc G X c e he S h
end
structure Fy (S:aq) (g1 g2:cd) (n m:Nat):Prop where
 a:gW S g1 n
 b:gW S g2 m
 pw:∀t:Nat,g1=.bQ (.l t)→g2≠.bQ (.l t)
theorem Fy.swap{S:aq}{g1 g2:cd}{n m:Nat}(h:Fy S g1 g2 n m):Fy S g2 g1 m n:=⟨h.b,h.a,fun t e r=>h.pw t r e⟩
theorem Fy.app{s S:aq}{es:List ai}{g1 g2:cd}{m bytes:Nat}(v:ai)(h:Fy S g1 g2 es.length m)(H:Child s S)(a9:v.cells.all ai.dZ=true)(I:(es.length+1)*bytes≤1099511627776):
  ∃g' b4,Fy b4 g' g2 (es.length+1) m∧Child s b4∧∀k:a1,(aH au G X).cn S k 1 bytes (some (.l 0)) (.aW 1 es g1) (.aW 1 [v] .exact)=k (.aW 1 (es++[v]) g') b4:=by
 obtain⟨g',b4,gw,hj,J,K,B,L⟩:=qv G X (S:=S) (q:=1) (bytes:=bytes) (es:=es) (new:=[v]) (g:=g1) (g2:=.exact) h.a (by simp) I (by simpa using a9) (fun a e=>by cases e);refine⟨g',b4,⟨gw,B.grow h.b (fun j e r=>h.pw j r e),fun t e r=>?_⟩,B.child H,L⟩;by_cases bX:g1=.nil
 ·have M:=K bX;rw[M] at e;injection e with e
  injection e with e
  rcases h.b.inv with⟨y,_⟩|⟨u,y,_,N⟩
  ·rw[y] at r;cases r
  ·rw[y] at r;injection r with r
   injection r with r
   have:=(bZ.1 N).1;omega
 ·rw[J bX] at e;exact h.pw t e r
def nz(l:List aO)(x:aO)(as:List Int):List Nat:=ds (decide (x.op=4)) (as.map (eT l))
theorem Rs(l:List aO)(x:aO)(as:List Int)(a:Int):nz l x (as++[a])=nz l x as++[if x.op=4 then 1 else eT l a]:=by unfold nz ds;by_cases h:x.op=4<;> simp [h]
theorem vu(l:List aO)(x:aO)(as:List Int):(nz l x as).length=as.length:=by unfold nz ds;split<;> simp
section
variable{d j:Nat}{s S:aq}{A:cj}
theorem hL.head(h:hL d j S A)(v1 v2:ai):∃b4,hL d j b4 {A with env:=[]}∧eM d j S b4∧f47 (aH au G X) (.ref (.g d j) 0) v1 v2 S=qQ (aH au G X) (.ref (.g d j) 0) v1 v2 (.aW 1 [] .nil) (.aW 1 [] .nil) (In 0) b4:=by
 obtain⟨src,n,h⟩:=h;obtain⟨ck,cm,b5,oe,pq,c,T⟩:=h.c;have J:=(bZ.1 c).1;have bq:=fun F=>cv h.fd F
 let K:=ef A ck cm b5 oe pq src n
 let H:=K.set 4 (.aW 1 [] .nil)
 let I:=(S.cA d).set j (.cells H)
 have s1:=fun k:a1=>jR (T:=au) (G:=G) (X:=X) (k:=k) h.fd c (o:=0+4) (v:=.aW 1 [] .nil) (by simp [ef]) rfl rfl rfl (.inl rfl)
 have L:((S.bH d I).cA d)[j]? =some (.cells H):=by rw[bq];simp [I,J]
 have s2:=fun k:a1=>jR (T:=au) (G:=G) (X:=X) (k:=k) (h.fd.put d I) L (o:=0+5) (v:=.aW 1 [] .nil) (by simp [H,K,ef]) rfl rfl rfl (.inl rfl)
 rw[bq,gr] at s2;have kQ:(I.set j (.cells (H.set (0+5) (ai.ak S.aa (.aW 1 [] .nil)))))=(S.cA d).set j (.cells (ef {A with env:=[]} ck cm b5 .nil .nil src n)):=by show((S.cA d).set j _).set j _=_;rw[List.set_set];rfl
 refine⟨S.bH d ((S.cA d).set j (.cells (ef {A with env:=[]} ck cm b5 .nil .nil src n))),⟨src,n,h.fd.put _ _,⟨ck,cm,b5,.nil,.nil,by rw[bq];simp [J],?_⟩,h.l,h.b⟩,⟨⟨_,rfl⟩,?_⟩,?_⟩
 ·rw[bq];have M:lJ (S.cA d) d [(ck,A.ins.length),(cm,A.aF.length),(b5,A.roots.length),(.nil,0),(.nil,0)]:=by
   refine⟨fun k p aU=>?_,fun a b p x3 y aU r u e B=>?_⟩
   ·match k,aU with
    |0,aU=>exact T.b5 0 p aU
    |1,aU=>exact T.b5 1 p aU
    |2,aU=>exact T.b5 2 p aU
    |3,aU=>injection aU with aU;subst aU;exact .inl ⟨rfl,rfl⟩
    |4,aU=>injection aU with aU;subst aU;exact .inl ⟨rfl,rfl⟩
    |n+5,aU=>simp at aU
   ·match a,b,aU,r with
    |3,_,aU,_=>injection aU with aU;subst aU;cases e
    |4,_,aU,_=>injection aU with aU;subst aU;cases e
    |_,3,_,r=>injection r with r;subst r;cases B
    |_,4,_,r=>injection r with r;subst r;cases B
    |n+5,_,aU,_=>simp at aU
    |_,n+5,_,r=>simp at r
    |0,0,_,_=>exact y rfl
    |1,1,_,_=>exact y rfl
    |2,2,_,_=>exact y rfl
    |0,1,aU,r=>exact T.pw 0 1 p x3 y aU r u e B
    |0,2,aU,r=>exact T.pw 0 2 p x3 y aU r u e B
    |1,0,aU,r=>exact T.pw 1 0 p x3 y aU r u e B
    |1,2,aU,r=>exact T.pw 1 2 p x3 y aU r u e B
    |2,0,aU,r=>exact T.pw 2 0 p x3 y aU r u e B
    |2,1,aU,r=>exact T.pw 2 1 p x3 y aU r u e B
  exact M.set c _
 ·rw[bq];exact⟨fun i cs bk N=>by rw[ew (Ne.symm N)];exact bk,by rw[List.length_set];exact aX _⟩
 ·rw[apz,a3,aA];refine(s1 _).trans ?_;rw[a3,aA];refine(show _=_ from s2 _).trans ?_;exact congrArg (fun F=>qQ (aH au G X) (.ref (.g d j) 0) v1 v2 (.aW 1 [] .nil) (.aW 1 [] .nil) (In 0) (S.bH d F)) kQ
end
section
variable(l:List aO)(g:cd)(bD:∀a,g≠.bQ a)(br:l.length<9223372036854775806)(b6:∀o,o∈l→mh o)(od:dy l=0)
include bD br b6 od
theorem Rt{d j:Nat}{A:cj}(x:aO)(i:Nat)(bk:l[i]? =some x)(u9:∀v∈A.aF,∀a,v.2≠.bQ a)(jw:x.args.length<100)(U:∀a∈x.args,0≤a∧a<(l.length:Int)∧a.toNat<A.aF.length):
  ∀(rest pre:List Int) (s S:aq) (jb gt:cd),x.args=pre++rest→hL d j s {A with env:=[]}→Child s S→Fy S jb gt pre.length pre.length→
  ∃b4 e y,qQ (aH au G X) (.ref (.g d j) 0) (bP l g) (In i) (.aW 1 ((a4 A.aF pre).map bA) jb) (.aW 1 ((nz l x pre).map In) gt) (In pre.length) S=tO (aH au G X) (.ref (.g d j) 0) (bP l g) (In i) (.aW 1 ((a4 A.aF x.args).map bA) e) (.aW 1 ((nz l x x.args).map In) y) b4∧Child s b4:=by
 have V:(l.map aO.enc)[i]? =some x.enc:=by rw[fw,bk];rfl
 have r:=fun S k=>ic G X S k 12 _ g .i64 i _ V
 have B:=fun S k=>show(aH au G X).ag S k 2 (.bM (ai.cells x.enc))=k (.bM ((ai.cells x.enc).drop 2)) S from rfl
 have Y:=fun S k=>show(aH au G X).ag S k 1 (.bM (ai.cells x.enc))=k (.bM ((ai.cells x.enc).drop 1)) S from rfl
 have H:=fun S k=>show(aH au G X).aj S k none (.bM ((ai.cells x.enc).drop 2))=k (dx x.args x.g0) S from rfl
 have kz:=fun S k=>show(aH au G X).aj S k none (.bM ((ai.cells x.enc).drop 1))=k (I x.op) S from rfl
 intro rest
 induction rest with
 |nil=>intro pre s S jb gt aU h u dL;rw[gf] at aU;subst aU;refine⟨S,jb,gt,?_,u⟩;rw[At,r,B,H,bg,b2,be,aM (by omega),bc]
 |cons a rest Z=>
  intro pre s S jb gt aU h u dL;obtain⟨aa,av,ab⟩:=U a (by rw[aU];simp);obtain⟨n,rfl⟩:=Int.eq_ofNat_of_zero_le aa;have aw:pre.length<x.args.length:=by rw[aU];simp
  have g1:(x.args.map I)[pre.length]? =some (I (n:Int)):=by rw[aU];simp
  have i1:=fun S k=>ic G X S k 1 (x.args.map I) x.g0 .i64 pre.length _ g1
  have ac:=fun S k=>show(aH au G X).aj S k none (.bM (ai.cells (I (n:Int))))=k (I (n:Int)) S from rfl
  have bX:n<A.aF.length:=by simpa using ab
  obtain⟨src,m,K⟩:=h;have L:=K.child u;obtain⟨ck,cm,b5,oe,pq,c,T⟩:=L.c;have g2:(A.aF.map bA)[n]? =some (bA (A.aF[n])):=by simp [bX]
  have i2:=fun S k=>ic G X S k 1 (A.aF.map bA) cm .i64 n _ g2
  have ad:=fun S k=>show(aH au G X).aj S k none (.bM (ai.cells (bA (A.aF[n]))))=k (bA (A.aF[n])) S from rfl
  have ae:=fun S k=>fJ G X S k pre.length (by omega)
  have af:fS l (n:Int)=0:=by unfold fS;rw[if_neg (by simp [od]),if_neg (by omega)]
  have ah:=fun(k:a1)=>AV G X k L.fd c (o:=0+0+2) (c:=.aW 1 (A.aF.map bA) cm) rfl
  have hi:(a4 A.aF pre).length=pre.length:=by simp [a4]
  obtain⟨e,J,M,ak,al⟩:=Fy.app G X (s:=s) (S:=S) (es:=(a4 A.aF pre).map bA) (g1:=jb) (g2:=gt) (m:=pre.length) (bytes:=24) (bA (A.aF[n])) (by rw[b2,hi];exact dL) u rfl (by rw[b2,hi];omega);rw[b2,hi] at M
  let t:Nat:=if x.op=4 then 1 else eT l (n:Int)
  obtain⟨y,am,N,an,ao⟩:=Fy.app G X (s:=s) (S:=J) (es:=(nz l x pre).map In) (g1:=gt) (g2:=e) (m:=pre.length+1) (bytes:=8) (In t) (by rw[b2,vu];exact M.swap) ak rfl (by rw[b2,vu];omega);rw[b2,vu] at N;have xb:=ZR G X l g bD br b6 (n:Int) J;rw[if_pos af] at xb;have ap:I (dg (l.getD (n:Int).toNat default).op)=In (eT l (n:Int)):=by unfold eT;rw[In,po]
  rw[ap] at xb;have ar:a4 A.aF (pre++[(n:Int)])=a4 A.aF pre++[A.aF[n]]:=by simp [a4,List.getD,bX]
  obtain⟨O,Q,R,as,bz⟩:=Z (pre++[(n:Int)]) s am e y (by rw[aU];simp) ⟨src,m,K⟩ an (by rw[dm];exact N.swap);refine⟨O,Q,R,?_,bz⟩;have fin:xI (aH au G X) (.ref (.g d j) 0) (bP l g) (In i) (.aW 1 ((a4 A.aF pre).map bA++[bA A.aF[n]]) e) (.aW 1 ((nz l x pre).map In) gt) (In pre.length) (In t) J=tO (aH au G X) (.ref (.g d j) 0) (bP l g) (In i) (.aW 1 ((a4 A.aF x.args).map bA) Q) (.aW 1 ((nz l x x.args).map In) R) O:=by rw[OV,l8];refine(ao _).trans ?_;rw[OU,ae,←as,ar,Rs,dm,List.map_append,List.map_append];rfl
  rw[At,r,B,H,bg,b2,be,a7 (by omega),ba,OW,r,B,H,i1,ac,a3,aA,aA,ah,i2,ad,qY G X _ (u9 _ (h4 bX))];refine(al _).trans ?_;rw[du l bD];refine(aK xb).trans ?_;rw[hv,hx,r,Y,kz,bi,←fin];by_cases cz:x.op=4
  ·rw[a7 cz,ba,show t=1 from if_pos cz];rfl
  ·rw[aM cz,bc,show t=eT l (n:Int) from if_neg cz]
end
structure qA (l:List aO) (x:aO) (A:cj):Prop where
 ty:∀t∈stepT l x,t=1∨t=2∨t=3
 two:x.op=5→x.args.map (eT l)=[1,1]
 len:∀v∈A.aF,v.1.length≤7
theorem aiR{s S:aq}(h:Child s S):(aH au G X).aB false [] S=.ok (.cT []) s:=by obtain⟨aD,aG⟩:=h;show oy false [] S=_;unfold oy;simp only[ha,cond_false,q7,aD,aG]
theorem uJ(tail:List Nat):∀(h:List (List Nat)) (r:List Int) (e:aa1),(hz tail h r e).length≤e.length+r.length
 |[],r,e=>by rw[hz];omega;intros;simp_all
 |_::_,[],e=>by rw[hz];omega;intros;simp_all
 |n::h,r::u,e=>by
  rw[hz]
  have:=uJ tail h u ((n++tail,r)::e);simp only[c0] at *;omega
theorem rO(many:Nat→Nat):∀(ts:List Nat) (vs:List (List Int)) (seen:Nat→Nat) (e:aa1),(∀v∈vs,v.length≤7)→(pk many seen ts vs e).length≤e.length+7*vs.length
 |[],vs,seen,e,_=>by rw[pk];omega;intros;simp_all
 |_::_,[],seen,e,_=>by rw[pk];omega;intros;simp_all
 |t::ts,v::vs,seen,e,h=>by rw[pk];have aD:=rO many ts vs (hq seen t) (hz (if 1<many t then[48+hq seen t t] else[]) (hy t) v e) (fun u hu=>h u (by simp [hu]));have aG:=uJ (if 1<many t then[48+hq seen t t] else[]) (hy t) v e;have bz:=h v (by simp);simp only[c0];omega
theorem qA.rows{l:List aO}{x:aO}{A:cj}(h:qA l x A):∀r∈gu A.aF x,r.1.length≤7:=by
 have cL:∀n:Nat,(A.aF.getD n ([],.nil)).1.length≤7:=fun n=>by
  by_cases bX:n<A.aF.length
  ·have:A.aF.getD n ([],.nil)=A.aF[n]:=by simp [List.getD,bX]
   rw[this];exact h.len _ (h4 bX)
  ·have:A.aF.getD n ([],.nil)=([],.nil):=by simp [List.getD,bX]
   rw[this];exact Nat.zero_le _
 have aD:∀r∈a4 A.aF x.args,r.1.length≤7:=fun r aQ=>by unfold a4 at aQ;simp only[List.mem_map] at aQ;obtain⟨a,_,rfl⟩:=aQ;exact cL _
 have aG:∀n:Nat,((a4 A.aF x.args).getD n ([],.nil)).1.length≤7:=fun n=>by
  by_cases bX:n<(a4 A.aF x.args).length
  ·have:(a4 A.aF x.args).getD n ([],.nil)=(a4 A.aF x.args)[n]:=by simp [List.getD,bX]
   rw[this];exact aD _ (h4 bX)
  ·have:(a4 A.aF x.args).getD n ([],.nil)=([],.nil):=by simp [List.getD,bX]
   rw[this];exact Nat.zero_le _
 intro r aQ;unfold gu at aQ;split at aQ
 ·simp only[List.mem_cons,mc,or_false] at aQ;rcases aQ with rfl |rfl |rfl
  ·exact aG 0
  ·exact aG 0
  ·exact aG 1
 ·exact aD r aQ
section
variable(l:List aO)(g:cd){d j:Nat}{s S:aq}{A:cj}
theorem Ru(x:aO)(i:Nat)(bk:l[i]? =some x)(aT:ks l x A)(aQ:qA l x A)(jb gt:cd)(S:aq):
  ∃Q R,tO (aH au G X) (.ref (.g d j) 0) (bP l g) (In i) (.aW 1 ((a4 A.aF x.args).map bA) jb) (.aW 1 ((nz l x x.args).map In) gt) S=tN (aH au G X) (.ref (.g d j) 0) (bP l g) (In i) (.aW 1 ((gu A.aF x).map bA) Q) (.aW 1 ((ds (decide (x.op=4)) (stepT l x)).map In) R) S:=by
 have U:(l.map aO.enc)[i]? =some x.enc:=by rw[fw,bk];rfl
 have L:=fun S k=>ic G X S k 12 _ g .i64 i _ U
 have M:=fun S k=>show(aH au G X).ag S k 1 (.bM (ai.cells x.enc))=k (.bM ((ai.cells x.enc).drop 1)) S from rfl
 have kz:=fun S k=>show(aH au G X).aj S k none (.bM ((ai.cells x.enc).drop 1))=k (I x.op) S from rfl
 by_cases h:x.op=5
 ·have aG:=aT.two h;have hi:(a4 A.aF x.args).length=2:=by simp [a4,aG]
  obtain⟨e,y,B⟩:∃a b,a4 A.aF x.args=[a,b]:=by
   match aQ:a4 A.aF x.args with
   |[a,b]=>exact⟨a,b,rfl⟩
   |[]=>rw[aQ] at hi;simp at hi
   |[a]=>rw[aQ] at hi;simp at hi
   |a::b::c::r=>rw[aQ] at hi;simp at hi
  have bG:∀v∈a4 A.aF x.args,∀a,v.2≠.bQ a:=fun v bG a=>by
   simp only[a4,List.mem_map] at bG;obtain⟨q,dQ,rfl⟩:=bG;obtain⟨_,_,N⟩:=aT.args q dQ
   have:A.aF.getD q.toNat ([],.nil)=A.aF[q.toNat]:=by simp [List.getD,N]
   rw[this];exact aT.qJ _ (h4 N) a
  have H:gu A.aF x=[e,e,y]:=by unfold gu;rw[if_pos h,B];rfl
  have J:ds (decide (x.op=4)) (stepT l x)=[1,1,1]:=by unfold stepT ds;rw[if_pos h,aM (by omega),if_neg (by decide),aQ.two h];rfl
  have i0:=fun S k=>ic G X S k 1 ((a4 A.aF x.args).map bA) jb .i64 0 (bA e) (by rw[B];rfl)
  have i1:=fun S k=>ic G X S k 1 ((a4 A.aF x.args).map bA) jb .i64 1 (bA y) (by rw[B];rfl)
  have K:=fun(S:aq) (k:a1) (v:List Int×cd)=>show(aH au G X).aj S k none (.bM (ai.cells (bA v)))=k (bA v) S from rfl
  have O:∀a,e.2≠.bQ a:=bG e (by rw[B];simp);have V:∀a,y.2≠.bQ a:=bG y (by rw[B];simp);have eB:∀(S:aq) (k:a1),(aH au G X).av S k 1 [bA e,bA e,bA y]=k (.aW 1 [bA e,bA e,bA y] .exact) S:=fun S k=>by
   refine iY 1 _ ?_ rfl;exact nw [e,e,y] (fun u hu=>by
    simp only[List.mem_cons,mc,or_false] at hu;rcases hu with rfl |rfl |rfl
    ·exact O
    ·exact O
    ·exact V)
  have Y:∀(S:aq) (k:a1),(aH au G X).av S k 1 [(.int .i64 1),(.int .i64 1),(.int .i64 1)]=k (.aW 1 (([1,1,1]:List Nat).map In) .exact) S:=fun S k=>rfl
  refine⟨.exact,.exact,?_⟩;rw[As,L,M,kz,bi,a7 h,ba];refine(i0 _ _).trans ?_;rw[K];refine(i0 _ _).trans ?_;rw[K];refine(i1 _ _).trans ?_;rw[K,eB,Y,H,J];rfl
 ·have H:gu A.aF x=a4 A.aF x.args:=by unfold gu;rw[if_neg h]
  have J:ds (decide (x.op=4)) (stepT l x)=nz l x x.args:=by unfold stepT nz;rw[if_neg h]
  refine⟨jb,gt,?_⟩;rw[As,L,M,kz,bi,aM h,bc,H,J]
theorem aiS(ts:List Nat)(gt:cd)(K:a1)(S:aq)(J:ts.length<100):(aH au G X).aY S (fun h s=>(aH au G X).ah s (fun e s=>(aH au G X).ae e true (fun k=>k (.aW 1 (ts.map In) gt) s) s (fun r s=>(aH au G X).ae e true (fun k=>(aH au G X).aZ s k 1 r (.int .i64 0)) s (fun u s=>(aH au G X).ae e true (fun k=>(aH au G X).aj s k none u) s (fun y s=>(aH au G X).ae e true (fun k=>(aH au G X).ah s k (al .eql y (.int .i64 3))) s (fun B s=>(aH au G X).a2 s (fun H s=>K H s) e B (.bool false)))))) (al .gtr h (.int .i64 0))) false (.aW 1 (ts.map In) gt)=K (.bool (kA ts)) S:=by
 rw[bg,b2,ee];cases ts with
 |nil=>rw[show(decide ((0:Int)<(([]:List Nat).length:Int)))=false from rfl];simp only[fh,df];rfl
 |cons t ts=>
  have i0:=fun S k=>ic G X S k 1 ((t::ts).map In) gt .i64 0 (In t) rfl
  have I:=fun S k=>show(aH au G X).aj S k none (.bM (ai.cells (In t)))=k (In t) S from rfl
  rw[a7 (by simp)];simp only[dP,cR];refine(i0 _ _).trans ?_;simp only[I,bi];congr 2;unfold kA;simp;omega
end
section
variable(l:List aO)(g:cd){d j:Nat}{s S:aq}{A:cj}
theorem aa8(l:List aO)(x:aO):nz l x []=[]:=by unfold nz ds;split<;> rfl
theorem aqU(c:Bool)(A:cj):d8 4 c A=d8 4 false A:=by cases c<;> rfl
theorem Rv(x:aO)(i:Nat)(bk:l[i]? =some x)(aT:ks l x A)(aQ:qA l x A)(jb gt:cd)(h:hL d j s {A with env:=[]})(H:Child s S):
  ∃s',tN (aH au G X) (.ref (.g d j) 0) (bP l g) (In i) (.aW 1 ((gu A.aF x).map bA) jb) (.aW 1 ((ds (decide (x.op=4)) (stepT l x)).map In) gt) S=.ok (.cT []) s'∧hL d j s' (lH l x A)∧eM d j s s':=by
 have Y:(l.map aO.enc)[i]? =some x.enc:=by rw[fw,bk];rfl
 have Z:=fun S k=>ic G X S k 12 _ g .i64 i _ Y
 have ab:=fun S k=>show(aH au G X).ag S k 1 (.bM (ai.cells x.enc))=k (.bM ((ai.cells x.enc).drop 1)) S from rfl
 have kz:=fun S k=>show(aH au G X).aj S k none (.bM ((ai.cells x.enc).drop 1))=k (I x.op) S from rfl
 obtain⟨n,bX⟩:=Int.eq_ofNat_of_zero_le (show 0≤x.op by have:=aT.aiz;omega);have ac:1≤n:=by have:=aT.aiz;omega
 have ad:n≤16:=by have:=aT.auO;omega
 have ae:x.op.toNat=n:=by rw[bX];rfl
 let ts:=ds (decide (x.op=4)) (stepT l x)
 have ay:ts.length=(stepT l x).length:=by show(ds _ _).length=_;unfold ds;split<;> simp
 have aB:=AZ l x A.aF aT.two;have jw:(stepT l x).length<9:=by
  unfold stepT
  have:=aT.Dj;split<;> simp <;> omega
 have af:∀t∈ts,t=1∨t=2∨t=3:=by
  show∀t∈ds _ _,_;unfold ds;split
  ·intro t cB;simp only[List.mem_map] at cB;obtain⟨_,_,rfl⟩:=cB;exact .inl rfl
  ·exact aQ.ty
 obtain⟨src,m,J⟩:=h;have ah:=J.child H;obtain⟨K,bU,aD,L⟩:=ZS G X (s:=S) (d:=d) (j:=j) (A:=A) (gu A.aF x) (jb.ak S.aa) (gt.ak S.aa) ts (by omega) (by omega) af (fun r hF=>by have:=aQ.rows r hF;omega) ⟨src,m,ah⟩;have bo:hL d j K (iJ l x A):=aD;have j0:(iJ l x A).env.length<1000:=by
  have:=rO (jW ts fun _=>0) ts ((gu A.aF x).map Prod.fst) (fun _=>0) [] (fun v bG=>by simp only[List.mem_map] at bG;obtain⟨r,hF,rfl⟩:=bG;exact aQ.rows r hF)
  show(qw ts ((gu A.aF x).map Prod.fst)).length<1000;unfold qw;rw[b2] at this;simp only[ek] at this;omega
 have al:dv (iJ l x A) 500 100:=⟨by have:=aT.ins;show A.ins.length+500<_;omega,by have:=aT.roots;show A.roots.length+100<_;omega,aT.CV,aT.dj⟩;obtain⟨u,O,aG,M⟩:=aqh G X n (kA ts) ac ad al j0 bo;have ku:d8 n (kA ts) (iJ l x A)=fL l x A:=by
  unfold fL;rw[ae];by_cases cz:x.op=4
  ·have am:n=4:=by omega
   subst am;exact(aqU _ _).trans (aqU _ _).symm
  ·have:ts=stepT l x:=by show ds _ _=_;unfold ds;simp [cz]
   rw[this]
 rw[ku] at O aG
 let Q:=fL l x A
 obtain⟨R,oh,y⟩:=aG;obtain⟨ck,cm,b5,oe,pq,c,T⟩:=y.c;have an:Q.1.aF=A.aF:=by have ao:=nx (f8 x.op.toNat (kA (stepT l x))) (cC (c6 x.op.toNat (kA (stepT l x))) (iJ l x A));have d1:=gv (c6 x.op.toNat (kA (stepT l x))) (iJ l x A);exact ao.1.trans d1.1
 have aC:=aT.MW;have cQ:d≠u.aa:=by rw[M.aa,L.aa];exact Child.ne H J.fd
 have ap:(bA (Q.2,eR Q.2)).cells.all ai.dZ=true:=rfl;obtain⟨B,g',U,V,x2,pw⟩:=oM G X (S:=u) (j:=j) (k:=1) (o:=0+0+2) (q:=1) (bytes:=24) (es:=Q.1.aF.map bA) (new:=[bA (Q.2,eR Q.2)]) (g:=cm) (g2:=.exact) y.fd cQ c T (by simp [Q]) (by simp [ef]) (by simp) (by rw[b2,an];simp;omega) (by simpa using ap) (fun a e=>by cases e);have N:(u.bH d B).cA d=B:=cv y.fd B;have aq:Q.1.aF.map bA++[bA (Q.2,eR Q.2)]=(lH l x A).aF.map bA:=by show _=(Q.1.aF++[(Q.2,eR Q.2)]).map bA;rw[List.map_append];rfl
 have el:(lH l x A).aF.length=Q.1.aF.length+1:=by show(Q.1.aF++[(Q.2,eR Q.2)]).length=_;rw[dm];rfl
 rw[aq] at V;rw[b2] at U;have ar:i6 d j (u.bH d B) (lH l x A) R oh:=⟨y.fd.put _ _,⟨ck,g',b5,oe,pq,by rw[N];exact V,by rw[N,el];exact U⟩,y.l,y.b⟩;have as:eM d j u (u.bH d B):=⟨⟨B,rfl⟩,by rw[N];exact x2⟩;obtain⟨s',av,_,aw,eB⟩:=eM.child J H ((L.trans M).trans as) ar;refine⟨s',?_,⟨R,oh,eB⟩,aw⟩;have ax:az au G X 82 [.ref (.g d j) 0,I x.op,.bool (kA ts)] K=.ok (dx Q.2 (eR Q.2)) u:=by rw[bX];exact O
 rw[OX];refine(dc bU L.aa).trans ?_;refine(aiS G X ts gt _ K (by omega)).trans ?_;rw[Z,ab,kz];refine(dc ax M.aa).trans ?_;rw[a3,aA,aA];refine(gF y.fd c (o:=0+0+2) (c:=.aW 1 (Q.1.aF.map bA) cm) rfl).trans ?_;refine(qY G X (Q.2,eR Q.2) (qz _)).trans ?_;refine(pw _).trans ?_;exact aiR G X av
end
section
variable(l:List aO)(g:cd)(bD:∀a,g≠.bQ a)(br:l.length<9223372036854775806)(b6:∀o,o∈l→mh o)(od:dy l=0)
include bD br b6 od
theorem aqi{d j:Nat}{s:aq}{A:cj}(x:aO)(i:Nat)(bk:l[i]? =some x)(aT:ks l x A)(aQ:qA l x A)(h:hL d j s A):
  ∃s',az au G X 47 [.ref (.g d j) 0,bP l g,In i] s=.ok (.cT []) s'∧hL d j s' (lH l x A)∧eM d j s s':=by
 obtain⟨src,n,r⟩:=h;have cL:hL d j s.af A:=⟨src,n,r.af⟩;obtain⟨B,⟨V,h5,H⟩,I,bU⟩:=cL.head G X (bP l g) (In i);obtain⟨s1,J,Y,K,u⟩:=eM.child r (Child.af s) I H;obtain⟨L,jb,gt,y,M⟩:=Rt G X l g bD br b6 od x i bk aT.qJ (by have:=aT.Dj;omega) aT.args x.args [] s1 B .nil .nil rfl ⟨_,_,u⟩ J ⟨.nil,.nil,fun t e=>by cases e⟩;rw[aa8] at y;obtain⟨N,O,Q⟩:=Ru G X l g x i bk aT aQ jb gt L (d:=d) (j:=j);obtain⟨s',R,cz,U⟩:=Rv G X l g x i bk aT aQ N O ⟨_,_,u⟩ M;exact⟨s',by rw[aaE,bU];exact y.trans (Q.trans R),cz,K.trans U⟩
end
theorem aa9{l pre rest:List aO}{x:aO}{A:cj}(br:l=pre++x::rest)(hw:jG [] l=true)(J:Inv l pre A):qA l x A:=by
 have y:=qZ pre [] x rest (by rw[←br];exact hw);rw[List.nil_append] at y;unfold wf at y;simp only[bL,ij] at y;obtain⟨⟨⟨aa,H⟩,ab⟩,M,ac⟩:=y;have I:∀(k:Nat) (a:Int),x.args[k]? =some a→∃w,(h9 x.op)[k]? =some w∧∃o,o∈pre∧eT l a=(dg o.op).toNat∧acc w (dg o.op)=true:=by
  intro k a cg;have r:k<(h9 x.op).length:=by rw[H];exact(bZ.1 cg).1
  have b6:=qx pre _ _ k _ a M (dM r) cg;unfold n9 at b6;simp only[bL,ij] at b6;obtain⟨⟨ml,N⟩,K⟩:=b6;obtain⟨o,O,B,u⟩:=aiA br ml N;rw[O] at K;exact⟨_,dM r,o,u,B,K⟩
 have iq:∀o∈pre,(dg o.op).toNat=1∨(dg o.op).toNat=2∨(dg o.op).toNat=3:=fun o Q=>by
  have aD:=uG br hw o Q;rcases l9 o.op with h|h|h|h
  ·exact absurd h aD
  ·rw[h];exact .inl rfl
  ·rw[h];exact .inr (.inl rfl)
  ·rw[h];exact .inr (.inr rfl)
 refine⟨?_,fun R=>?_,fun v bG=>?_⟩
 ·have:∀t∈x.args.map (eT l),t=1∨t=2∨t=3:=fun t cB=>by
   simp only[List.mem_map] at cB;obtain⟨a,U,rfl⟩:=cB;obtain⟨k,cg⟩:=List.getElem?_of_mem U;obtain⟨w,_,o,B,u,e⟩:=I k a cg;rw[u];exact iq o B
  intro t cB;unfold stepT at cB;split at cB
  ·rw[List.mem_append] at cB;rcases cB with cB|cB
   ·exact this t cB
   ·simp at cB;exact .inl cB
  ·exact this t cB
 ·have V:h9 x.op=[1,1]:=by rw[R];rfl
  rw[V] at H I;have one:∀(k:Nat) (a:Int),x.args[k]? =some a→eT l a=1:=fun k a cg=>by
   obtain⟨w,Y,o,B,u,e⟩:=I k a cg;have Z:w=1:=by
    match k,Y with
    |0,h=>injection h with h;exact h.symm
    |1,h=>injection h with h;exact h.symm
    |n+2,h=>simp at h
   subst Z;rw[u];rcases l9 o.op with h|h|h|h
   ·rw[h] at e;exact absurd e (by decide)
   ·rw[h];rfl
   ·rw[h] at e;exact absurd e (by decide)
   ·rw[h] at e;exact absurd e (by decide)
  match L:x.args,H with
  |[a,b],_=>simp [one 0 a (by rw[L];rfl),one 1 b (by rw[L];rfl)]
 ·obtain⟨k,cg⟩:=List.getElem?_of_mem bG;have r:=(bZ.1 cg).1;rw[J.MW] at r
  have:=J.len k pre[k] v (dM r) cg;rw[this];rcases iq pre[k] (h4 r) with h|h|h<;> rw[h]<;> decide
theorem Rw{l:List aO}(hw:jG [] l=true)(e:l.length≤40)(p q:List aO)(x:aO)(br:l=p++x::q):qA l x (lg l p kP):=by have:=uH hw e p [] (x::q) kP (by rw[br];rfl) (aiD l);rw[List.nil_append] at this;exact aa9 br hw this
section
variable(l:List aO)(g:cd)(bD:∀a,g≠.bQ a)(br:l.length<9223372036854775806)(b6:∀o,o∈l→mh o)(od:dy l=0)
include bD br b6 od
theorem Rx{d j:Nat}(v2:ai):∀(rest pre:List aO) (S:aq) (A:cj),d=S.aa→l=pre++rest→hL d j S A→(∀(p q:List aO) (x:aO),rest=p++x::q→ks l x (lg l p A)∧qA l x (lg l p A))→
  ∃b4,xH (aH au G X) (bP l g) v2 (.ref (.l j) 0) (In pre.length) S=ES (aH au G X) v2 (.ref (.l j) 0) b4∧hL d j b4 (lg l rest A)∧eM d j S b4:=by
 intro rest
 induction rest with
 |nil=>
  intro pre S A bI aU h e;rw[gf] at aU;subst aU;refine⟨S,?_,h,?_⟩
  ·rw[Ar,bg,b2,be,aM (by omega),bc]
  ·obtain⟨_,_,h⟩:=h;exact .refl h.fd
 |cons x rest u=>
  intro pre S A bI aU h e;have L:pre.length<l.length:=by rw[aU];simp
  obtain⟨aT,aQ⟩:=e [] rest x rfl;have B:=fun S k=>fJ G X S k pre.length (by omega)
  obtain⟨H,bU,aD,r⟩:=aqi G X l g bD br b6 od x pre.length (by rw[aU];simp) aT aQ h;obtain⟨I,J,aG,K⟩:=u (pre++[x]) H (lH l x A) (by rw[r.aa];exact bI) (by rw[aU];simp) aD (fun p q y dQ=>e (x::p) q y (by rw[dQ];rfl));refine⟨I,?_,aG,r.trans K⟩;subst bI;rw[Ar,bg,b2,be,a7 (by omega),ba,OR,du l bD];refine(dc bU r.aa).trans ?_;rw[OQ,B,←J,dm];rfl
end
theorem Bh{S:aq}{F:List bd}{sz:Nat}{es:List ai}{g:cd}(bD:ct F S.aa g es.length)(aQ:ai.bj es=true):dT S (.aW sz es g)=some (.aW sz es (eR es)):=by
 rcases bD with⟨rfl,h⟩|⟨t,rfl,bX,h⟩
 ·have:es=[]:=kU h;subst this;rfl
 ·cases es with
  |nil=>simp at bX
  |cons e es=>show(if S.aa<S.aa then _ else if ai.bj (e::es)=true then some (ai.aW sz (e::es) .any) else none)=_;rw[if_neg (Nat.lt_irrefl _),if_pos aQ];rfl
theorem lJ.aw4{F:List bd}{d a b c:Nat}{g1 g2 h:cd}(B:ct F d g1 a)(H:ct F d g2 b)(I:ct F d h c)(r:apart d g1 g2)(u:apart d g1 h)(y:apart d g2 h):lJ F d [(g1,a),(g2,b),(h,c)]:=by
 refine⟨fun k p aU=>?_,fun k jh p x3 cg aU e=>?_⟩
 ·match k,aU with
  |0,aU=>injection aU with aU;subst aU;exact B
  |1,aU=>injection aU with aU;subst aU;exact H
  |2,aU=>injection aU with aU;subst aU;exact I
  |n+3,aU=>simp at aU
 ·match k,jh,aU,e with
  |0,0,_,_=>exact absurd rfl cg
  |1,1,_,_=>exact absurd rfl cg
  |2,2,_,_=>exact absurd rfl cg
  |0,1,aU,e=>injection aU with aU;injection e with e;subst aU;subst e;exact r
  |0,2,aU,e=>injection aU with aU;injection e with e;subst aU;subst e;exact u
  |1,2,aU,e=>injection aU with aU;injection e with e;subst aU;subst e;exact y
  |1,0,aU,e=>injection aU with aU;injection e with e;subst aU;subst e;exact r.symm
  |2,0,aU,e=>injection aU with aU;injection e with e;subst aU;subst e;exact u.symm
  |2,1,aU,e=>injection aU with aU;injection e with e;subst aU;subst e;exact y.symm
  |n+3,_,aU,_=>simp at aU
  |_,n+3,_,e=>simp at e
theorem aiT(l:List aO)(g:cd)(bD:∀a,g≠.bQ a)(br:l.length<9223372036854775806)(b6:∀o,o∈l→mh o)(S:aq)(cL:dy l=0):
  ∃dD ck cm b5,az au G X 11 [bP l g] S=.ok (.cT [aiE (gM l) ck cm b5,I 0]) {S with own:=dD}∧lJ dD S.aa [(ck,(gM l).ins.length),(cm,(gM l).aF.length),(b5,(gM l).roots.length)]∧(∀(i:Nat) (cs:List ai),S.own[i]? =some (.cells cs)→dD[i]? =some (.cells cs))∧S.own.length≤dD.length:=by
 let h:aq:=S.new (.cells cl)
 have aU:=du l bD h.aa;have c:=x0 G X l g bD h br b6;have am:h.own[S.own.length]? =some (.cells cl):=by simp [h,aq.new]
 have an:∀(i:Nat) (cs:List ai),S.own[i]? =some (.cells cs)→h.own[i]? =some (.cells cs):=fun i cs bk=>(ev (bZ.1 bk).1).trans bk
 obtain⟨hw,L⟩:=mX cL
 let F:List bd:=S.own++[.cells cl]++[.cells (kP.cells .c4 .nil .nil .nil)]
 let j:=S.own.length+1
 have M:F[j]? =some (.cells (kP.cells .c4 .nil .nil .nil)):=by simp [F,j]
 have N:F[S.own.length]? =some (.cells cl):=by simp [F]
 have xZ:∀(d:Nat) (g':cd),apart d .nil g':=fun d g' t e=>by cases e
 have O:iy F S.aa j kP .c4 .nil .nil .nil:=⟨M,.inl ⟨rfl,rfl⟩,.inl ⟨rfl,rfl⟩,.inl ⟨rfl,rfl⟩,xZ _ _,xZ _ _,xZ _ _⟩;obtain⟨dD,cO,ck,cm,b5,bU,y,J,ao,gw⟩:=Rk G X l g bD br b6 cL (j:=j) (i2:=S.own.length) (by omega) cl S l [] F kP .c4 .nil .nil .nil rfl O N (fun p q x Q=>CW hw L p q x Q)
 let A:=gM l
 have H:dD[j]? =some (.cells (A.cells cO ck cm b5)):=y.c;have R:=(bZ.1 H).1;have U:=(bZ.1 J).1
 let B:List ai:=(A.cells cO ck cm b5).set 0 (I A.dj)
 let u:=dD.set j (.cells B)
 have V:u[j]? =some (.cells B):=by simp [u,R]
 have K:u[S.own.length]? =some (.cells cl):=by rw[ew (by omega)];exact J
 let r:=u.set S.own.length (.cells (B.take 4))
 have Y:r[S.own.length]? =some (.cells (B.take 4)):=by simp [r,u,U]
 have Z:=fun(k:a1)=>ii G X (S:={S with own:=dD}) (k:=k) (i:=j) (o:=0+5) (c:=I A.dj) H rfl
 have ab:=fun(k:a1)=>uE G X (S:={S with own:=dD}) (k:=k) (i:=j) (o:=0+0+0) (cs:=A.cells cO ck cm b5) (v:=I A.dj) H (by simp [cj.cells]) rfl rfl rfl
 have ac:=fun(k:a1)=>ma G X (S:={S with own:=u}) (k:=k) (i:=j) (n:=4) V (by simp [B,cj.cells])
 have ad:=fun(k:a1)=>ix (T:=au) (G:=G) (X:=X) (S:={S with own:=u}) (k:=k) (j:=S.own.length) (n:=4) (cs:=cl) (vs:=B.take 4) K rfl rfl rfl
 have ae:=ht (S:={S with own:=r}) (n:=4) Y rfl;have af:lJ dD S.aa [(ck,A.ins.length),(cm,A.aF.length),(b5,A.roots.length)]:=lJ.aw4 y.Bj y.Q1 y.wr y.ai0 y.ai1 y.qJ;refine⟨r,ck,cm,b5,?_,(af.set H _).set K _,fun i cs bk=>?_,?_⟩
 ·rw[CH,Zv,gI];show(aH au G X).ar h _ 42 [ai.ak h.aa (bP l g)]=_;rw[aU];refine(aK c).trans ?_;rw[dC,aM (by simp [cL]),bc,OD];have ag:h.own.length=j:=by simp [h,aq.new,j]
  have ah:∀k:a1,(aH au G X).cH [.int .i64 0,.aW 3 [] .nil,.aW 1 [] .nil,.aW 1 [] .nil,.c4,.int .i64 0] [] h k=k (.agg (kP.cells .c4 .nil .nil .nil)) h:=fun k=>rfl
  have aj:∀k:a1,(aH au G X).hO (.agg (kP.cells .c4 .nil .nil .nil)) h k=k (.ref (.l j) 0) {S with own:=F}:=fun k=>by rw[qG _ rfl,ag];rfl
  rw[ah,aj,bg,b2];refine bU.trans ?_;rw[KP,a3,aA,Z,a3,aA,aA];refine(ab _).trans ?_;rw[a3,aA];refine(ac _).trans ?_;refine(ad _).trans ?_;show(aH au G X).aB true [eF {S with own:=r} (.ref (.l S.own.length) 0) (some 4),some (.int .i64 0)] {S with own:=r}=_;rw[ae];rfl
 ·have al:=(bZ.1 bk).1;have kQ:F[i]? =some (.cells cs):=by
   show(S.own++[_]++[_])[i]? =_;rw[jY,ev al];exact bk
  show r[i]? =_;rw[ew (by omega),ew (by omega)];exact gw i cs kQ (by omega)
 ·show _≤r.length;simp only[r,u,List.length_set]
  have:F.length=S.own.length+2:=by simp [F]
  omega
theorem CX:∀l:List fR,ai.bj (l.map fR.enc)=true
 |[]=>rfl
 |i::l=>by show((fR.enc i).bp&&ai.bj (l.map fR.enc))=true;rw[CX l];rfl
theorem CY{l:List aO}(cL:dy l=0):Inv l l (gM l):=by
 obtain⟨hw,e⟩:=mX cL
 have:=uH hw e l [] [] kP (by simp) (aiD l);rw[List.nil_append] at this;exact this
theorem lJ.avd{F:List bd}{d:Nat}{a b c e f:cd×Nat}(h:lJ F d [a,b,c,e,f]):lJ F d [a,b,c]:=by
 have lift:∀(k:Nat) (p:cd×Nat),([a,b,c]:List (cd×Nat))[k]? =some p→([a,b,c,e,f]:List (cd×Nat))[k]? =some p:=fun k p aU=>by
  match k,aU with
  |0,aU=>exact aU
  |1,aU=>exact aU
  |2,aU=>exact aU
  |n+3,aU=>simp at aU
 exact⟨fun k p aU=>h.b5 k p (lift k p aU),fun k jh p x3 cg aU r=>h.pw k jh p x3 cg (lift k p aU) (lift jh x3 r)⟩
theorem lJ.awl(F:List bd)(d:Nat):lJ F d [(.nil,0),(.nil,0),(.nil,0),(.nil,0),(.nil,0)]:=by
 have r:∀(k:Nat) (p:cd×Nat),([(.nil,0),(.nil,0),(.nil,0),(.nil,0),(.nil,0)]:List (cd×Nat))[k]? =some p→p=(.nil,0):=fun k p cg=>by
  match k,cg with
  |0,h=>injection h with h;exact h.symm
  |1,h=>injection h with h;exact h.symm
  |2,h=>injection h with h;exact h.symm
  |3,h=>injection h with h;exact h.symm
  |4,h=>injection h with h;exact h.symm
  |n+5,h=>simp at h
 exact⟨fun k p cg=>by rw[r k p cg];exact .inl ⟨rfl,rfl⟩,fun a b p x3 y aU B u e H=>by rw[r a p aU] at e;cases e⟩
section
variable(l:List aO)(g:cd)(bD:∀a,g≠.bQ a)(br:l.length<9223372036854775806)(b6:∀o,o∈l→mh o)(S:aq)
include bD br b6
theorem aiU(cL:dy l=0):
  ∃dD ck cm b5,az au G X 12 [bP l g] S=.ok (.cT [aiE (gM l) ck cm b5,I 0]) {S with own:=dD}∧lJ dD S.aa [(ck,(gM l).ins.length),(cm,(gM l).aF.length),(b5,(gM l).roots.length)]∧(∀(i:Nat) (cs:List ai),S.own[i]? =some (.cells cs)→dD[i]? =some (.cells cs))∧S.own.length≤dD.length:=by
 let e:aq:=S.new (.cells cl)
 let i0:=S.own.length
 let j:=S.own.length+1
 let d:=S.aa
 have aU:=du l bD e.aa;have c:=x1 G X l g bD e br b6;obtain⟨hw,M⟩:=mX cL
 let F:List bd:=S.own++[.cells cl]++[.cells (ef kP .nil .nil .nil .nil .nil [] 0)]
 let h:aq:={S with own:=F}
 have N:h.aa=d:=rfl;have J:fi h d:=⟨by have:=h.lG;omega,aX _⟩;have K:h.cA d=F:=gY h;have R:F[j]? =some (.cells (ef kP .nil .nil .nil .nil .nil [] 0)):=by simp [F,j]
 have U:F[i0]? =some (.cells cl):=by simp [F,i0]
 have V:hL d j h kP:=⟨[],0,J,⟨.nil,.nil,.nil,.nil,.nil,by rw[K];exact R,by rw[K];exact lJ.awl _ _⟩,aX _,by decide⟩;obtain⟨ap,bU,bz,O⟩:=Rx G X l g bD br b6 cL (d:=d) (j:=j) (.ref (.l i0) 0) l [] h kP N.symm rfl V (fun p q x Q=>⟨CW hw M p q x Q,Rw hw M p q x Q⟩)
 let A:=gM l
 obtain⟨y,rfl⟩:=O.ez;have Y:h.bH d y= {S with own:=y}:=by unfold aq.bH;rw[if_pos N.symm]
 have x2:=O.x2;rw[cv J,K] at x2;obtain⟨src,n,bz⟩:=bz;obtain⟨ck,cm,b5,oe,pq,H,T⟩:=bz.c;rw[cv J] at H T;have Z:y[i0]? =some (.cells cl):=x2.bf i0 cl U (by omega);have ab:=(bZ.1 H).1
 let B:List ai:=(ef A ck cm b5 oe pq src n).set 0 (I A.dj)
 let u:=y.set j (.cells B)
 have ac:u[j]? =some (.cells B):=by simp [u,ab]
 have L:u[i0]? =some (.cells cl):=by rw[ew (by omega)];exact Z
 let r:=u.set i0 (.cells (B.take 4))
 have ad:r[i0]? =some (.cells (B.take 4)):=by have:i0<u.length:=(bZ.1 L).1;simp [r,this]
 have ae:=fun(k:a1)=>ii G X (S:={S with own:=y}) (k:=k) (i:=j) (o:=0+8) (c:=I A.dj) H rfl
 have af:=fun(k:a1)=>uE G X (S:={S with own:=y}) (k:=k) (i:=j) (o:=0+0+0) (cs:=ef A ck cm b5 oe pq src n) (v:=I A.dj) H (by simp [ef]) rfl rfl rfl
 have ag:=fun(k:a1)=>ma G X (S:={S with own:=u}) (k:=k) (i:=j) (n:=4) ac (by simp [B,ef])
 have ah:=fun(k:a1)=>ix (T:=au) (G:=G) (X:=X) (S:={S with own:=u}) (k:=k) (j:=i0) (n:=4) (cs:=cl) (vs:=B.take 4) L rfl rfl rfl
 have aj:=ht (S:={S with own:=r}) (n:=4) ad rfl;refine⟨r,ck,cm,b5,?_,((lJ.avd T).set H _).set L _,fun i cs bk=>?_,?_⟩
 ·rw[CI,Zw,gI];show(aH au G X).ar e _ 14 [ai.ak e.aa (bP l g)]=_;rw[aU];refine(aK c).trans ?_;rw[dC,aM (by simp [cL]),bc,OT];have al:e.own.length=j:=by simp [e,aq.new,j]
  have am:∀k:a1,(aH au G X).cH [.int .i64 0,.aW 3 [] .nil,.aW 1 [] .nil,.aW 1 [] .nil,.aW 1 [] .nil,.aW 1 [] .nil,.str [],.int .i64 0,.int .i64 0] [] e k=k (.agg (ef kP .nil .nil .nil .nil .nil [] 0)) e:=fun k=>rfl
  have an:∀k:a1,(aH au G X).hO (.agg (ef kP .nil .nil .nil .nil .nil [] 0)) e k=k (.ref (.l j) 0) h:=fun k=>by rw[qG _ rfl,al];rfl
  rw[am,an];rw[Y] at bU;refine(show _=_ from bU).trans ?_;rw[OS,a3,aA];refine(ae _).trans ?_;rw[a3,aA,aA];refine(af _).trans ?_;rw[a3,aA];refine(ag _).trans ?_;refine(ah _).trans ?_;show(aH au G X).aB true [eF {S with own:=r} (.ref (.l i0) 0) (some 4),some (.int .i64 0)] {S with own:=r}=_;rw[aj];rfl
 ·have ao:=(bZ.1 bk).1;have kQ:F[i]? =some (.cells cs):=by
   show(S.own++[_]++[_])[i]? =_;rw[jY,ev ao];exact bk
  show r[i]? =_;rw[ew (by omega),ew (by omega)];exact x2.bf i cs kQ (by omega)
 ·show _≤r.length;simp only[r,u,List.length_set]
  have:=x2.len
  have:F.length=S.own.length+2:=by simp [F]
  omega
theorem aiV(cL:dy l≠0):az au G X 12 [bP l g] S=.ok (.cT [.agg cl,I (dy l)]) (S.new (.cells cl)):=by
 let e:aq:=S.new (.cells cl)
 have aU:=du l bD e.aa;have c:=x1 G X l g bD e br b6;have h:e.own[S.own.length]? =some (.cells cl):=by simp [e,aq.new]
 have r:=fun(k:a1)=>kx (T:=au) (G:=G) (X:=X) (s:=S) (k:=k) 4 cl cl rfl rfl rfl
 have u:=ht (S:=e) (n:=4) h rfl;rw[CI,Zw,gI];show(aH au G X).ar e _ 14 [ai.ak e.aa (bP l g)]=_;rw[aU];refine(aK c).trans ?_;rw[dC,a7 cL,ba];have y:∀k:a1,(aH au G X).cH [.int .i64 0,.aW 3 [] .nil,.aW 1 [] .nil,.aW 1 [] .nil] [] e k=k (.agg cl) e:=fun k=>rfl
 rw[y];refine(r _).trans ?_;show(aH au G X).aB true [eF e (.ref (.l S.own.length) 0) (some 4),some (I (dy l))] e=_;rw[u];rfl
theorem aiW(cL:dy l≠0):az au G X 11 [bP l g] S=.ok (.cT [.agg cl,I (dy l)]) (S.new (.cells cl)):=by
 let e:aq:=S.new (.cells cl)
 have aU:=du l bD e.aa;have c:=x0 G X l g bD e br b6;have h:e.own[S.own.length]? =some (.cells cl):=by simp [e,aq.new]
 have r:=fun(k:a1)=>kx (T:=au) (G:=G) (X:=X) (s:=S) (k:=k) 4 cl cl rfl rfl rfl
 have u:=ht (S:=e) (n:=4) h rfl;rw[CH,Zv,gI];show(aH au G X).ar e _ 42 [ai.ak e.aa (bP l g)]=_;rw[aU];refine(aK c).trans ?_;rw[dC,a7 cL,ba];have y:∀k:a1,(aH au G X).cH [.int .i64 0,.aW 3 [] .nil,.aW 1 [] .nil,.aW 1 [] .nil] [] e k=k (.agg cl) e:=fun k=>rfl
 rw[y];refine(r _).trans ?_;show(aH au G X).aB true [eF e (.ref (.l S.own.length) 0) (some 4),some (I (dy l))] e=_;rw[u];rfl
end
theorem aba(a b:List Int)(g0 B:cd)(s:aq)(br:a.length=b.length)(L:a.length≤9223372036854775807):∀(n i:Nat),i+n=a.length→∀S,Child s S→
  xP (aH au G X) (.aW 1 (a.map I) g0) (.aW 1 (b.map I) B) (.int .i64 (i:Int)) S=.ok (.bool (decide (a.drop i=b.drop i))) s:=by
 intro n
 induction n with
 |zero=>
  intro i bk S e;rw[Ay];have h:¬((i:Int)<(a.length:Int)):=by omega
  simp only[↓cq,↓bg,↓be,↓reduceIte,b2,h,c9,co,Pd,eH e];rw[hl (by omega),hl (by omega)];simp
 |succ n H=>
  intro i bk S e;rw[Ay];have h:(i:Int)<(a.length:Int):=by omega
  have r:i<a.length:=by omega
  have u:i<b.length:=by omega
  have J:(a.map I)[i]? =some (I a[i]):=by simp [r]
  have K:(b.map I)[i]? =some (I b[i]):=by simp [u]
  have hw:IntKind.wrap .i64 ((i:Int)+1)=((i+1:Nat):Int):=Ni i (by omega);simp only[↓cq,↓bg,↓bu,↓pW,↓dC,↓be,ij,ite_not,↓reduceIte,b2,h,dk,Pc,Pb,iw _ _ _ _ _ _ J,iw _ _ _ _ _ _ K,ai.cells,eH e,hw,H (i+1) (by omega) S e];rw[gl r,gl u];simp only[List.cons.injEq];by_cases y:a[i]=b[i]
  ·simp only[y,true_and,↓reduceIte]
  ·simp only[y,false_and,c9,↓reduceIte]
theorem Fz(a b:List Int)(g0 r:cd)(s:aq)(u:a.length≤9223372036854775807):az au G X 32 [dx a g0,dx b r] s=.ok (.bool (decide (a=b))) s:=by
 rw[aaI,apC];simp only[dx,↓cq,↓bg,↓dC,↓bE,ij,ite_not,b2,Pe];by_cases h:a.length=b.length
 ·have:=aba G X a b g0 r s h u a.length 0 (by omega) s.af (.af s);simp only[Int.natCast_zero,bT] at this;simp [h,this]
 ·have aD:¬(a.length:Int)=(b.length:Int):=by omega
  have aG:¬a=b:=fun e=>h (by rw[e])
  simp [aD,aG]
theorem ave{S:aq}{k:a1}(x:fR):(aH au G X).ah S k ((pA (.agg [.int .i64,.int .i64,.int .i64]) x.enc x.enc).map fun b=>.bool (bif true then !b else b))=k (.bool false) S:=by
 have:pA (.agg [.int .i64,.int .i64,.int .i64]) x.enc x.enc=some true:=by obtain⟨a,b,c⟩:=x;show(bif true&&true then iM [I a,I b,I c] [I a,I b,I c] else none)=some true;simp [iM]
 rw[this];rfl
theorem aqj{S:aq}{k:a1}(a:Int):(aH au G X).ah S k (al .neq (.int .i64 a) (.int .i64 a))=k (.bool false) S:=by rw[dC,aM (by simp)]
section
variable(e5:Int)(ins:List fR)(ck dh:cd)(aF:List (List Int×cd))(cm q6:cd)(roots:List Int)(b5 iz:cd)
abbrev km(e5:Int)(ins:List fR)(ck:cd)(aF:List (List Int×cd))(cm:cd)(roots:List Int)(b5:cd):List ai:=[I e5,.aW 3 (ins.map fR.enc) ck,.aW 1 (aF.map bA) cm,dx roots b5]
theorem Ry(bG:aF.length<9223372036854775807)(r:∀v∈aF,v.1.length≤9223372036854775807)(aQ:roots.length≤9223372036854775807)(s:aq):∀n i:Nat,i+n=aF.length→uc (aH au G X) (.bM (km e5 ins ck aF cm roots b5)) (.bM (km e5 ins dh aF q6 roots iz)) (.int .i64 (i:Int)) s.af=.ok (.bool true) s:=by
 intro n
 induction n with
 |zero=>intro i bk;have c:=Fz G X roots roots (b5.ak s.af.aa) (iz.ak s.af.aa) s.af aQ;rw[a7 rfl] at c;rw[Aw,c3,km,dt,dt,bT,bu,bg,b2,be,aM (by omega),bc,O8,c3,dt,dt,dt,bT,bu,c3,km,dt,dt,dt,bT,bu];refine(aK c).trans ?_;exact bE _
 |succ n u=>
  intro i bk;have e:i<aF.length:=by omega
  have c:=Fz G X aF[i].1 aF[i].1 (aF[i].2.ak s.af.aa) (aF[i].2.ak s.af.aa) s.af (r _ (h4 e));rw[a7 rfl] at c;have y:(aF.map bA)[i]? =some (bA aF[i]):=by simp [e]
  have i1:=fun(S:aq) (k:a1) (g:cd)=>ic G X S k 1 (aF.map bA) g .i64 i _ y
  have h:=fun(S:aq) (k:a1) (v:List Int×cd)=>show(aH au G X).aj S k none (.bM (ai.cells (bA v)))=k (bA v) S from rfl
  have B:=fun S k=>fJ G X S k i (by omega)
  rw[Aw,c3,km,dt,dt,bT,bu,bg,b2,be,a7 (by omega),ba,O7,c3,dt,dt,bT,bu,i1,h,c3,km,dt,dt,bT,bu,i1,h];refine(aK c).trans ?_;rw[eY,eV,bc,O6,B];exact u (i+1) (by omega)
theorem Rz(bk:ins.length<9223372036854775807)(S:aq):∀n i:Nat,i+n=ins.length→xO (aH au G X) (.bM (km e5 ins ck aF cm roots b5)) (.bM (km e5 ins dh aF q6 roots iz)) (.int .i64 (i:Int)) S=uc (aH au G X) (.bM (km e5 ins ck aF cm roots b5)) (.bM (km e5 ins dh aF q6 roots iz)) (.int .i64 0) S:=by
 intro n
 induction n with
 |zero=>intro i bk;rw[Ax,c3,km,dt,bT,bu,bg,b2,be,aM (by omega),bc,O9]
 |succ n h=>
  intro i bk;have r:i<ins.length:=by omega
  have u:(ins.map fR.enc)[i]? =some ins[i].enc:=by simp [r]
  have i1:=fun(S:aq) (k:a1) (g:cd)=>ic G X S k 3 (ins.map fR.enc) g .i64 i _ u
  have e:=fun(S:aq) (k:a1) (x:fR)=>show(aH au G X).aj S k (some 3) (.bM (ai.cells x.enc))=k x.enc S from rfl
  have y:=fun S k=>fJ G X S k i (by omega)
  rw[Ax,c3,km,dt,bT,bu,bg,b2,be,a7 (by omega),ba,O5,c3,dt,bT,bu,i1,e,c3,km,dt,bT,bu,i1,e,ave,bc,O4,y];exact h (i+1) (by omega)
theorem aqk(bk:ins.length<9223372036854775807)(bG:aF.length<9223372036854775807)(e:∀v∈aF,v.1.length≤9223372036854775807)(aQ:roots.length≤9223372036854775807)(s:aq):
  az au G X 13 [vq e5 ins ck aF cm roots b5,vq e5 ins dh aF q6 roots iz] s=.ok (.bool true) s:=by
 have h:=Rz G X e5 ins ck dh aF cm q6 roots b5 iz bk s.af ins.length 0 (by omega);have r:=Ry G X e5 ins ck dh aF cm q6 roots b5 iz bG e aQ s aF.length 0 (by omega);rw[aaH,apB];simp only[vq,bx,c3,dt,bT,bu,bg,b2,aqj,de,df,bc,Pa];exact h.trans r
end
theorem abb{l:List aO}(cL:dy l=0):(gM l).ins.length<9223372036854775807∧(gM l).aF.length<9223372036854775807∧(∀v∈(gM l).aF,v.1.length≤9223372036854775807)∧(gM l).roots.length≤9223372036854775807:=by
 obtain⟨hw,r⟩:=mX cL;have e:=CY cL;have aD:=e.ins;have aG:=e.MW;have bz:=e.roots;refine⟨by omega,by omega,fun v bG=>?_,by omega⟩;obtain⟨k,cg⟩:=List.getElem?_of_mem bG;have h:=(bZ.1 cg).1;rw[aG] at h
 have:=e.len k l[k] v (dM h) cg;rw[this];unfold nU;split<;> omega
def j5:Nat→List (List Nat×List Nat)
 |5=>[([101,120],[120,49,32,122,50,32,45,32,120,50,32,122,49]),([101,121],[121,49,32,122,50,32,45,32,121,50,32,122,49]),([102,120],[120,51,32,122,52,32,45,32,120,52,32,122,51]),([102,121],[121,51,32,122,52,32,45,32,121,52,32,122,51]),([118],[122,51,32,122,52]),([119],[122,49,32,122,50])]
 |8=>px 1++px 2++px 3++px 4
 |_=>[]
def h8:Nat→Bool→List (List Nat)
 |1,_=>fB 3 false
 |2,true=>[[117,32,40,120,94,50,32,43,32,121,94,50,41,32,43,32,112,32,120,32,122,32,43,32,113,32,121,32,122,32,43,32,114,32,122,94,50]]
 |2,false=>[[97,32,120,32,43,32,98,32,121,32,43,32,99,32,122]]
 |3,_=>[[97,49,32,98,50,32,45,32,97,50,32,98,49]]
 |4,_=>[[97,49,32,97,50,32,43,32,98,49,32,98,50]]
 |5,_=>[[40,101,120,94,50,32,43,32,101,121,94,50,41,32,118,94,50,32,45,32,40,102,120,94,50,32,43,32,102,121,94,50,41,32,119,94,50]]
 |8,_=>[[115,49,32,40,102,50,32,40,103,51,32,104,52,32,45,32,104,51,32,103,52,41,32,45,32,103,50,32,40,102,51,32,104,52,32,45,32,104,51,32,102,52,41,32,43,32,104,50,32,40,102,51,32,103,52,32,45,32,103,51,32,102,52,41,41,32,45,32,102,49,32,40,115,50,32,40,103,51,32,104,52,32,45,32,104,51,32,103,52,41,32,45,32,103,50,32,40,115,51,32,104,52,32,45,32,104,51,32,115,52,41,32,43,32,104,50,32,40,115,51,32,103,52,32,45,32,103,51,32,115,52,41,41,32,43,32,103,49,32,40,115,50,32,40,102,51,32,104,52,32,45,32,104,51,32,102,52,41,32,45,32,102,50,32,40,115,51,32,104,52,32,45,32,104,51,32,115,52,41,32,43,32,104,50,32,40,115,51,32,102,52,32,45,32,102,51,32,115,52,41,41,32,45,32,104,49,32,40,115,50,32,40,102,51,32,103,52,32,45,32,103,51,32,102,52,41,32,45,32,102,50,32,40,115,51,32,103,52,32,45,32,103,51,32,115,52,41,32,43,32,103,50,32,40,115,51,32,102,52,32,45,32,102,51,32,115,52,41,41]]
 |_,_=>[[120,49,32,40,121,50,32,122,51,32,45,32,122,50,32,121,51,41,32,45,32,121,49,32,40,120,50,32,122,51,32,45,32,122,50,32,120,51,41,32,43,32,122,49,32,40,120,50,32,121,51,32,45,32,121,50,32,120,51,41]]
theorem FA:okF (call .not au G X 60 63 [In 1,.bool false] {own:=[],up:=[],ro:=[]}) (j5 1) (h8 1 false)=true:=by kernel_rfl
theorem ML:okF (call .not au G X 60 63 [In 1,.bool true] {own:=[],up:=[],ro:=[]}) (j5 1) (h8 1 true)=true:=by kernel_rfl
theorem FB:okF (call .not au G X 60 63 [In 2,.bool false] {own:=[],up:=[],ro:=[]}) (j5 2) (h8 2 false)=true:=by kernel_rfl
theorem MM:okF (call .not au G X 60 63 [In 2,.bool true] {own:=[],up:=[],ro:=[]}) (j5 2) (h8 2 true)=true:=by kernel_rfl
theorem FC:okF (call .not au G X 60 63 [In 3,.bool false] {own:=[],up:=[],ro:=[]}) (j5 3) (h8 3 false)=true:=by kernel_rfl
theorem MN:okF (call .not au G X 60 63 [In 3,.bool true] {own:=[],up:=[],ro:=[]}) (j5 3) (h8 3 true)=true:=by kernel_rfl
theorem FD:okF (call .not au G X 60 63 [In 4,.bool false] {own:=[],up:=[],ro:=[]}) (j5 4) (h8 4 false)=true:=by kernel_rfl
theorem MO:okF (call .not au G X 60 63 [In 4,.bool true] {own:=[],up:=[],ro:=[]}) (j5 4) (h8 4 true)=true:=by kernel_rfl
theorem FE:okF (call .not au G X 60 63 [In 5,.bool false] {own:=[],up:=[],ro:=[]}) (j5 5) (h8 5 false)=true:=by kernel_rfl
theorem MP:okF (call .not au G X 60 63 [In 5,.bool true] {own:=[],up:=[],ro:=[]}) (j5 5) (h8 5 true)=true:=by kernel_rfl
theorem FF:okF (call .not au G X 60 63 [In 6,.bool false] {own:=[],up:=[],ro:=[]}) (j5 6) (h8 6 false)=true:=by kernel_rfl
theorem MQ:okF (call .not au G X 60 63 [In 6,.bool true] {own:=[],up:=[],ro:=[]}) (j5 6) (h8 6 true)=true:=by kernel_rfl
theorem FG:okF (call .not au G X 60 63 [In 7,.bool false] {own:=[],up:=[],ro:=[]}) (j5 7) (h8 7 false)=true:=by kernel_rfl
theorem MR:okF (call .not au G X 60 63 [In 7,.bool true] {own:=[],up:=[],ro:=[]}) (j5 7) (h8 7 true)=true:=by kernel_rfl
theorem FH:okF (call .not au G X 60 63 [In 8,.bool false] {own:=[],up:=[],ro:=[]}) (j5 8) (h8 8 false)=true:=by kernel_rfl
theorem MS:okF (call .not au G X 60 63 [In 8,.bool true] {own:=[],up:=[],ro:=[]}) (j5 8) (h8 8 true)=true:=by kernel_rfl
theorem gZ(k:Nat)(c:Bool)(h:okF (call .not au G X 60 63 [In k,.bool c] {own:=[],up:=[],ro:=[]}) (j5 k) (h8 k c)=true):∃g1 g2 s',az au G X 63 [In k,.bool c] {own:=[],up:=[],ro:=[]}=.ok (.agg [.aW 1 (dV (j5 k)) g1,.aW 1 (strs (h8 k c)) g2]) s'∧(ai.agg [.aW 1 (dV (j5 k)) g1,.aW 1 (strs (h8 k c)) g2]).bp=true:=by obtain⟨g1,g2,s',aD,aG⟩:=ZP h;exact⟨g1,g2,s',lC _ _ _ (by intro e;cases e) aD,aG⟩
theorem aql(k:Nat)(c:Bool)(aD:1≤k)(aG:k≤8):∃g1 g2 s',az au G X 63 [In k,.bool c] {own:=[],up:=[],ro:=[]}=.ok (.agg [.aW 1 (dV (j5 k)) g1,.aW 1 (strs (h8 k c)) g2]) s'∧(ai.agg [.aW 1 (dV (j5 k)) g1,.aW 1 (strs (h8 k c)) g2]).bp=true:=by
 have cg:k=1∨k=2∨k=3∨k=4∨k=5∨k=6∨k=7∨k=8:=by omega
 rcases cg with rfl |rfl |rfl |rfl |rfl |rfl |rfl |rfl <;> cases c
 ·exact gZ G X 1 false (FA G X)
 ·exact gZ G X 1 true (ML G X)
 ·exact gZ G X 2 false (FB G X)
 ·exact gZ G X 2 true (MM G X)
 ·exact gZ G X 3 false (FC G X)
 ·exact gZ G X 3 true (MN G X)
 ·exact gZ G X 4 false (FD G X)
 ·exact gZ G X 4 true (MO G X)
 ·exact gZ G X 5 false (FE G X)
 ·exact gZ G X 5 true (MP G X)
 ·exact gZ G X 6 false (FF G X)
 ·exact gZ G X 6 true (MQ G X)
 ·exact gZ G X 7 false (FG G X)
 ·exact gZ G X 7 true (MR G X)
 ·exact gZ G X 8 false (FH G X)
 ·exact gZ G X 8 true (MS G X)
def mb(k:Nat):List (List Nat×jc):=(fK 400 (j5 k)).getD []
def lj(k:Nat)(c:Bool):List g9:=(j3 400 (h8 k c)).getD []
theorem qB(k:Nat)(c:Bool)(aD:1≤k)(aG:k≤8):fK 400 (j5 k)=some (mb k)∧j3 400 (h8 k c)=some (lj k c):=by
 have t:∀k,k<9→1≤k→∀c:Bool,(fK 400 (j5 k)).isSome=true∧(j3 400 (h8 k c)).isSome=true:=by decide +kernel
 obtain⟨t1,t2⟩:=t k (by omega) aD c;unfold mb lj;rw[Option.isSome_iff_exists] at t1 t2;obtain⟨a,e⟩:=t1;obtain⟨b,h⟩:=t2;rw[e,h];exact⟨rfl,rfl⟩
theorem uK(k:Nat)(c:Bool)(aD:1≤k)(aG:k≤8):e1 (mb k)≤200∧j4 (lj k c)≤200∧(j5 k).length≤30∧(h8 k c).length≤7∧(∀p∈j5 k,p.2.length<1000∧p.2≠[105,110])∧(∀p∈h8 k c,p.length<1000)∧(mb k).length≤30:=by
 have t:∀k,k<9→1≤k→∀c:Bool,e1 (mb k)≤200∧j4 (lj k c)≤200∧(j5 k).length≤30∧(h8 k c).length≤7∧(mb k).length≤30:=by decide +kernel
 have u:∀k,k<9→1≤k→∀c:Bool,(∀p∈j5 k,p.2.length<1000)∧(∀p∈j5 k,p.2≠[105,110])∧(∀p∈h8 k c,p.length<1000):=by decide +kernel
 obtain⟨t1,t2,t3,t4,t5⟩:=t k (by omega) aD c;obtain⟨e,h,r⟩:=u k (by omega) aD c;exact⟨t1,t2,t3,t4,fun p aU=>⟨e p aU,h p aU⟩,r,t5⟩
end Go.h6
end
