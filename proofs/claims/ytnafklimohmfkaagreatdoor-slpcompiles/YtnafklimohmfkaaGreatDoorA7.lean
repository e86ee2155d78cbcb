/- What the claim's texts say of a part of the evaluator and of the program's functions: for every argument that they name. -/
import Derived.Test.YtnafklimohmfkaaGreatDoorA6
import Derived.Test.YtnafklimohmfkaaGreatDoorA4
set_option linter.unusedSectionVars false
set_option linter.unusedSimpArgs false
set_option linter.unusedVariables false
section
namespace Go.jY
open Go.Ab Go.iY
variable(G:Nat→AV)(X:Nat→List AV→St→ax)
instance:Inhabited kw:=⟨⟨false,[], .nil⟩⟩
instance:Inhabited aS:=⟨⟨[],0,[], .nil,default,default,default,default,0⟩⟩
def iC(l:List aS)(i:Int):Int:=if fB l≠0 then fB l else if i < 0∨(l.length:Int)≤i then 1 else 0
section
variable(l:List aS)(g:Gr)(hg:∀a,g≠.bJ a)(hl:l.length < 9223372036854775806)(ct:∀o,o∈l→sp o)(i:Int)(s:St)
include hg hl ct
theorem aw2:aJ T1 G X 73 [bQ l g,I i] s= .ok (I (iC l i)) s:=by
 have c:=aN (T:=T1) (G:=G) (X:=X) (s:=s.ai) (k:=fun v7 s=>(PP T1 G X).ak s (fun v9 s=>(PP T1 G X).aH v9 ((PP T1 G X).aI false [some v7] s) (Lc (PP T1 G X) (bQ l g) (I i) s)) (au .neq v7 (.int .i64 0))) (age G X l g hg s.ai hl ct)
 have hp:AV.av s.ai.aa (bQ l g)=bQ l g:=fk l hg _
 rw[ahd,avq,hp]
 refine c.trans ?_
 rw[eO]
 unfold iC
 by_cases h:fB l=0
 ·rw[aT (by simp [h]),bf,if_neg (by simp [h]),V0 _ (aA _ _ _),bb]
  by_cases h1:i < 0
  ·rw[a9 h1,if_pos (.inl h1)]
   simp -implicitDefEqProofs only[eY,c7,be]
   exact b8 _ _
  ·rw[aT h1]
   simp -implicitDefEqProofs only[dA,bt,cw,gQ,dw]
   by_cases h2:(l.length:Int)≤i
   ·rw[a9 h2,be,if_pos (.inr h2)]
    exact b8 _ _
   ·rw[aT h2,bf,if_neg (by omega),VZ _ (aA _ _ _)]
    exact b8 _ _
 ·rw[a9 h,be,if_pos h]
  exact b8 _ _
theorem aps:aJ T1 G X 106 [bQ l g,I i] s= .ok (I (iC l i)) s:=by
 have hp:AV.av s.ai.aa (bQ l g)=bQ l g:=fk l hg _
 rw[V6,amZ,hp]
 refine(aN (agh G X l g hg s.ai hl ct)).trans ?_
 rw[bj]
 unfold iC
 by_cases h:fB l=0
 ·rw[a9 h,if_neg (by simp [h])]
  simp -implicitDefEqProofs only[dP,bb]
  by_cases h1:i < 0
  ·rw[a9 h1,if_pos (.inl h1)]
   simp -implicitDefEqProofs only[eY,c7,be]
   exact b8 _ _
  ·rw[aT h1]
   simp -implicitDefEqProofs only[dA,bt,cw,gQ,dw,c7]
   by_cases h2:(l.length:Int)≤i
   ·rw[a9 h2,be,if_pos (.inr h2)]
    exact b8 _ _
   ·rw[aT h2,bf,if_neg (by omega),Ck _ (aA _ _ _),h]
    exact b8 _ _
 ·rw[aT h,if_pos h]
  simp -implicitDefEqProofs only[fV,eG,dw,bf]
  rw[Ck _ (aA _ _ _)]
  exact b8 _ _
theorem aw3:aJ T1 G X 43 [bQ l g,I i] s= .ok (if iC l i=0 then .cS [I (dQ (l.getD i.toNat default).op),I 0] else .cS [I 0,I (iC l i)]) s:=by
 have hp:=fk l hg s.ai.aa
 rw[ag5,ave,hp]
 refine(aN (aw2 G X l g hg hl ct i s.ai)).trans ?_
 rw[eO]
 by_cases h:iC l i=0
 ·rw[aT (by simp [h]),bf,if_pos h,VD _ (aA _ _ _)]
  have hi:0≤i∧i < (l.length:Int):=by
   unfold iC at h
   split at h
   ·rename_i h2;exact absurd h h2
   ·split at h
    ·cases h
    ·rename_i h3;omega
  obtain⟨n,rfl⟩:=Int.eq_ofNat_of_zero_le hi.1
  have hn:n < l.length:=by omega
  have e1:(l.map aS.enc)[n]? =some (l[n]).enc:=by simp [hn]
  have ix:=fun(k:K1)=>l9 (T:=T1) (G:=G) (X:=X) (s:=s.ai) (k:=k) 12 _ g .i64 n _ e1
  have ld:∀K:K1,(PP T1 G X).aq s.ai K (some 12) (.bO (AV.cells (l[n]).enc))=K (l[n]).enc s.ai:=fun K=>rfl
  have pe:AV.av s.ai.aa (l[n]).enc=(l[n]).enc:=rfl
  rw[ix,ld,pe]
  refine(aN (agb G X (l[n]) s.ai)).trans ?_
  have:l.getD (n:Int).toNat default=l[n]:=by simp [List.getD,hn]
  rw[this]
  exact iB (Child.ai s) _ _ _ _ rfl rfl
 ·rw[a9 h,be,if_neg h]
  exact iB (Child.ai s) _ _ _ _ rfl rfl
theorem aw4:aJ T1 G X 65 [bQ l g,I i] s= .ok (if iC l i=0 then .cS [I (dQ (l.getD i.toNat default).op),I 0] else .cS [I 0,I (iC l i)]) s:=by
 have hp:=fk l hg s.ai.aa
 rw[ag9,avl,hp]
 refine(aN (aps G X l g hg hl ct i s.ai)).trans ?_
 rw[eO]
 by_cases h:iC l i=0
 ·rw[aT (by simp [h]),bf,if_pos h,VP _ (aA _ _ _)]
  have hi:0≤i∧i < (l.length:Int):=by
   unfold iC at h
   split at h
   ·rename_i h2;exact absurd h h2
   ·split at h
    ·cases h
    ·rename_i h3;omega
  obtain⟨n,rfl⟩:=Int.eq_ofNat_of_zero_le hi.1
  have hn:n < l.length:=by omega
  have e1:(l.map aS.enc)[n]? =some (l[n]).enc:=by simp [hn]
  have ix:=fun(k:K1)=>l9 (T:=T1) (G:=G) (X:=X) (s:=s.ai) (k:=k) 12 _ g .i64 n _ e1
  have ld:∀K:K1,(PP T1 G X).aq s.ai K none (.bO (List.drop 1 (AV.cells (l[n]).enc)))=K (I (l[n]).op) s.ai:=fun K=>rfl
  rw[ix,dF,ld]
  refine(aN (aga G X (l[n]).op s.ai)).trans ?_
  have:l.getD (n:Int).toNat default=l[n]:=by simp [List.getD,hn]
  rw[this]
  exact iB (Child.ai s) _ _ _ _ rfl rfl
 ·rw[a9 h,be,if_neg h]
  exact iB (Child.ai s) _ _ _ _ rfl rfl
end
def jU(l:List aS)(a:Int):Nat:=(dQ (l.getD a.toNat default).op).toNat
def bI(aL:List (List Int×Gr))(as:List Int):List (List Int×Gr):=as.map fun a=>aL.getD a.toNat ([], .nil)
def stepT(l:List aS)(x:aS):List Nat:=if x.op=5 then x.args.map (jU l) ++ [1] else x.args.map (jU l)
def gU(aL:List (List Int×Gr))(x:aS):List (List Int×Gr):=
 if x.op=5 then[(bI aL x.args).getD 0 ([], .nil),(bI aL x.args).getD 0 ([], .nil),(bI aL x.args).getD 1 ([], .nil)] else bI aL x.args
def mP(ts:List Nat):Bool:=decide (ts.head?=some 3)
def cT(op:Nat)(c:Bool):List (List Nat×Df):=(gM 400 (eC op c)).getD []
def gH(op:Nat)(c:Bool):List Ex:=(n9 400 (fY op c)).getD []
def j2(l:List aS)(x:aS)(A:cm):cm:={A with env:=G9 (d7 (decide (x.op=4)) (stepT l x)) ((gU A.aL x).map Prod.fst)}
def f5(l:List aS)(x:aS)(A:cm):cm×List Int:=eR (gH x.op.toNat (mP (stepT l x))) (cI (cT x.op.toNat (mP (stepT l x))) (j2 l x A))
def oe(l:List aS)(x:aS)(A:cm):cm:={(f5 l x A).1 with aL:=(f5 l x A).1.aL ++ [((f5 l x A).2,fO (f5 l x A).2)]}
theorem oC(op:Nat)(c:Bool)(h1:1≤op)(h2:op≤16):gM 400 (eC op c)=some (cT op c)∧n9 400 (fY op c)=some (gH op c):=by
 have t:∀op,op < 17→1≤op→∀c:Bool,(gM 400 (eC op c)).isSome=true∧(n9 400 (fY op c)).isSome=true:=by decide +kernel
 obtain⟨t1,t2⟩:=t op (by omega) h1 c
 unfold cT gH
 rw[Option.isSome_iff_exists] at t1 t2
 obtain⟨a,ha⟩:=t1
 obtain⟨b,hb⟩:=t2
 rw[ha,hb]
 exact⟨rfl,rfl⟩
theorem oD(op:Nat)(c:Bool)(h1:1≤op)(h2:op≤16):fJ (cT op c)≤200∧oc (gH op c)≤200∧(eC op c).length≤30∧(fY op c).length≤7∧(∀p∈eC op c,p.2.length < 1000)∧(∀p∈fY op c,p.length < 1000):=by
 have t:∀op,op < 17→1≤op→∀c:Bool,fJ (cT op c)≤200∧oc (gH op c)≤200∧(eC op c).length≤30∧(fY op c).length≤7∧(∀p∈eC op c,p.2.length < 1000)∧(∀p∈fY op c,p.length < 1000):=by decide +kernel
 exact t op (by omega) h1 c
def vI(t:Nat):Nat:=if t=3 then 7 else 3
theorem apt(op:Nat)(c:Bool)(h1:1≤op)(h2:op≤16):(gH op c).length=vI (dQ op).toNat:=by
 have t:∀op:Nat,op < 17→1≤op→∀c:Bool,(gH op c).length=vI (dQ op).toNat:=by decide +kernel
 exact t op (by omega) h1 c
theorem Jh:∀(E:List Ex) (A:cm),(eR E A).2.length=E.length
 | [],A=>rfl
 | e :: l,A=>by rw[eR];simp [Jh l]
theorem ahR(t:Nat)(h:t=1∨t=2∨t=3):(jz t).length=vI t:=by
 rcases h with rfl | rfl | rfl <;> rfl
structure iA (F0 F:List bg):Prop where
 len:F0.length≤F.length
 aK:∀(i:Nat) (o:bg),F0[i]? =some o→F[i]? =some o
theorem iA.refl(F:List bg):iA F F:=⟨Nat.le_refl _,fun _ _ h=>h⟩
def tp(n0:Nat)(F:List bg)(v:AV)(ts:List Nat):Prop:=(v= .sl 1 [] .nil∧ts=[])∨∃t,v= .ck (.l t) 0 ts.length 0 1∧F[t]? =some (.cells (ts.map In))∧0 < ts.length∧n0≤t
structure GrL (n0:Nat) (S:St) (g:Gr) (n:Nat):Prop where
 gr:iX S g n
 lo:∀t:Nat,g=Gr.bJ (.l t)→n0≤t
section
variable{S:St}{F0:List bg}
theorem GrL.app{es:List AV}{g:Gr}{v:AV}{bytes:Nat}(h:GrL F0.length S g es.length)(hE:iA F0 S.own)(hv:v.cells=[v])(hc:v.dU=true)(hb:(es.length+1) * bytes≤1099511627776):
  ∃g' F',GrL F0.length {S with own:=F'} g' (es.length+1)∧iA F0 F'∧(∀(i:Nat) (o:bg),S.own[i]? =some o→(∀n:Nat,o≠bg.tok n)→F'[i]? =some o)∧∀k:K1,(PP T1 G X).cz S k 1 bytes (some (.l 0)) (.sl 1 es g) (.sl 1 [v] .exact)=k (.sl 1 (es ++ [v]) g') {S with own:=F'}:=by
 obtain⟨g',S',k1,k2,k3,k4,k5,k6⟩:=Ai G X (S:=S) (q:=1) (bytes:=bytes) (es:=es) (new:=[v]) (g:=g) (g2:=.exact) h.gr (by simp) hb (by simp [hv,hc]) (fun a e=>by cases e)
 have hS:S'= {S with own:=S'.own}:=by
  obtain⟨o,u,r⟩:=S'
  have:=k5.up;have:=k5.ro
  simp only at *
  subst_vars
  rfl
 have hold:∀(i:Nat) (o:bg),S.own[i]? =some o→(∀n:Nat,o≠bg.tok n)→S'.own[i]? =some o:=fun i o ho hn=>k5.own i o ho (fun e=>by
  rcases h.gr.inv with⟨e1,_⟩ | ⟨t,e1,_,e2⟩
  ·rw[e1] at e;cases e
  ·rw[e1] at e;injection e with e;injection e with e;subst e;rw[e2] at ho;injection ho with ho;exact hn _ ho.symm)
 refine⟨g',S'.own,⟨iX.own k1 rfl,fun t e=>?_⟩,⟨Nat.le_trans hE.len k5.len,fun i o ho=>k5.own i o (hE.aK i o ho) (fun e=>?_)⟩,hold,fun k=>by rw[k6];exact congrArg _ hS⟩
 ·by_cases hn:g= .nil
  ·have:=k4 hn;rw[this] at e;injection e with e;injection e with e;rw[←e];exact hE.len
  ·rw[k3 hn] at e;exact h.lo t e
 ·have:=h.lo i e
  have:=(bZ.1 ho).1
  omega
theorem tp.app{tv:AV}{ts:List Nat}(h:tp F0.length S.own tv ts)(hE:iA F0 S.own)(t:Nat)(hb:ts.length < 1000):
  ∃pL F',tp F0.length F' pL (ts ++ [t])∧iA F0 F'∧(∀(i n:Nat),S.own[i]? =some (.tok n)→F'[i]? =some (.tok n))∧∀k:K1,(PP T1 G X).mL S k 1 8 tv (.sl 1 [In t] .exact)=k pL {S with own:=F'}:=by
 rcases h with⟨rfl,rfl⟩ | ⟨i,rfl,h1,h2,h3⟩
 ·refine⟨.ck (.l S.own.length) 0 1 0 1,S.own ++ [.cells [In t]], .inr ⟨S.own.length,rfl,by simp,by simp,hE.len⟩,⟨by simp;have:=hE.len;omega,fun i o ho=>?_⟩,fun i n hi=>?_,fun k=>?_⟩
  ·rw[eZ (bZ.1 (hE.aK i o ho)).1];exact hE.aK i o ho
  ·rw[eZ (bZ.1 hi).1];exact hi
  ·rfl
 ·have na:=(bZ.1 h1).1
  refine⟨.ck (.l S.own.length) 0 (ts.length+1) 0 1,S.own.set i .gone ++ [.cells (ts.map In ++ [In t])], .inr ⟨S.own.length,by simp,by simp,by simp,hE.len⟩,⟨by simp;have:=hE.len;omega,fun m o ho=>?_⟩,fun m n hm=>?_,fun k=>?_⟩
  ·have hm:=hE.aK m o ho
   have vN:=(bZ.1 hm).1
   have:=(bZ.1 ho).1
   rw[eZ (by simpa using vN),eM (by omega)];exact hm
  ·have vN:=(bZ.1 hm).1
   rw[eZ (by simpa using vN),eM (fun e=>by subst e;rw[h1] at hm;cases hm)];exact hm
  ·show mS (EV G (aJ T1 G X) bX) S k 1 8 (.ck (.l i) 0 ts.length 0 1) (.sl 1 [In t] .exact)=_
   unfold mS
   simp only[show dl S (.sl 1 [In t] .exact)=some (1,[In t]) from rfl,h1]
   have b1:Nat.ble ((ts.length+[In t].length) * 8) 1099511627776=true:=dy (by simp;omega)
   have b2:Nat.beq ts.length 0=false:=by
    cases hh:Nat.beq ts.length 0
    ·rfl
    ·have:=cQ hh;omega
   have b3:Nat.beq (ts.map In).length (ts.length * 1)=true:=by rw[cw,Nat.mul_one];exact Nat.beq_refl _
   rw[b1,b2,b3]
   rfl
end
theorem Ha(op:Int):(((dQ op).toNat:Nat):Int)=dQ op:=by
 have:0≤dQ op:=by unfold dQ;split <;> (try split) <;> (try split) <;> decide
 omega
theorem DB{S:St}{k:K1}(v:List Int×Gr)(h:∀a,v.2≠.bJ a):(PP T1 G X).aF S k 1 [bN v]=k (.sl 1 [bN v] .exact) S:=by
 refine kB 1 _ ?_ rfl
 have:=wQ h 1 (v.1.map I)
 simp only[AV.ba,bN,gp,this,Bool.and_true]
theorem sA{S:St}{k:K1}(n:Int):(PP T1 G X).aF S k 1 [I n]=k (.sl 1 [I n] .exact) S:=rfl
structure qK (F0 F:List bg) (S0:St) (g8:Gr) (n8:Nat) (tv:AV) (ts:List Nat):Prop where
 e:iA F0 F
 g:GrL F0.length {S0 with own:=F} g8 n8
 t:tp F0.length F tv ts
section
variable{F0 F:List bg}{S0:St}{g8:Gr}{tv:AV}{ts:List Nat}{n8:Nat}
theorem qK.app{R:List (List Int×Gr)}(h:qK F0 F S0 g8 R.length tv ts)(v:List Int×Gr)(hv:∀a,v.2≠.bJ a)(t:Nat)(hb:ts.length < 1000)(qj:R.length < 1000):
  ∃F1 nJ F2 pL,qK F0 F2 S0 nJ (R.length+1) pL (ts ++ [t])∧
   (∀k:K1,(PP T1 G X).cz {S0 with own:=F} k 1 24 (some (.l 0)) (.sl 1 (R.map bN) g8) (.sl 1 [bN v] .exact)=k (.sl 1 ((R ++ [v]).map bN) nJ) {S0 with own:=F1})∧
   ∀k:K1,(PP T1 G X).mL {S0 with own:=F1} k 1 8 tv (.sl 1 [In t] .exact)=k pL {S0 with own:=F2}:=by
 have hg:GrL F0.length {S0 with own:=F} g8 (R.map bN).length:=by rw[cw];exact h.g
 obtain⟨nJ,F1,a1,a2,a3,a4⟩:=GrL.app G X (S:={S0 with own:=F}) (F0:=F0) (es:=R.map bN) (g:=g8) (v:=bN v) (bytes:=24) hg h.e rfl rfl (by simp;omega)
 have ht1:tp F0.length F1 tv ts:=by
  rcases h.t with h1 | ⟨i,e1,e2,e3,e4⟩
  ·exact .inl h1
  ·exact .inr ⟨i,e1,a3 i _ e2 (fun n e=>by cases e),e3,e4⟩
 obtain⟨pL,F2,b1,b2,b3,b4⟩:=tp.app G X (S:={S0 with own:=F1}) (F0:=F0) (tv:=tv) (ts:=ts) ht1 a2 t hb
 refine⟨F1,nJ,F2,pL,⟨b2,⟨?_,a1.lo⟩,b1⟩,fun k=>?_,b4⟩
 ·have:=a1.gr
  rw[cw] at this
  cases this with
  | bJ j n hn hj=>exact .bJ j _ hn (b3 j _ hj)
 ·rw[a4,List.map_append];rfl
end
section
variable(l:List aS)(g:Gr)(hg:∀a,g≠.bJ a)(hl:l.length < 9223372036854775806)(ct:∀o,o∈l→sp o)(wX:fB l=0)
include hg hl ct wX
theorem Yg{j:Nat}{A:cm}{mv:AV}{gi gv gr:Gr}(x:aS)(v2 v7 Tt Al Tu:AV)(F0:List bg)(S0:St)(hj:F0[j]? =some (.cells (A.cells mv gi gv gr)))(MY:∀v∈A.aL,∀a,v.2≠.bJ a)(ya:x.args.length < 100)(sY:∀a∈x.args,0≤a∧a < (l.length:Int)∧a.toNat < A.aL.length):
  ∀(rest pre:List Int) (F:List bg) (g8:Gr) (tv:AV),x.args=pre ++ rest→qK F0 F S0 g8 (bI A.aL pre).length tv (pre.map (jU l))→
  ∃F' nJ pL,Dg (PP T1 G X) (bQ l g) v2 (.ref (.l j) 0) v7 (.sl 1 ((bI A.aL pre).map bN) g8) tv Tt Al Tu (gp x.args x.ga) (In x.args.length) (In pre.length) {S0 with own:=F}=De (PP T1 G X) (bQ l g) v2 (.ref (.l j) 0) v7 (.sl 1 ((bI A.aL x.args).map bN) nJ) pL Tt Al Tu {S0 with own:=F'}∧qK F0 F' S0 nJ (bI A.aL x.args).length pL (x.args.map (jU l)):=by
 intro rest
 induction rest with
 | nil=>
  intro pre F g8 tv hp h
  rw[List.append_nil] at hp
  subst hp
  refine⟨F,g8,tv,?_,h⟩
  rw[FJ _ (aA _ _ _),bb,aT (by omega),bf]
 | cons a rest ih=>
  intro pre F g8 tv hp h
  obtain⟨ha0,ha1,ha2⟩:=sY a (by rw[hp];simp)
  obtain⟨n,rfl⟩:=Int.eq_ofNat_of_zero_le ha0
  have tG:pre.length < x.args.length:=by rw[hp];simp
  have g1:(x.args.map I)[pre.length]? =some (I (n:Int)):=by rw[hp];simp
  have i1:=fun(S:St) (k:K1)=>kF G X S k 1 (x.args.map I) x.ga .i64 pre.length _ g1
  have lI:=fun(S:St) (k:K1)=>show(PP T1 G X).aq S k none (.bO (AV.cells (I (n:Int))))=k (I (n:Int)) S from rfl
  have hn:n < A.aL.length:=by simpa using ha2
  have g2:(A.aL.map bN)[n]? =some (bN (A.aL[n])):=by simp [hn]
  have i2:=fun(S:St) (k:K1)=>kF G X S k 1 (A.aL.map bN) gv .i64 n _ g2
  have lV:=fun(S:St) (k:K1)=>show(PP T1 G X).aq S k none (.bO (AV.cells (bN (A.aL[n]))))=k (bN (A.aL[n])) S from rfl
  have a1:=fun(S:St) (k:K1)=>gD G X S k pre.length (by omega)
  have hty:iC l (n:Int)=0:=by
   unfold iC
   rw[if_neg (by simp [wX]),if_neg (by omega)]
  have c:=aw3 G X l g hg hl ct (n:Int) {S0 with own:=F}
  rw[if_pos hty] at c
  have ldv:=fun(k:K1)=>lT G X (S:={S0 with own:=F}) (k:=k) (i:=j) (o:=0+0+2) (c:=.sl 1 (A.aL.map bN) gv) (h.e.aK j _ hj) rfl
  have jM:(bI A.aL pre).length=pre.length:=by simp [bI]
  obtain⟨F1,nJ,F2,pL,h2,Yh,ap2⟩:=qK.app G X h (A.aL[n]) (MY _ (nd hn)) (jU l (n:Int)) (by simp;omega) (by omega)
  have wq:bI A.aL (pre ++ [(n:Int)])=bI A.aL pre ++ [A.aL[n]]:=by simp [bI,List.getD,hn]
  obtain⟨F3,g3,t3,e3,h3⟩:=ih (pre ++ [(n:Int)]) F2 nJ pL (by rw[hp];simp) (by rw[wq,dp,List.map_append];exact h2)
  refine⟨F3,g3,t3,?_,h3⟩
  have htn:I (dQ (l.getD (n:Int).toNat default).op)=In (jU l (n:Int)):=by unfold jU;rw[In,Ha]
  rw[htn] at c
  rw[FJ _ (aA _ _ _),bb,a9 (by omega),be,Wh _ (aA _ _ _),i1,lI,fk l hg]
  refine(aN c).trans ?_
  rw[lm,lq,aU,aC,aC,ldv,i2,lV,DB G X _ (MY _ (nd hn))]
  refine(Yh _).trans ?_
  rw[sA]
  refine(ap2 _).trans ?_
  rw[Wg _ (aA _ _ _),a1,←e3,wq,dp]
  rfl
end
theorem Yi{S:St}{es new:List AV}{g2:Gr}{q bytes:Nat}(hn:new≠[])(hb:(es.length+new.length) * bytes≤1099511627776)(sR:∀a,g2≠.bJ a)(k:K1):
  (PP T1 G X).cz S k q bytes (some (.l 0)) (.sl q es .exact) (.sl q new g2)=k (.sl q (es ++ new) (.bJ (.l S.own.length))) {S with own:=S.own ++ [.tok (es.length+new.length)]}:=by
 have el:dl S (.sl q new g2)=some (q,new):=by cases g2 <;> first | rfl | exact absurd rfl (sR _)
 have bl:Nat.ble ((es.length+new.length) * bytes) 1099511627776=true:=dy hb
 cases new with
 | nil=>exact absurd rfl hn
 | cons c cs=>
  rw[iu]
  unfold eA
  simp only
  unfold fC
  rw[el]
  simp only[Nat.beq_refl,Bool.true_and,bl,cond_true,St.gK]
  rfl
theorem qL:∀(R:List (List Int×Gr)),(∀v∈R,∀a,v.2≠.bJ a)→AV.ba (R.map bN)=true
 | [],_=>rfl
 | v :: R,h=>by
  have:=wQ (h v (by simp)) 1 (v.1.map I)
  simp only[List.map_cons,AV.ba,bN,gp,this,Bool.true_and]
  exact qL R fun u hu=>h u (by simp [hu])
section
variable{F0 F:List bg}{S0:St}{g8:Gr}{tv:AV}{ts:List Nat}
theorem Tv(v0 v1:List Int×Gr)(R:List (List Int×Gr))(hR:R=[v0,v1])(h:qK F0 F S0 g8 R.length tv ts)(hv:∀v∈R,∀a,v.2≠.bJ a)(hb:ts.length < 1000):
  ∃F1 nJ F2 pL,qK F0 F2 S0 nJ 3 pL (ts ++ [1])∧
   (∀k:K1,(PP T1 G X).lh 1 (.sl 1 (R.map bN) g8) none (some (.int .i64 1)) (some (.int .i64 1)) {S0 with own:=F} k=k (.sl 1 [bN v0] .exact) {S0 with own:=F})∧
   (∀k:K1,(PP T1 G X).cz {S0 with own:=F} k 1 24 (some (.l 0)) (.sl 1 [bN v0] .exact) (.sl 1 [bN v0,bN v1] .exact)=k (.sl 1 ([v0,v0,v1].map bN) nJ) {S0 with own:=F1})∧
   ∀k:K1,(PP T1 G X).mL {S0 with own:=F1} k 1 8 tv (.sl 1 [In 1] .exact)=k pL {S0 with own:=F2}:=by
 subst hR
 have af9:=fun k:K1=>Yi G X (S:={S0 with own:=F}) (es:=[bN v0]) (new:=[bN v0,bN v1]) (g2:=.exact) (q:=1) (bytes:=24) (by simp) (by show(1+2) * 24≤1099511627776;decide) (fun a e=>by cases e) k
 let F1:=F ++ [.tok 3]
 have hE1:iA F0 F1:=⟨by have:=h.e.len;simp [F1];omega,fun i o ho=>by
  have:=h.e.aK i o ho
  exact(eZ (bZ.1 this).1).trans this⟩
 have ht1:tp F0.length F1 tv ts:=by
  rcases h.t with h1 | ⟨i,e1,e2,e3,e4⟩
  ·exact .inl h1
  ·exact .inr ⟨i,e1,(eZ (bZ.1 e2).1).trans e2,e3,e4⟩
 obtain⟨pL,F2,b1,b2,b3,b4⟩:=tp.app G X (S:={S0 with own:=F1}) (F0:=F0) (tv:=tv) (ts:=ts) ht1 hE1 1 hb
 refine⟨F1, .bJ (.l F.length),F2,pL,⟨b2,⟨.bJ _ _ (by decide) (b3 F.length 3 (by simp [F1])),fun t e=>by injection e with e;injection e with e;rw[←e];exact h.e.len⟩,b1⟩,fun k=>?_,fun k=>af9 k,b4⟩
 have hp:tO g8 (([v0,v1]:List (List Int×Gr)).map bN)=true:=by
  unfold tO
  split
  ·exact qL _ hv
  ·rfl
 have CO:g8≠.nil:=fun e=>by
  rcases h.g.gr.inv with⟨_,e2⟩ | ⟨t,e2,_,_⟩
  ·simp at e2
  ·rw[e] at e2;cases e2
 show oi 1 (.sl 1 (([v0,v1]:List (List Int×Gr)).map bN) g8) none (some (.int .i64 1)) (some (.int .i64 1)) {S0 with own:=F} k=_
 unfold oi
 have n1:eE (.int .i64 1)=some 1:=rfl
 simp only[tI,n1]
 rw[hp]
 cases g8 with
 | nil=>exact absurd rfl CO
 | _=>rfl
end
theorem apv{S:St}{j:Nat}{A:cm}{mv:AV}{gi gv gr:Gr}(hA:lD S.own S.aa j A mv gi gv gr)(v:List Int×Gr)(hv:∀a,v.2≠.bJ a)(hb:A.aL.length < 1000000):
  ∃F' qM,lD F' S.aa j {A with aL:=A.aL ++ [v]} mv gi qM gr∧(∀(i:Nat) (cs:List AV),S.own[i]? =some (.cells cs)→i≠j→F'[i]? =some (.cells cs))∧S.own.length≤F'.length∧
   ∀k:K1,(PP T1 G X).cz S (fun aFr s=>(PP T1 G X).aG s (fun aFs s=>(PP T1 G X).aj s (fun aFt s=>(PP T1 G X).aj s (fun aFu s=>(PP T1 G X).a7 s k 1 aFu (AV.av s.aa aFr)) 2 aFt) 0 aFs) (.ref (.l j) 0)) 1 24 (some (.l 0)) (.sl 1 (A.aL.map bN) gv) (.sl 1 [bN v] .exact)=k .dead {S with own:=F'}:=by
 have oT:=(bZ.1 hA.c).1
 have inf:fE S S.aa:=⟨by have:=S.sv;omega,Nat.le_refl _⟩
 have key:∃t F1 g',g'.av S.aa= .bJ (.g S.aa t)∧F1[t]? =some (.tok (A.aL.length+1))∧(gv= .nil→S.own.length≤t)∧(∀u,gv= .bJ (.g S.aa u)→t=u)∧q9 S.own F1 S.aa gv∧
   ∀k:K1,(PP T1 G X).cz S k 1 24 (some (.l 0)) (.sl 1 (A.aL.map bN) gv) (.sl 1 [bN v] .exact)=k (.sl 1 ((A.aL ++ [v]).map bN) g') {S with own:=F1}:=by
  have el:dl S (.sl 1 [bN v] .exact)=some (1,[bN v]):=rfl
  have bl:Nat.ble (((A.aL.map bN).length+[bN v].length) * 24) 1099511627776=true:=dy (by simp;omega)
  have bl2:Nat.ble ((A.aL.length+1) * 24) 1099511627776=true:=dy (by omega)
  have k7:([bN v].flatMap AV.cells).all AV.dU=true:=rfl
  rcases hA.wv with⟨rfl,nM⟩ | ⟨t,rfl,kJ,ht⟩
  ·refine⟨S.own.length,S.own ++ [.tok (A.aL.length+1)], .bJ (.l S.own.length),rfl,by simp,fun _=>Nat.le_refl _,fun u e=>(by cases e),⟨by simp,fun i o hi _=>(eZ (bZ.1 hi).1).trans hi⟩,fun k=>?_⟩
   rw[iu]
   unfold eA
   simp only
   unfold fC
   rw[el]
   simp only[Nat.beq_refl,Bool.true_and,bl,cond_true,St.gK]
   rw[List.map_append]
   simp only[cw,cP,eh,Nat.zero_add]
   rfl
  ·have uK:=(bZ.1 ht).1
   refine⟨t,S.own.set t (.tok (A.aL.length+1)), .bJ (.g S.aa t),rfl,by simp [uK],fun e=>(by cases e),fun u e=>(by cases e;rfl),⟨by simp,fun i o hi cK=>by rw[eM (fun e=>cK (by rw[e]))];exact hi⟩,fun k=>?_⟩
   have kh:S.get (.g S.aa t)=some (.tok A.aL.length):=by rw[nH inf,qI];exact ht
   have dm:S.set (.g S.aa t) (.tok (A.aL.length+1))=some {S with own:=S.own.set t (.tok (A.aL.length+1))}:=by
    rw[uL inf,qI]
    unfold St.bz
    rw[if_pos rfl]
   rw[iu]
   unfold eA
   simp only
   unfold fC
   rw[el]
   simp only[Nat.beq_refl,cond_true,kh,cw,k7,Bool.and_self,cP,eh,Nat.zero_add,bl2,cond_true,dm]
   rw[List.map_append]
   rfl
 obtain⟨t,F1,g',kp,k1,k2,k3,k4,k5⟩:=key
 let A':cm:={A with aL:=A.aL ++ [v]}
 have l7:∀g n,cH S.own S.aa g n→apart S.aa gv g→∀u,g= .bJ (.g S.aa u)→t≠u:=fun g n hg ha u e e2=>by
  have hu:=(cH.le (e ▸ hg)).1
  have hul:=(bZ.1 hu).1
  rcases hA.wv with⟨e3,h0⟩ | ⟨u',e3,h1,h2⟩
  ·have:=k2 e3;omega
  ·have:=k3 u' e3;subst this;subst e2;exact ha _ e3 e
 have pn:F1[j]? =some (.cells (A.cells mv gi gv gr)):=k4.pj j _ hA.c (fun e=>by have:=(cH.le (e ▸ hA.wv)).1;rw[hA.c] at this;cases this)
 have ao3:=(bZ.1 pn).1
 have S7:t≠j:=fun e=>by subst e;rw[pn] at k1;cases k1
 have st:=fun k:K1=>Aj G X (S:={S with own:=F1}) (k:=k) (i:=j) (o:=0+0+2) (cs:=A.cells mv gi gv gr) (v:=.sl 1 (A'.aL.map bN) (.bJ (.g S.aa t))) pn (by simp [cm.cells]) rfl rfl rfl
 let F2:=F1.set j (.cells (A'.cells mv gi (.bJ (.g S.aa t)) gr))
 have aw:∀g n,cH S.own S.aa g n→apart S.aa gv g→cH F2 S.aa g n:=fun g n hg ha=>cH.set (q9.X6 k4 hg ha) pn (fun _ e=>by cases e)
 refine⟨F2, .bJ (.g S.aa t),⟨by simp [F2,ao3,A'],aw _ _ hA.wi hA.iv.symm,?_,aw _ _ hA.wr hA.vr,?_,hA.ir,?_⟩,fun i cs hi kE=>?_,by show _≤F2.length;simp only[F2,List.length_set];exact k4.len,fun k=>?_⟩
 ·refine .inr ⟨t,rfl,by simp,?_⟩
  show F2[t]? =_
  rw[eM (Ne.symm S7),k1];simp
 ·intro u e e2;injection e2 with e2;injection e2 with e3 e4;exact l7 _ _ hA.wi hA.iv.symm u e e4
 ·intro u e e2;injection e with e;injection e with e3 e4;exact l7 _ _ hA.wr hA.vr u e2 e4
 ·show F2[i]? =_
  rw[eM (Ne.symm kE)]
  exact k4.pj i _ hi (fun e=>by have:=(cH.le (e ▸ hA.wv)).1;rw[hi] at this;cases this)
 ·refine(k5 _).trans ?_
  rw[aU,aC,aC]
  have e:AV.av ({S with own:=F1}:St).aa (.sl 1 ((A.aL ++ [v]).map bN) g')= .sl 1 (A'.aL.map bN) (.bJ (.g S.aa t)):=by
   show AV.sl 1 _ (g'.av S.aa)=_
   rw[kp]
  rw[e]
  exact st k
structure mF (l:List aS) (x:aS) (A:cm):Prop where
 op1:1≤x.op
 op2:x.op≤16
 al:x.args.length < 8
 args:∀a∈x.args,0≤a∧a < (l.length:Int)∧a.toNat < A.aL.length
 vr:∀v∈A.aL,∀a,v.2≠.bJ a
 two:x.op=5→x.args.length=2
 t4:∀t∈stepT l x,t < 4
 fit:∀p∈(gU A.aL x).zip (d7 (decide (x.op=4)) (stepT l x)),p.1.1.length≤(jz p.2).length
 ins:A.ins.length+1000 < 1000000000
 roots:A.roots.length+100 < 1000000000
 Tw:0≤A.dx
 dx:A.dx+100 < 1000000000
 nv:A.aL.length < 1000000
theorem Hb(l:List aS)(x:aS)(aL:List (List Int×Gr))(h:x.op=5→x.args.length=2):(gU aL x).length=(stepT l x).length:=by
 unfold gU stepT bI
 by_cases h5:x.op=5
 ·rw[if_pos h5,if_pos h5];simp [h h5]
 ·rw[if_neg h5,if_neg h5];simp
section
variable{l:List aS}{g:Gr}{x:aS}{A:cm}{S:St}{j:Nat}{mv:AV}{gi gv gr:Gr}
theorem qK.nil(F0:List bg)(S0:St):qK F0 F0 S0 .nil 0 (.sl 1 [] .nil) []:=⟨.refl _,⟨.nil,fun t e=>by cases e⟩, .inl ⟨rfl,rfl⟩⟩
theorem Yj(v0 v2 Tt Al Tu:AV)(F0 F:List bg)(S0:St)(i7:Nat)(h7:F0[i7]? =some (.cells x.cs))(hx:mF l x A)(g8:Gr)(tv:AV)(h:qK F0 F S0 g8 (bI A.aL x.args).length tv (x.args.map (jU l))):
  ∃F' nJ pL,De (PP T1 G X) v0 v2 (.ref (.l j) 0) (.ref (.l i7) 0) (.sl 1 ((bI A.aL x.args).map bN) g8) tv Tt Al Tu {S0 with own:=F}=zi (PP T1 G X) v0 v2 (.ref (.l j) 0) (.ref (.l i7) 0) (.sl 1 ((gU A.aL x).map bN) nJ) pL Tt Al Tu {S0 with own:=F'}∧qK F0 F' S0 nJ (gU A.aL x).length pL (stepT l x):=by
 have ld:=fun k:K1=>lT G X (S:={S0 with own:=F}) (k:=k) (i:=i7) (o:=0+1) (c:=I x.op) (h.e.aK i7 _ h7) rfl
 by_cases h5:x.op=5
 ·have h2:=hx.two h5
  have jM:(bI A.aL x.args).length=2:=by simp [bI,h2]
  obtain⟨rH,vU,hR⟩:∃a b,bI A.aL x.args=[a,b]:=by
   match hr:bI A.aL x.args with
   | [a,b]=>exact⟨a,b,rfl⟩
   | []=>rw[hr] at jM;simp at jM
   | [a]=>rw[hr] at jM;simp at jM
   | a :: b :: c :: r=>rw[hr] at jM;simp at jM
  have hv:∀v∈bI A.aL x.args,∀a,v.2≠.bJ a:=fun v hv a=>by
   simp only[bI,List.mem_map] at hv
   obtain⟨q,hq,rfl⟩:=hv
   obtain⟨_,_,q3⟩:=hx.args q hq
   have:A.aL.getD q.toNat ([], .nil)=A.aL[q.toNat]:=by simp [List.getD,q3]
   rw[this]
   exact hx.vr _ (nd q3) a
  obtain⟨F1,nJ,F2,pL,a1,a2,a3,a4⟩:=Tv G X rH vU _ hR h hv (by have:=hx.al;simp;omega)
  have L6:gU A.aL x=[rH,rH,vU]:=by unfold gU;rw[if_pos h5,hR];rfl
  have fD:stepT l x=x.args.map (jU l) ++ [1]:=by unfold stepT;rw[if_pos h5]
  have i0:=fun(S:St) (k:K1)=>kF G X S k 1 ((bI A.aL x.args).map bN) g8 .i64 0 (bN rH) (by rw[hR];rfl)
  have i1:=fun(S:St) (k:K1)=>kF G X S k 1 ((bI A.aL x.args).map bN) g8 .i64 1 (bN vU) (by rw[hR];rfl)
  have l0:=fun(S:St) (k:K1) (v:List Int×Gr)=>show(PP T1 G X).aq S k none (.bO (AV.cells (bN v)))=k (bN v) S from rfl
  have GI:∀a,rH.2≠.bJ a:=hv rH (by rw[hR];simp)
  have Ik:∀a,vU.2≠.bJ a:=hv vU (by rw[hR];simp)
  have bs:∀(S:St) (k:K1),(PP T1 G X).aF S k 1 [bN rH,bN vU]=k (.sl 1 [bN rH,bN vU] .exact) S:=fun S k=>by
   refine kB 1 _ ?_ rfl
   exact qL [rH,vU] (fun u hu=>by
    simp only[List.mem_cons,oR,or_false] at hu
    rcases hu with rfl | rfl
    ·exact GI
    ·exact Ik)
  refine⟨F2,nJ,pL,?_,by rw[L6,fD];exact a1⟩
  rw[FI _ (aA _ _ _),aC,ld,bj,a9 h5,be]
  refine(a2 _).trans ?_
  refine(i0 _ _).trans ?_
  rw[l0]
  refine(i1 _ _).trans ?_
  rw[l0,bs]
  refine(a3 _).trans ?_
  refine(show(PP T1 G X).aF _ _ 1 [I 1]=_ from sA G X 1).trans ?_
  refine(a4 _).trans ?_
  rw[L6]
 ·have L6:gU A.aL x=bI A.aL x.args:=by unfold gU;rw[if_neg h5]
  have fD:stepT l x=x.args.map (jU l):=by unfold stepT;rw[if_neg h5]
  refine⟨F,g8,tv,?_,by rw[L6,fD];exact h⟩
  rw[FI _ (aA _ _ _),aC,ld,bj,aT h5,bf,L6]
theorem tp.len{n0:Nat}{F:List bg}{tv:AV}{ts:List Nat}(h:tp n0 F tv ts)(S:St)(k:K1):(PP T1 G X).aV S k false tv=k (In ts.length) S:=by
 rcases h with⟨rfl,rfl⟩ | ⟨t,rfl,_,_⟩ <;> rfl
theorem tp.av{n0:Nat}{F:List bg}{tv:AV}{ts:List Nat}(h:tp n0 F tv ts)(d:Nat):vT F d (tv.av d) ts:=by
 rcases h with⟨rfl,rfl⟩ | ⟨t,rfl,h1,h2,_⟩
 ·exact .inl ⟨rfl,rfl⟩
 ·exact .inr ⟨t,rfl,h1,h2⟩
theorem tp.ap{n0:Nat}{F:List bg}{tv:AV}{ts:List Nat}(h:tp n0 F tv ts)(d:Nat){i:Nat}(hi:i < n0):apT d i (tv.av d):=fun a b c e=>by
 rcases h with⟨rfl,rfl⟩ | ⟨t,rfl,h1,h2,h3⟩
 ·cases e
 ·injection e with e;injection e with e1 e2;omega
end
section
variable{l:List aS}{g:Gr}{x:aS}{A:cm}{S0:St}{j:Nat}{mv:AV}{gi gv gr:Gr}
theorem lD.ext{F F':List bg}{d:Nat}(h:lD F d j A mv gi gv gr)(hE:iA F F'):lD F' d j A mv gi gv gr:=
 have k:∀{g n},cH F d g n→cH F' d g n:=fun hg=>cH.aK hg (fun t e=>by
  have ht:=(cH.le (e ▸ hg)).1
  rw[ht];exact hE.aK t _ ht)
 ⟨hE.aK j _ h.c,k h.wi,k h.wv,k h.wr,h.iv,h.ir,h.vr⟩
theorem Hc(S:St)(F F':List bg):({S with own:=F}:St).bz S.aa F'= {S with own:=F'}:=by
 unfold St.bz
 rw[if_pos (show S.aa=({S with own:=F}:St).aa from rfl)]
theorem Yk(v0 v2 Tt Al Tu:AV)(F0 F:List bg)(i7:Nat)(kE:i7≠j)(h7:F0[i7]? =some (.cells x.cs))(hA:lD F0 S0.aa j A mv gi gv gr)(hx:mF l x A)(g8:Gr)(tv:AV)(h:qK F0 F S0 g8 (gU A.aL x).length tv (stepT l x)):
  ∃F' tK cR qM iQ,zi (PP T1 G X) v0 v2 (.ref (.l j) 0) (.ref (.l i7) 0) (.sl 1 ((gU A.aL x).map bN) g8) tv Tt Al Tu {S0 with own:=F}=Dd (PP T1 G X) v0 v2 (.ref (.l j) 0) Tt Al Tu {S0 with own:=F'}∧lD F' S0.aa j (oe l x A) tK cR qM iQ∧(∀(i:Nat) (cs:List AV),F0[i]? =some (.cells cs)→i≠j→F'[i]? =some (.cells cs))∧F0.length≤F'.length:=by
 have aIV:=hx.op1
 have aIW:=hx.op2
 let S:St:={S0 with own:=F}
 let d:=S0.aa
 have hSd:S.aa=d:=rfl
 have inf:fE S d:=⟨by have:=S0.sv;show S0.ro.length≤S0.aa;omega,Nat.le_refl _⟩
 have ags:S.cC d=F:=qI S
 have hAF:lD (S.cC d) d j A mv gi gv gr:=by rw[ags];exact lD.ext hA h.e
 have hj0:=(bZ.1 hA.c).1
 have h70:=(bZ.1 h7).1
 have aFv:(stepT l x).length < 9:=by
  unfold stepT;have:=hx.al;split <;> simp <;> omega
 have hla:(d7 (decide (x.op=4)) (stepT l x)).length=(stepT l x).length:=by unfold d7;split <;> simp
 obtain⟨F1,mv1,e1,as1,kp1,ln1,tv1,mo1⟩:=awZ G X inf hAF (tv:=tv.av d) (ts:=stepT l x) (by rw[ags];exact tp.av h.t d) (tp.ap h.t d hj0) (gU A.aL x) (g8.av d) (decide (x.op=4)) aFv hx.t4 (by rw[Hb l x A.aL hx.two];exact Nat.le_refl _) hx.fit
 rw[ags] at kp1 ln1
 have eS1:S.bz d F1= {S0 with own:=F1}:=Hc S0 F F1
 rw[eS1] at e1 as1
 obtain⟨n,hn⟩:=Int.eq_ofNat_of_zero_le (show 0≤x.op by omega)
 have Iv:1≤n:=by omega
 have Ak:n≤16:=by omega
 have CO:x.op.toNat=n:=by rw[hn];rfl
 let c:=mP (stepT l x)
 obtain⟨g1,g2,s',f46,r46⟩:=aw1 G X n c Iv Ak
 obtain⟨pD,pE⟩:=oC n c Iv Ak
 obtain⟨z1,z2,z3,z4,z5,z6⟩:=oD n c Iv Ak
 have hEi:(j2 l x A).ins=A.ins:=rfl
 have hR:dK (j2 l x A) (fJ (cT n c)) (eC n c).length:=⟨by show A.ins.length+_ < _;have:=hx.ins;omega,by show A.roots.length+_ < _;have:=hx.roots;omega,hx.Tw,by show A.dx+_ < _;have:=hx.dx;omega⟩
 have hRD:(cI (cT n c) (j2 l x A)).ins.length+oc (gH n c) < 1000000000:=by
  have:∀(D:List (List Nat×Df)) (A:cm),(cI D A).ins.length=A.ins.length+fJ D:=fun D=>by
   induction D with
   | nil=>intro A;rfl
   | cons p D ih=>
    intro A
    obtain⟨w,y⟩:=p
    rw[cI,ih,fJ]
    cases y with
    | gI=>show(A.emit 1 A.dx 0).1.ins.length+_=_;rw[fQ,Df.size];omega
    | root e=>show((e.run A).1.emit 6 (e.run A).2 0).1.ins.length+_=_;rw[fQ,dH,Df.size];omega
    | ex e=>show(e.run A).1.ins.length+_=_;rw[dH,Df.size];omega
  rw[this,hEi]
  have:=hx.ins;omega
 have agt:AS d j mv1 gv gr {S0 with own:=F1} (j2 l x A) gi:=as1
 obtain⟨s2,uO,Te,e2,as2,u2⟩:=awT G X 400 (eC n c) (fY n c) (cT n c) (gH n c) g1 g2 pD pE (by omega) (by omega) (fun p hp=>by have:=z5 p hp;omega) (fun p hp=>by have:=z6 p hp;omega) agt hR hRD
 obtain⟨F2,rfl⟩:=u2.st
 have eS2:({S0 with own:=F1}:St).bz d F2= {S0 with own:=F2}:=Hc S0 F1 F2
 rw[eS2] at e2 as2
 have kc:=u2.kc
 have my:({S0 with own:=F1}:St).cC d=F1:=qI {S0 with own:=F1}
 have jq:({S0 with own:=F2}:St).cC d=F2:=qI {S0 with own:=F2}
 rw[eS2,my,jq] at kc
 have hQ:eR (gH n c) (cI (cT n c) (j2 l x A))=f5 l x A:=by unfold f5;rw[CO]
 rw[hQ] at e2 as2
 have Yl:(f5 l x A).1.aL=A.aL:=by
  have r1:∀(E:List Ex) (A:cm),(eR E A).1.aL=A.aL:=fun E=>by
   induction E with
   | nil=>intro A;rfl
   | cons e E ih=>intro A;rw[eR];exact(ih _).trans (fb e A).2.2.1
  have r2:∀(D:List (List Nat×Df)) (A:cm),(cI D A).aL=A.aL:=fun D=>by
   induction D with
   | nil=>intro A;rfl
   | cons p D ih=>
    intro A
    obtain⟨w,y⟩:=p
    rw[cI,ih]
    cases y with
    | gI=>rfl
    | root e=>exact(fb e A).2.2.1
    | ex e=>exact(fb e A).2.2.1
  unfold f5
  rw[r1,r2];rfl
 have hgf:∀a,fO (f5 l x A).2≠.bJ a:=fun a e=>by unfold fO at e;split at e <;> cases e
 have apy:=as2.as
 rw[jq] at apy
 obtain⟨F3,gv3,a3,k3,l3,e3⟩:=apv G X (S:={S0 with own:=F2}) (j:=j) (A:=(f5 l x A).1) apy ((f5 l x A).2,fO (f5 l x A).2) hgf (by rw[Yl];exact hx.nv)
 have p1:∀(i:Nat) (cs:List AV),F0[i]? =some (.cells cs)→i≠j→F1[i]? =some (.cells cs):=fun i cs hi cK=>kp1 i _ (h.e.aK i _ hi) cK (tp.ap h.t d (bZ.1 hi).1)
 have p2:∀(i:Nat) (cs:List AV),F0[i]? =some (.cells cs)→i≠j→F2[i]? =some (.cells cs):=fun i cs hi cK=>by
  have h1:=p1 i cs hi cK
  refine kc.aK i _ h1 cK (fun e=>?_) (fun e=>?_) (fun e=>mo1 i (by rw[ags];have:=h.e.len;have:=(bZ.1 hi).1;omega) e)
  ·have:=agt.as.wi;rw[my] at this;have:=(cH.le (e ▸ this)).1;rw[h1] at this;cases this
  ·have:=agt.as.wr;rw[my] at this;have:=(cH.le (e ▸ this)).1;rw[h1] at this;cases this
 refine⟨F3,mv1,uO,gv3,Te,?_,a3,fun i cs hi cK=>k3 i cs (p2 i cs hi cK) cK,by have:=h.e.len;have:=kc.len;have:F2.length≤F3.length:=l3;omega⟩
 have aFy:∀K:K1,(PP T1 G X).aV S (fun v75 s=>(PP T1 G X).ak s (fun v76 s=>(PP T1 G X).ah v76 true (fun k=>k tv s) s (fun v78 s=>(PP T1 G X).ah v76 true (fun k=>(PP T1 G X).aX s k 1 v78 (.int .i64 0)) s (fun v79 s=>(PP T1 G X).ah v76 true (fun k=>(PP T1 G X).aq s k none v79) s (fun v80 s=>(PP T1 G X).ah v76 true (fun k=>(PP T1 G X).ak s k (au .eql v80 (.int .i64 3))) s (fun v81 s=>(PP T1 G X).aZ s K v76 v81 (.bool false)))))) (au .gtr v75 (.int .i64 0))) false tv=K (.bool c) S:=fun K=>by
  rcases h.t with⟨e1,e2⟩ | ⟨t,e1,e3,e4,e5⟩
  ·have hc:c=false:=by show mP (stepT l x)=false;rw[e2];rfl
   rw[tp.len G X h.t,dV,e2,aT (by decide),hc]
   rfl
  ·obtain⟨t0,tr,htr⟩:∃t0 tr,stepT l x=t0 :: tr:=by
    cases hh:stepT l x with
    | nil=>rw[hh] at e4;cases e4
    | cons a b=>exact⟨a,b,rfl⟩
   have hc:c=decide ((t0:Int)=3):=by
    show mP (stepT l x)=_
    rw[htr];unfold mP
    simp only[List.head?_cons,bM]
    exact decide_eq_decide.2 (by omega)
   have ix:=fun(k:K1)=>DA G X (S:=S) (k:=k) (a:=.l t) (kk:=.i64) (stepT l x).length 0 0 (by omega)
   have lo:=fun(k:K1)=>lT G X (S:=S) (k:=k) (i:=t) (o:=0) (c:=In t0) e3 (by rw[htr];rfl)
   rw[tp.len G X h.t,dV,a9 (by omega),e1,hc]
   simp only[dP]
   refine(ix _).trans ?_
   rw[lo,bj,c7]
 have ld7:∀(F:List bg) (k:K1),F[i7]? =some (.cells x.cs)→(PP T1 G X).aq {S0 with own:=F} k none (.ref (.l i7) (0+1))=k (I x.op) {S0 with own:=F}:=fun F k hF=>lT G X (S:={S0 with own:=F}) (i:=i7) (o:=0+1) (c:=I x.op) hF rfl
 have hF7:=h.e.aK i7 _ h7
 have aFB:=p1 i7 _ h7 kE
 have hat:w9 (.ref (.l j) (0+0+2)) (.ref (.l j) 0) 2= .ref (.l j) 2:=by simp [w9,pZ]
 have apA:=agt.as
 rw[my] at apA
 have ldv:=fun(k:K1)=>lT G X (S:={S0 with own:=F1}) (k:=k) (i:=j) (o:=2) (c:=.sl 1 (A.aL.map bN) gv) apA.c rfl
 have agu:∀(F:List bg) (A:cm) (mv:AV) (gi gr:Gr) (vs:List (List Int×Gr)),F[j]? =some (.cells (A.cells mv gi gv gr))→A.aL=vs→du {S0 with own:=F} none (oZ (.ref (.l j) 0) 2)=some [.sl 1 (vs.map bN) gv]:=fun F A mv gi gr vs hF hv=>by
  unfold du cellsOf oZ
  simp only[show({S0 with own:=F}:St).get (.l j)=some (.cells (A.cells mv gi gv gr)) from hF]
  subst hv
  rfl
 rw[Wj _ (aA _ _ _)]
 refine(aFy _).trans ?_
 rw[aC,ld7 F _ hF7,bj]
 refine(dJ e1 (by rfl)).trans ?_
 rw[aU,aC,aC,hat,ldv,aC,ld7 F1 _ aFB]
 refine(yi (T:=T1) (by rfl) (by rw[hn];exact f46) r46).trans ?_
 refine(Bj G X e2 (by rfl) ?_).trans ?_
 ·rw[agu F1 _ _ _ _ A.aL apA.c rfl,agu F2 _ _ _ _ A.aL apy.c Yl]
  exact pN.2 ⟨_,rfl,rfl⟩
 rw[show gp (f5 l x A).2 (fO (f5 l x A).2)=bN ((f5 l x A).2,fO (f5 l x A).2) from rfl,DB G X _ hgf]
 rw[Yl] at e3
 refine(e3 _).trans ?_
 rfl
end
def nK(l:List aS):List aS→cm→cm
 | [],A=>A
 | x :: r,A=>nK l r (oe l x A)
def nL:cm:=⟨[],[],[],[],0⟩
section
variable(l:List aS)(g:Gr)(hg:∀a,g≠.bJ a)(hl:l.length < 9223372036854775806)(ct:∀o,o∈l→sp o)(wX:fB l=0)
include hg hl ct wX
theorem Ym{j:Nat}{A:cm}{mv:AV}{gi gv gr:Gr}(x:aS)(i:Nat)(hi:l[i]? =some x)(v2 Al:AV)(F:List bg)(S0:St)(hA:lD F S0.aa j A mv gi gv gr)(hx:mF l x A):
  ∃F' tK cR qM iQ,Lg (PP T1 G X) (bQ l g) v2 (.ref (.l j) 0) (bQ l g) Al (In i) {S0 with own:=F}=Dd (PP T1 G X) (bQ l g) v2 (.ref (.l j) 0) (bQ l g) Al (In i) {S0 with own:=F'}∧lD F' S0.aa j (oe l x A) tK cR qM iQ∧(∀(i:Nat) (cs:List AV),F[i]? =some (.cells cs)→i≠j→F'[i]? =some (.cells cs))∧F.length≤F'.length:=by
 have oT:=(bZ.1 hA.c).1
 let F0:List bg:=F ++ [.cells x.cs]
 have hE:iA F F0:=⟨by simp [F0],fun i o ho=>(eZ (bZ.1 ho).1).trans ho⟩
 have hA0:=lD.ext hA hE
 have h7:F0[F.length]? =some (.cells x.cs):=by simp [F0]
 have ei:(l.map aS.enc)[i]? =some x.enc:=by rw[List.getElem?_map,hi];rfl
 have ix:=fun(S:St) (k:K1)=>kF G X S k 12 _ g .i64 i _ ei
 have ld:∀(S:St) (K:K1),(PP T1 G X).aq S K (some 12) (.bO (AV.cells x.enc))=K x.enc S:=fun S K=>rfl
 have st:=fun(cs:List AV) (k:K1) (h:cs.length=12)=>qz (T:=T1) (G:=G) (X:=X) (s:={S0 with own:=F}) (k:=k) 12 x.cs cs rfl h x.cells
 have G3:=fun(k:K1)=>lT G X (S:={S0 with own:=F0}) (k:=k) (i:=F.length) (o:=0+2) (c:=gp x.args x.ga) h7 rfl
 have aFC:qK F0 F0 S0 .nil (bI A.aL []).length (.sl 1 [] .nil) (([]:List Int).map (jU l)):=qK.nil F0 S0
 obtain⟨F1,g8,tv,e1,a1⟩:=Yg G X l g hg hl ct wX x v2 (.ref (.l F.length) 0) (bQ l g) Al (In i) F0 S0 hA0.c hx.vr (by have:=hx.al;omega) hx.args x.args [] F0 .nil (.sl 1 [] .nil) rfl aFC
 obtain⟨F2,nJ,pL,e2,a2⟩:=Yj G X (l:=l) (A:=A) (j:=j) (bQ l g) v2 (bQ l g) Al (In i) F0 F1 S0 F.length h7 hx g8 tv a1
 obtain⟨F3,tK,cR,qM,iQ,e3,a3,k3,l3⟩:=Yk G X (bQ l g) v2 (bQ l g) Al (In i) F0 F2 F.length (by omega) h7 hA0 hx nJ pL a2
 refine⟨F3,tK,cR,qM,iQ,?_,a3,fun i cs hi cK=>k3 i cs (hE.aK i _ hi) cK,Nat.le_trans hE.len l3⟩
 rw[Wk _ (aA _ _ _),ix,ld,jR]
 refine(st _ _ rfl).trans ?_
 rw[show({S0 with own:=F}:St).new (.cells x.cs)= {S0 with own:=F0} from rfl,show({S0 with own:=F}:St).own.length=F.length from rfl,aC,G3,bt,cw]
 exact e1.trans (e2.trans e3)
theorem Yn{j i2:Nat}(kE:i2≠j)(z4:List AV)(S0:St):∀(rest pre:List aS) (F:List bg) (A:cm) (mv:AV) (gi gv gr:Gr),l=pre ++ rest→lD F S0.aa j A mv gi gv gr→F[i2]? =some (.cells z4)→(∀(p q:List aS) (x:aS),rest=p ++ x :: q→mF l x (nK l p A))→
  ∃F' tK cR qM iQ,Dh (PP T1 G X) (bQ l g) (.ref (.l i2) 0) (.ref (.l j) 0) (bQ l g) (In l.length) (In pre.length) {S0 with own:=F}=FH (PP T1 G X) (.ref (.l i2) 0) (.ref (.l j) 0) {S0 with own:=F'}∧lD F' S0.aa j (nK l rest A) tK cR qM iQ∧F'[i2]? =some (.cells z4)∧F.length≤F'.length∧(∀(i:Nat) (cs:List AV),F[i]? =some (.cells cs)→i≠j→F'[i]? =some (.cells cs)):=by
 intro rest
 induction rest with
 | nil=>
  intro pre F A mv gi gv gr hp hA h2 fD
  rw[List.append_nil] at hp
  subst hp
  refine⟨F,mv,gi,gv,gr,?_,hA,h2,Nat.le_refl _,fun _ _ h _=>h⟩
  rw[FK _ (aA _ _ _),bb,aT (by omega),bf]
 | cons x rest ih=>
  intro pre F A mv gi gv gr hp hA h2 fD
  have tG:pre.length < l.length:=by rw[hp];simp
  have hx:mF l x A:=fD [] rest x rfl
  have a1:=fun(S:St) (k:K1)=>gD G X S k pre.length (by omega)
  obtain⟨F1,mv1,tJ,po,G6,e1,as1,k1,l1⟩:=Ym G X l g hg hl ct wX x pre.length (by rw[hp];simp) (.ref (.l i2) 0) (In l.length) F S0 hA hx
  obtain⟨F2,mv2,uO,AJ,Te,e2,as2,z2,l2,k2⟩:=ih (pre ++ [x]) F1 (oe l x A) mv1 tJ po G6 (by rw[hp];simp) as1 (k1 i2 _ h2 kE) (fun p q y hr=>fD (x :: p) q y (by rw[hr];rfl))
  refine⟨F2,mv2,uO,AJ,Te,?_,as2,z2,Nat.le_trans l1 l2,fun i cs hi cK=>k2 i cs (k1 i cs hi cK) cK⟩
  rw[FK _ (aA _ _ _),bb,a9 (by omega),be,e1,Wi _ (aA _ _ _),a1,←e2,dp]
  rfl
end
def Bk(aw8:Int)(ins:List gG)(gi:Gr)(aL:List (List Int×Gr))(gv:Gr)(roots:List Int)(gr:Gr):AV:=.agg [I aw8, .sl 3 (ins.map gG.enc) gi, .sl 1 (aL.map bN) gv,gp roots gr]
end Go.jY
end
section
namespace Go.jY
open Go.Ab Go.iY
structure Inv (l pre:List aS) (A:cm):Prop where
 nv:A.aL.length=pre.length
 len:∀(k:Nat) (x:aS) (v:List Int×Gr),pre[k]? =some x→A.aL[k]? =some v→v.1.length=vI (dQ x.op).toNat
 vr:∀v∈A.aL,∀a,v.2≠.bJ a
 ins:A.ins.length≤500 * pre.length
 roots:A.roots.length≤40 * pre.length
 Tw:0≤A.dx
 dx:A.dx≤40 * (pre.length:Int)
theorem vJ:∀(p Tx:List aS) (x:aS) (q:List aS),lC Tx (p ++ x :: q)=true→wf (Tx ++ p) x=true
 | [],Tx,x,q,h=>by
  rw[List.nil_append,lC,bD] at h
  rw[List.append_nil];exact h.1
 | y :: p,Tx,x,q,h=>by
  rw[List.cons_append,lC,bD] at h
  have:=vJ p (Tx ++ [y]) x q h.2
  rwa [pY] at this
theorem aCu{op:Int}(h:dQ op≠0):1≤op∧op≤16:=by
 unfold dQ at h
 split at h
 ·omega
 ·split at h
  ·omega
  ·split at h
   ·omega
   ·exact absurd rfl h
theorem sB(op:Int):dQ op=0∨dQ op=1∨dQ op=2∨dQ op=3:=by
 unfold dQ
 split
 ·exact .inr (.inl rfl)
 ·split
  ·exact .inr (.inr (.inl rfl))
  ·split
   ·exact .inr (.inr (.inr rfl))
   ·exact .inl rfl
theorem uR(pre:List aS):∀(ws as:List Int) (k:Nat) (w a:Int),mE pre ws as=true→ws[k]? =some w→as[k]? =some a→Bb pre w a=true
 | [],_,k,w,a,_,h,_=>by simp at h
 | _ :: _,[],k,w,a,_,_,h=>by simp at h
 | w0 :: ws,a0 :: as,0,w,a,h,hw,ha=>by
  rw[mE,bD] at h
  simp only[List.getElem?_cons_zero,bM] at hw ha
  subst hw;subst ha;exact h.1
 | w0 :: ws,a0 :: as,k+1,w,a,h,hw,ha=>by
  rw[mE,bD] at h
  exact uR pre ws as k w a h.2 (by simpa using hw) (by simpa using ha)
theorem apB{l pre rest:List aS}(hl:l=pre ++ rest){a:Int}(h0:0≤a)(h1:a < (pre.length:Int)):∃o,pre[a.toNat]? =some o∧jU l a=(dQ o.op).toNat∧o∈pre:=by
 have h2:a.toNat < pre.length:=by omega
 refine⟨pre[a.toNat],by simp [h2],?_,nd h2⟩
 unfold jU
 rw[hl]
 simp [List.getD,eZ h2,h2]
theorem Ty{l pre rest:List aS}(hl:l=pre ++ rest)(hw:lC [] l=true):∀o∈pre,dQ o.op≠0:=by
 intro o ho
 obtain⟨p,q,hpq⟩:=List.append_of_mem ho
 have h:=vJ p [] o (q ++ rest) (by rw[←List.cons_append,←pY,←hpq,←hl];exact hw)
 unfold wf at h
 simp only[bD,jV] at h
 exact h.1.1.1
theorem apC{p:Prop}[Decidable p]{a b:List Int}(ha:a.length≤3)(hb:b.length≤3):(if p then a else b).length≤3:=by
 by_cases h:p
 ·rw[if_pos h];exact ha
 ·rw[if_neg h];exact hb
theorem ahV(op:Int):(jC op).length≤3:=by
 unfold jC
 repeat (first | exact(by decide:([]:List Int).length≤3) | refine apC (by decide) ?_)
theorem Hd{l pre rest:List aS}{x:aS}{A:cm}(hl:l=pre ++ x :: rest)(hw:lC [] l=true)(vV:l.length≤40)(hI:Inv l pre A):mF l x A:=by
 have tG:pre.length < l.length:=by rw[hl];simp
 have L7:=vJ pre [] x rest (by rw[←hl];exact hw)
 rw[List.nil_append] at L7
 unfold wf at L7
 simp only[bD,jV] at L7
 obtain⟨⟨⟨q1,q2⟩,q3⟩,q4,q5⟩:=L7
 obtain⟨o1,o2⟩:=aCu q1
 have ya:x.args.length≤3:=by rw[←q2];exact ahV x.op
 have Am:∀(k:Nat) (a:Int),x.args[k]? =some a→∃w,(jC x.op)[k]? =some w∧0≤a∧a < (pre.length:Int)∧∃o,pre[a.toNat]? =some o∧o∈pre∧jU l a=(dQ o.op).toNat∧acc w (dQ o.op)=true:=by
  intro k a hk
  have sr:k < (jC x.op).length:=by rw[q2];exact(bZ.1 hk).1
  have ct:=uR pre _ _ k _ a q4 (d8 sr) hk
  unfold Bb at ct
  simp only[bD,jV] at ct
  obtain⟨⟨b1,b2⟩,b3⟩:=ct
  obtain⟨o,c1,c2,c3⟩:=apB hl b1 b2
  rw[c1] at b3
  exact⟨_,d8 sr,b1,b2,o,c1,c3,c2,b3⟩
 have kj:∀a∈x.args,∃k,x.args[k]? =some a:=fun a ha=>List.getElem?_of_mem ha
 have wq:∀(a:Int) (o:aS),0≤a→pre[a.toNat]? =some o→(A.aL.getD a.toNat ([], .nil)).1.length=vI (dQ o.op).toNat:=fun a o h0 h1=>by
  have h2:=(bZ.1 h1).1
  have h3:a.toNat < A.aL.length:=by rw[hI.nv];exact h2
  have:A.aL.getD a.toNat ([], .nil)=A.aL[a.toNat]:=by simp [List.getD,h3]
  rw[this]
  exact hI.len a.toNat o _ h1 (d8 h3)
 have kJ:∀o∈pre,(dQ o.op).toNat=1∨(dQ o.op).toNat=2∨(dQ o.op).toNat=3:=fun o ho=>by
  have h1:=Ty hl hw o ho
  rcases sB o.op with h | h | h | h
  ·exact absurd h h1
  ·rw[h];exact .inl rfl
  ·rw[h];exact .inr (.inl rfl)
  ·rw[h];exact .inr (.inr rfl)
 have h2:x.op=5→x.args.length=2:=fun h=>by rw[←q2,h];rfl
 refine⟨o1,o2,by omega,fun a ha=>?_,hI.vr,h2,fun t ht=>?_,?_,by have:=hI.ins;omega,by have:=hI.roots;omega,hI.Tw,by have:=hI.dx;omega,by rw[hI.nv];omega⟩
 ·obtain⟨k,hk⟩:=kj a ha
  obtain⟨w,_,b1,b2,_⟩:=Am k a hk
  exact⟨b1,by omega,by rw[hI.nv];omega⟩
 ·have:∀t∈x.args.map (jU l),t < 4:=fun t ht=>by
   simp only[List.mem_map] at ht
   obtain⟨a,ha,rfl⟩:=ht
   obtain⟨k,hk⟩:=kj a ha
   obtain⟨w,_,b1,b2,o,c1,c2,c3,c4⟩:=Am k a hk
   rw[c3]
   have:=kJ o c2
   omega
  unfold stepT at ht
  split at ht
  ·rw[List.mem_append] at ht
   rcases ht with ht | ht
   ·exact this t ht
   ·simp at ht;omega
  ·exact this t ht
 ·
  by_cases h5:x.op=5
  ·have hlen:=h2 h5
   obtain⟨a,b,rI⟩:∃a b,x.args=[a,b]:=by
    match hx:x.args with
    | [a,b]=>exact⟨a,b,rfl⟩
    | []=>rw[hx] at hlen;simp at hlen
    | [_]=>rw[hx] at hlen;simp at hlen
    | _ :: _ :: _ :: _=>rw[hx] at hlen;simp at hlen
   obtain⟨w0,hw0,a1,a2,o,c1,c2,c3,c4⟩:=Am 0 a (by rw[rI];rfl)
   obtain⟨w1,hw1,b1,b2,o',d1,d2,d3,d4⟩:=Am 1 b (by rw[rI];rfl)
   have e0:jC x.op=[1,1]:=by rw[h5];rfl
   rw[e0] at hw0 hw1
   simp only[List.getElem?_cons_zero,List.getElem?_cons_succ,bM] at hw0 hw1
   subst hw0;subst hw1
   have t0:(dQ o.op).toNat=1:=by rcases sB o.op with h | h | h | h <;> rw[h] at c4 ⊢ <;> first | rfl | exact absurd c4 (by decide)
   have t1:(dQ o'.op).toNat=1:=by rcases sB o'.op with h | h | h | h <;> rw[h] at d4 ⊢ <;> first | rfl | exact absurd d4 (by decide)
   have r0:=wq a o a1 c1
   have r1:=wq b o' b1 d1
   rw[t0] at r0 c3;rw[t1] at r1 d3
   have e4:decide (x.op=4)=false:=by rw[h5];rfl
   rw[e4]
   unfold gU stepT d7 bI
   rw[if_pos h5,if_pos h5,rI]
   simp only[List.map_cons,List.map_nil,c3,d3,co,if_false]
   intro p hp
   simp only[List.getD_cons_zero,List.getD_cons_succ,List.cons_append,List.nil_append,List.zip_cons_cons,List.zip_nil_right,List.mem_cons,oR,or_false] at hp
   rcases hp with rfl | rfl | rfl
   ·rw[r0];exact Nat.le_refl 3
   ·rw[r0];exact Nat.le_refl 3
   ·rw[r1];exact Nat.le_refl 3
  ·have es:gU A.aL x=bI A.aL x.args:=by unfold gU;rw[if_neg h5]
   have et:stepT l x=x.args.map (jU l):=by unfold stepT;rw[if_neg h5]
   rw[es,et]
   intro p hp
   obtain⟨k,hk⟩:=List.getElem?_of_mem hp
   rw[List.getElem?_zip_eq_some] at hk
   obtain⟨k1,k2⟩:=hk
   unfold bI at k1
   rw[List.getElem?_map] at k1
   obtain⟨a,ka,kb⟩:=Option.map_eq_some_iff.1 k1
   obtain⟨w,hw,a1,a2,o,c1,c2,c3,c4⟩:=Am k a ka
   have r0:=wq a o a1 c1
   rw[←kb,r0]
   by_cases h4:x.op=4
   ·have e0:jC x.op=[2,2]:=by rw[h4];rfl
    rw[e0] at hw
    have hw2:w=2:=by
     match k,hw with
     | 0,hw=>simp at hw;exact hw.symm
     | 1,hw=>simp at hw;exact hw.symm
     | k+2,hw=>simp at hw
    subst hw2
    have t0:(dQ o.op).toNat=2:=by rcases sB o.op with h | h | h | h <;> rw[h] at c4 ⊢ <;> first | rfl | exact absurd c4 (by decide)
    rw[a9 h4] at k2
    unfold d7 at k2
    rw[if_pos rfl,List.getElem?_map] at k2
    obtain⟨y,_,ky⟩:=Option.map_eq_some_iff.1 k2
    rw[t0,←ky];decide
   ·rw[aT h4] at k2
    unfold d7 at k2
    rw[if_neg (by decide),List.getElem?_map,ka] at k2
    simp only[e9,bM] at k2
    rw[←k2,c3,ahR _ (kJ o c2)]
    exact Nat.le_refl _
end Go.jY
end
section
namespace Go.jY
open Go.Ab Go.iY
variable(G:Nat→AV)(X:Nat→List AV→St→ax)
theorem wY:∀(E:List Ex) (A:cm),(eR E A).1.aL=A.aL∧(eR E A).1.roots=A.roots∧(eR E A).1.dx=A.dx∧(eR E A).1.ins.length=A.ins.length+oc E
 | [],A=>⟨rfl,rfl,rfl,rfl⟩
 | e :: E,A=>by
  have h1:=fb e A
  have h2:=wY E (e.run A).1
  have h3:=dH e A
  rw[eR]
  refine⟨h2.1.trans h1.2.2.1,h2.2.1.trans h1.1,h2.2.2.1.trans h1.2.1,?_⟩
  rw[h2.2.2.2,h3,oc];omega
theorem lE:∀(D:List (List Nat×Df)) (A:cm),(cI D A).aL=A.aL∧(cI D A).roots.length≤A.roots.length+D.length∧A.dx≤(cI D A).dx∧(cI D A).dx≤A.dx+D.length∧(cI D A).ins.length=A.ins.length+fJ D
 | [],A=>⟨rfl,Nat.le_refl _,Int.le_refl _,by rw[cI];simp,rfl⟩
 | (w,y) :: D,A=>by
  have h:=lE D (y.run w A)
  rw[cI,fJ,cP]
  cases y with
  | gI=>
   have e1:(Df.gI.run w A).aL=A.aL:=rfl
   have e2:(Df.gI.run w A).roots=A.roots:=rfl
   have e3:(Df.gI.run w A).dx=A.dx+1:=rfl
   have e4:(Df.gI.run w A).ins.length=A.ins.length+1:=fQ A 1 A.dx 0
   rw[e1,e2,e3,e4] at h
   exact⟨h.1,by omega,by omega,by omega,by rw[h.2.2.2.2,Df.size];omega⟩
  | root e=>
   have r:=fb e A
   have e1:((Df.root e).run w A).aL=A.aL:=r.2.2.1
   have e2:((Df.root e).run w A).roots.length=A.roots.length+1:=by show((e.run A).1.roots ++ [_]).length=_;rw[r.1];simp
   have e3:((Df.root e).run w A).dx=A.dx:=r.2.1
   have e4:((Df.root e).run w A).ins.length=A.ins.length+(e.size+1):=by show((e.run A).1.emit 6 (e.run A).2 0).1.ins.length=_;rw[fQ,dH];omega
   rw[e1,e2,e3,e4] at h
   exact⟨h.1,by omega,by omega,by omega,by rw[h.2.2.2.2,Df.size];omega⟩
  | ex e=>
   have r:=fb e A
   have e1:((Df.ex e).run w A).aL=A.aL:=r.2.2.1
   have e2:((Df.ex e).run w A).roots=A.roots:=r.1
   have e3:((Df.ex e).run w A).dx=A.dx:=r.2.1
   have e4:((Df.ex e).run w A).ins.length=A.ins.length+e.size:=dH e A
   rw[e1,e2,e3,e4] at h
   exact⟨h.1,by omega,by omega,by omega,by rw[h.2.2.2.2,Df.size];omega⟩
theorem few(op:Nat)(c:Bool)(h1:1≤op)(h2:op≤16):(cT op c).length≤30:=by
 have t:∀op:Nat,op < 17→1≤op→∀c:Bool,(cT op c).length≤30:=by decide +kernel
 exact t op (by omega) h1 c
theorem ahW{l pre rest:List aS}{x:aS}{A:cm}(hI:Inv l pre A)(hx:mF l x A):Inv l (pre ++ [x]) (oe l x A):=by
 obtain⟨n,hn⟩:=Int.eq_ofNat_of_zero_le (show 0≤x.op by have:=hx.op1;omega)
 have Iv:1≤n:=by have:=hx.op1;omega
 have Ak:n≤16:=by have:=hx.op2;omega
 have CO:x.op.toNat=n:=by rw[hn];rfl
 let c:=mP (stepT l x)
 obtain⟨z1,z2,z3,z4,z5,z6⟩:=oD n c Iv Ak
 have z7:=few n c Iv Ak
 have hQ:f5 l x A=eR (gH n c) (cI (cT n c) (j2 l x A)):=by unfold f5;rw[CO]
 have c1:=wY (gH n c) (cI (cT n c) (j2 l x A))
 have d1:=lE (cT n c) (j2 l x A)
 rw[←hQ] at c1
 have ev:(j2 l x A).aL=A.aL:=rfl
 have er:(j2 l x A).roots=A.roots:=rfl
 have ei:(j2 l x A).dx=A.dx:=rfl
 have es:(j2 l x A).ins=A.ins:=rfl
 rw[ev,er,ei,es] at d1
 have hv:(f5 l x A).1.aL=A.aL:=c1.1.trans d1.1
 have oK:(oe l x A).aL=A.aL ++ [((f5 l x A).2,fO (f5 l x A).2)]:=by
  show(f5 l x A).1.aL ++ _=_;rw[hv]
 have hgf:∀a,fO (f5 l x A).2≠.bJ a:=fun a e=>by unfold fO at e;split at e <;> cases e
 refine⟨by rw[oK];simp [hI.nv],fun k y v hk Yo=>?_,fun v hv a=>?_,?_,?_,?_,?_⟩
 ·rw[oK] at Yo
  by_cases cM:k < pre.length
  ·rw[eZ cM] at hk
   rw[eZ (by rw[hI.nv];exact cM)] at Yo
   exact hI.len k y v hk Yo
  ·have sr:=(bZ.1 hk).1
   simp at sr
   have hk0:k=pre.length:=by omega
   subst hk0
   rw[←hI.nv] at Yo
   rw[List.getElem?_append_right (Nat.le_refl _)] at hk Yo
   simp at hk Yo
   subst hk;subst Yo
   show(f5 l x A).2.length=_
   rw[hQ,Jh,hn]
   exact apt n c Iv Ak
 ·rw[oK] at hv
  simp only[List.mem_append,List.mem_singleton] at hv
  rcases hv with hv | rfl
  ·exact hI.vr v hv a
  ·exact hgf a
 ·show(f5 l x A).1.ins.length≤_
  rw[c1.2.2.2,d1.2.2.2.2];have:=hI.ins;simp;omega
 ·show(f5 l x A).1.roots.length≤_
  rw[c1.2.1];have:=hI.roots;simp;omega
 ·show 0≤(f5 l x A).1.dx
  rw[c1.2.2.1];have:=hI.Tw;omega
 ·show(f5 l x A).1.dx≤_
  rw[c1.2.2.1];have:=hI.dx;simp;omega
theorem apG(l:List aS):Inv l [] nL:=⟨rfl,fun k x v h=>by simp at h,fun v h=>by simp [nL] at h,Nat.le_refl _,Nat.le_refl _,Int.le_refl _,Int.le_refl _⟩
theorem An{l:List aS}(hw:lC [] l=true)(vV:l.length≤40):∀(p pre q:List aS) (A:cm),l=pre ++ p ++ q→Inv l pre A→Inv l (pre ++ p) (nK l p A)
 | [],pre,q,A,hl,hI=>by rw[List.append_nil];exact hI
 | x :: p,pre,q,A,hl,hI=>by
  have hx:=Hd (rest:=p ++ q) (x:=x) (by rw[hl];simp) hw vV hI
  have h1:=ahW (rest:=p ++ q) hI hx
  have:=An hw vV p (pre ++ [x]) q (oe l x A) (by rw[hl];simp) h1
  rw[nK]
  simpa using this
theorem Ji{l:List aS}(hw:lC [] l=true)(vV:l.length≤40)(p q:List aS)(x:aS)(hl:l=p ++ x :: q):mF l x (nK l p nL):=by
 have:=An hw vV p [] (x :: q) nL (by rw[hl];rfl) (apG l)
 rw[List.nil_append] at this
 exact Hd hl hw vV this
theorem vK{l:List aS}(h:fB l=0):lC [] l=true∧l.length≤40:=by
 unfold fB at h
 cases hw:lC [] l with
 | false=>rw[hw] at h;simp at h
 | true=>
  rw[hw] at h
  simp only[cond_true] at h
  split at h
  ·cases h
  ·rename_i h1;exact⟨rfl,by omega⟩
def rJ(l:List aS):cm:=nK l l nL
def Yp(A:cm)(gi gv gr:Gr):AV:=Bk A.dx A.ins gi A.aL gv A.roots gr
abbrev gN:List AV:=[.int .i64 0, .sl 3 [] .nil, .sl 1 [] .nil, .sl 1 [] .nil]
theorem Ao{S:St}{k:K1}{i n:Nat}{cs:List AV}(h:S.own[i]? =some (.cells cs))(hn:n≤cs.length):(PP T1 G X).aq S k (some n) (.ref (.l i) 0)=k (.agg (cs.take n)) S:=by
 rw[nA]
 simp only[fK,show S.get (.l i)=some (.cells cs) from h,bW]
 exact e7 (T:=T1) (G:=G) (X:=X) (s:=S) (k:=k) n cs hn
theorem aw9(l:List aS)(g:Gr)(hg:∀a,g≠.bJ a)(hl:l.length < 9223372036854775806)(ct:∀o,o∈l→sp o)(S:St):
  ∃F' v,aJ T1 G X 11 [bQ l g] S= .ok (.cS [v,I (fB l)]) {S with own:=F'}∧(if fB l=0 then∃gi gv gr,v=Yp (rJ l) gi gv gr else v= .agg gN)∧(∀(i:Nat) (cs:List AV),S.own[i]? =some (.cells cs)→F'[i]? =some (.cells cs))∧S.own.length≤F'.length:=by
 let S1:St:=S.new (.cells gN)
 have hp:=fk l hg S1.aa
 have c:=age G X l g hg S1 hl ct
 have apH:S1.own[S.own.length]? =some (.cells gN):=by simp [S1,St.new]
 have apq:∀(i:Nat) (cs:List AV),S.own[i]? =some (.cells cs)→S1.own[i]? =some (.cells cs):=fun i cs hi=>(eZ (bZ.1 hi).1).trans hi
 by_cases h0:fB l=0
 ·obtain⟨hw,vV⟩:=vK h0
  let F:List bg:=S.own ++ [.cells gN] ++ [.cells (nL.cells .dI .nil .nil .nil)]
  let j:=S.own.length+1
  have hjF:F[j]? =some (.cells (nL.cells .dI .nil .nil .nil)):=by simp [F,j]
  have h2F:F[S.own.length]? =some (.cells gN):=by simp [F]
  have nb:∀(d:Nat) (g':Gr),apart d .nil g':=fun d g' t e=>by cases e
  have hA:lD F S.aa j nL .dI .nil .nil .nil:=⟨hjF, .inl ⟨rfl,rfl⟩, .inl ⟨rfl,rfl⟩, .inl ⟨rfl,rfl⟩,nb _ _,nb _ _,nb _ _⟩
  obtain⟨F',mv,gi,gv,gr,e1,a1,z1,l1,k1⟩:=Yn G X l g hg hl ct h0 (j:=j) (i2:=S.own.length) (by omega) gN S l [] F nL .dI .nil .nil .nil rfl hA h2F (fun p q x hpq=>Ji hw vV p q x hpq)
  let A:=rJ l
  have pn:F'[j]? =some (.cells (A.cells mv gi gv gr)):=a1.c
  have oT:=(bZ.1 pn).1
  have h2l:=(bZ.1 z1).1
  let tu:List AV:=(A.cells mv gi gv gr).set 0 (I A.dx)
  let F1:=F'.set j (.cells tu)
  have Ue:F1[j]? =some (.cells tu):=by simp [F1,oT]
  have hz1:F1[S.own.length]? =some (.cells gN):=by
   rw[eM (by omega)];exact z1
  let F2:=F1.set S.own.length (.cells (tu.take 4))
  have hz2:F2[S.own.length]? =some (.cells (tu.take 4)):=by simp [F2,F1,h2l]
  have ld5:=fun(k:K1)=>lT G X (S:={S with own:=F'}) (k:=k) (i:=j) (o:=0+5) (c:=I A.dx) pn rfl
  have st0:=fun(k:K1)=>Aj G X (S:={S with own:=F'}) (k:=k) (i:=j) (o:=0+0+0) (cs:=A.cells mv gi gv gr) (v:=I A.dx) pn (by simp [cm.cells]) rfl rfl rfl
  have GV:=fun(k:K1)=>Ao G X (S:={S with own:=F1}) (k:=k) (i:=j) (n:=4) Ue (by simp [tu,cm.cells])
  have st4:=fun(k:K1)=>se (T:=T1) (G:=G) (X:=X) (S:={S with own:=F1}) (k:=k) (j:=S.own.length) (n:=4) (cs:=gN) (vs:=tu.take 4) hz1 rfl rfl rfl
  have k7:=mM (S:={S with own:=F2}) (n:=4) hz2 rfl
  refine⟨F2,Yp A gi gv gr,?_,by rw[if_pos h0];exact⟨gi,gv,gr,rfl⟩,fun i cs hi=>?_,?_⟩
  ·rw[I3,ae4,jR]
   show(PP T1 G X).aB S1 _ 42 [AV.av S1.aa (bQ l g)]=_
   rw[hp]
   refine(aN c).trans ?_
   rw[eO,aT (by simp [h0]),bf,Wl _ (aA _ _ _)]
   have Ml:S1.own.length=j:=by simp [S1,St.new,j]
   have b6:∀k:K1,(PP T1 G X).dh [.int .i64 0, .sl 3 [] .nil, .sl 1 [] .nil, .sl 1 [] .nil, .dI, .int .i64 0] [] S1 k=k (.agg (nL.cells .dI .nil .nil .nil)) S1:=fun k=>rfl
   have bm:∀k:K1,(PP T1 G X).mZ (.agg (nL.cells .dI .nil .nil .nil)) S1 k=k (.ref (.l j) 0) {S with own:=F}:=fun k=>by
    rw[IS _ rfl,Ml]
    rfl
   rw[b6,bm,bt,cw]
   refine e1.trans ?_
   rw[Q4 _ (aA _ _ _),aU,aC,ld5,aU,aC,aC]
   refine(st0 _).trans ?_
   rw[aU,aC]
   refine(GV _).trans ?_
   refine(st4 _).trans ?_
   show(PP T1 G X).aI true [gB {S with own:=F2} (.ref (.l S.own.length) 0) (some 4),some (.int .i64 0)] {S with own:=F2}=_
   rw[k7,h0]
   rfl
  ·have na:=(bZ.1 hi).1
   have hF:F[i]? =some (.cells cs):=by
    show(S.own ++ [_] ++ [_])[i]? =_
    rw[pY,eZ na];exact hi
   show F2[i]? =_
   rw[eM (by omega),eM (by omega)]
   exact k1 i cs hF (by omega)
  ·show _≤F2.length
   simp only[F2,F1,List.length_set]
   have:F.length=S.own.length+2:=by simp [F]
   omega
 ·have stz:=fun(k:K1)=>qz (T:=T1) (G:=G) (X:=X) (s:=S) (k:=k) 4 gN gN rfl rfl rfl
  refine⟨S1.own, .agg gN,?_,by rw[if_neg h0],apq,by simp [S1,St.new]⟩
  have k7:=mM (S:=S1) (n:=4) apH rfl
  rw[I3,ae4,jR]
  show(PP T1 G X).aB S1 _ 42 [AV.av S1.aa (bQ l g)]=_
  rw[hp]
  refine(aN c).trans ?_
  rw[eO,a9 h0,be]
  have b4:∀k:K1,(PP T1 G X).dh [.int .i64 0, .sl 3 [] .nil, .sl 1 [] .nil, .sl 1 [] .nil] [] S1 k=k (.agg gN) S1:=fun k=>rfl
  rw[b4]
  refine(stz _).trans ?_
  show(PP T1 G X).aI true [gB S1 (.ref (.l S.own.length) 0) (some 4),some (I (fB l))] S1=_
  rw[k7]
  rfl
structure Yq (F:List bg) (d:Nat) (L:List (Gr×Nat)):Prop where
 gr:∀(k:Nat) (p:Gr×Nat),L[k]? =some p→cH F d p.1 p.2
 ap:∀(k k':Nat) (p p':Gr×Nat),k≠k'→L[k]? =some p→L[k']? =some p'→apart d p.1 p'.1
structure KB (F F':List bg) (j:Nat):Prop where
 aK:∀(i:Nat) (cs:List AV),F[i]? =some (.cells cs)→i≠j→F'[i]? =some (.cells cs)
 len:F.length≤F'.length
theorem KB.refl(F:List bg)(j:Nat):KB F F j:=⟨fun _ _ h _=>h,Nat.le_refl _⟩
theorem KB.trans{F F1 F2:List bg}{j:Nat}(h:KB F F1 j)(k:KB F1 F2 j):KB F F2 j:=⟨fun i cs hi cK=>k.aK i cs (h.aK i cs hi cK) cK,Nat.le_trans h.len k.len⟩
structure eT (d j:Nat) (S S':St):Prop where
 st:∃F,S'=S.bz d F
 kb:KB (S.cC d) (S'.cC d) j
section
variable{d j:Nat}{S S':St}
theorem eT.refl(fd:fE S d):eT d j S S:=⟨⟨S.cC d,by rw[mN fd]⟩, .refl _ _⟩
theorem eT.trans{Tb:St}(h:eT d j S S')(k:eT d j S' Tb):eT d j S Tb:=by
 obtain⟨F,rfl⟩:=h.st
 obtain⟨F',rfl⟩:=k.st
 exact⟨⟨F',by rw[gT]⟩,h.kb.trans k.kb⟩
theorem eT.aa(h:eT d j S S'):S'.aa=S.aa:=by obtain⟨F,rfl⟩:=h.st;rw[eV]
theorem Yq.set{F:List bg}{L:List (Gr×Nat)}{cs:List AV}(h:Yq F d L)(hj:F[j]? =some (.cells cs))(o:bg):Yq (F.set j o) d L:=
 ⟨fun k p hp=>cH.set (h.gr k p hp) hj (fun _ e=>by cases e),h.ap⟩
theorem sC{cs es new:List AV}{L:List (Gr×Nat)}{k o q bytes:Nat}{g g2:Gr}(h:fE S d)(cK:d≠S.aa)(hc:(S.cC d)[j]? =some (.cells cs))(T:Yq (S.cC d) d L)(hk:L[k]? =some (g,es.length))(ho:o < cs.length)(hn:new≠[])(hb:(es.length+new.length) * bytes≤1099511627776)(k7:(new.flatMap AV.cells).all AV.dU=true)(sR:∀a,g2≠.bJ a):
  ∃F2 g',Yq F2 d (L.set k (g',es.length+new.length))∧F2[j]? =some (.cells (cs.set o (.sl q (es ++ new) g')))∧KB (S.cC d) F2 j∧
   ∀K:K1,(PP T1 G X).cz S (fun v s=>(PP T1 G X).a7 s K 1 (.ref (.g d j) o) (AV.av s.aa v)) q bytes (some (.g d j)) (.sl q es g) (.sl q new g2)=K .dead (S.bz d F2):=by
 have sr:=(bZ.1 hk).1
 have hg:=T.gr k _ hk
 obtain⟨t,F1,k1,k2,k3,k4,k5⟩:=ago G X (S:=S) (i:=j) (q:=q) (bytes:=bytes) (es:=es) (new:=new) (g:=g) (g2:=g2) h cK hg hn hb k7 sR
 have pn:F1[j]? =some (.cells cs):=k4.pj j _ hc (fun e=>by have:=(cH.le (e ▸ hg)).1;rw[hc] at this;cases this)
 have oT:=(bZ.1 pn).1
 have S7:t≠j:=fun e=>by subst e;rw[pn] at k1;cases k1
 have my:(S.bz d F1).cC d=F1:=cj h F1
 have st:=fun K:K1=>lQ (T:=T1) (G:=G) (X:=X) (k:=K) (h.put d F1) (by rw[my];exact pn) (o:=o) (v:=.sl q (es ++ new) (.bJ (.g d t))) ho rfl rfl rfl (.inr (GZ d t _ _))
 rw[my,gT] at st
 refine⟨F1.set j (.cells (cs.set o (.sl q (es ++ new) (.bJ (.g d t))))), .bJ (.g d t),?_,by simp [oT],⟨fun i nX hi kE=>?_,by rw[List.length_set];exact k4.len⟩,fun K=>?_⟩
 ·have l7:∀(k':Nat) (p:Gr×Nat),k≠k'→L[k']? =some p→∀u,p.1= .bJ (.g d u)→t≠u:=fun k' p Ub hp u e e2=>by
   have hu:=(cH.le (e ▸ T.gr k' p hp)).1
   have hul:=(bZ.1 hu).1
   rcases hg with⟨e3,h0⟩ | ⟨u',e3,h1,h2⟩
   ·have:=k2 e3;omega
   ·have:=k3 u' e3;subst this;subst e2;exact T.ap k k' _ _ Ub hk hp _ e3 e
  refine⟨fun k' p hp=>?_,fun a b p p' rI hp mb=>?_⟩
  ·by_cases Ub:k=k'
   ·subst Ub
    rw[List.getElem?_set_self sr] at hp
    injection hp with hp;subst hp
    exact .inr ⟨t,rfl,by cases new with | nil=>exact absurd rfl hn | cons a b=>simp;omega,by rw[eM (Ne.symm S7),k1]⟩
   ·rw[eM Ub] at hp
    exact cH.set (q9.X6 k4 (T.gr k' p hp) (T.ap k k' _ _ Ub hk hp)) pn (fun _ e=>by cases e)
  ·by_cases ha:k=a
   ·subst ha
    rw[List.getElem?_set_self sr] at hp
    injection hp with hp;subst hp
    rw[eM rI] at mb
    intro u e e2
    injection e with e;injection e with e3 e4
    exact l7 b p' rI mb u e2 e4
   ·rw[eM ha] at hp
    by_cases gl:k=b
    ·subst gl
     rw[List.getElem?_set_self sr] at mb
     injection mb with mb;subst mb
     intro u e e2
     injection e2 with e2;injection e2 with e3 e4
     exact l7 a p ha hp u e e4
    ·rw[eM gl] at mb
     exact T.ap a b p p' rI hp mb
 ·rw[eM (Ne.symm kE)]
  exact k4.pj i _ hi (fun e=>by have:=(cH.le (e ▸ hg)).1;rw[hi] at this;cases this)
 ·refine(k5 _).trans ?_
  exact st K
end
def e8(A:cm)(gi gv gr gn gq:Gr)(src:List Nat)(n:Nat):List AV:=[I 0, .sl 3 (A.ins.map gG.enc) gi, .sl 1 (A.aL.map bN) gv,gp A.roots gr, .sl 1 (A.env.reverse.map fun p=>.str p.1) gn,gp (A.env.reverse.map Prod.snd) gq, .str src,In n,I A.dx]
structure BS (d j:Nat) (S:St) (A:cm) (src:List Nat) (n:Nat):Prop where
 fd:fE S d
 c:∃gi gv gr gn gq,(S.cC d)[j]? =some (.cells (e8 A gi gv gr gn gq src n))∧Yq (S.cC d) d [(gi,A.ins.length),(gv,A.aL.length),(gr,A.roots.length),(gn,A.env.length),(gq,A.env.length)]
 l:n≤src.length
 b:src.length < 1000000000
section
variable{d j n:Nat}{S:St}{A:cm}{src:List Nat}
theorem BS.ai(h:BS d j S A src n):BS d j S.ai A src n:=⟨h.fd.ai,by rw[fI h.fd];exact h.c,h.l,h.b⟩
theorem BS.ne(h:BS d j S A src n):d≠S.ai.aa:=by have:=h.fd.hi;have:=gF S;omega
theorem eT.exit{S1:St}{A':cm}{jD:List Nat}{n':Nat}(h:BS d j S A src n)(u:eT d j S.ai S1)(k:BS d j S1 A' jD n'):∃S',S1=S'.ai∧eT d j S S'∧BS d j S' A' jD n':=by
 obtain⟨F,rfl⟩:=u.st
 have kb:=u.kb
 rw[cj h.fd.ai,fI h.fd] at kb
 have c:=k.c
 rw[cj h.fd.ai] at c
 exact⟨S.bz d F,(jx h.fd F).symm,⟨⟨F,rfl⟩,by rw[cj h.fd];exact kb⟩,⟨h.fd.put _ _,by rw[cj h.fd];exact c,k.l,k.b⟩⟩
theorem BS.oQ(h:BS d j S A src n)(k:K1):(PP T1 G X).aq S k none (.ref (.g d j) (0+6))=k (.str src) S:=by obtain⟨_,_,_,_,_,c,_⟩:=h.c;exact hZ h.fd c rfl
theorem BS.oY(h:BS d j S A src n)(k:K1):(PP T1 G X).aq S k none (.ref (.g d j) (0+7))=k (In n) S:=by obtain⟨_,_,_,_,_,c,_⟩:=h.c;exact hZ h.fd c rfl
theorem BS.at(h:BS d j S A src n)(m:Nat)(hm:m≤src.length):∃S',BS d j S' A src m∧eT d j S S'∧∀k:K1,(PP T1 G X).a7 S k 1 (.ref (.g d j) (0+7)) (AV.av S.aa (In m))=k .dead S':=by
 obtain⟨gi,gv,gr,gn,gq,c,T⟩:=h.c
 have oT:=(bZ.1 c).1
 have hf:=fun F=>cj h.fd F
 refine⟨S.bz d ((S.cC d).set j (.cells (e8 A gi gv gr gn gq src m))),⟨h.fd.put _ _,⟨gi,gv,gr,gn,gq,by rw[hf];simp [oT],by rw[hf];exact T.set c _⟩,hm,h.b⟩,⟨⟨_,rfl⟩,?_⟩,fun k=>lQ h.fd c (by simp [e8]) rfl rfl rfl (.inl rfl)⟩
 rw[hf]
 exact⟨fun i cs hi kE=>by rw[eM (Ne.symm kE)];exact hi,by rw[List.length_set];exact Nat.le_refl _⟩
theorem apI(h:BS d j S A src n)(hb:A.ins.length < 1000000000)(op a b:Int):∃S',aJ T1 G X 146 [.ref (.g d j) 0,I op,I a,I b] S= .ok (I (A.emit op a b).2) S'∧BS d j S' (A.emit op a b).1 src n∧eT d j S S':=by
 have h0:=h.ai
 obtain⟨gi,gv,gr,gn,gq,c,T⟩:=h0.c
 have ld:=fun k:K1=>GY G X k h0.fd c (o:=0+0+1) (c:=.sl 3 (A.ins.map gG.enc) gi) rfl
 have bd:∀(S:St) (k:K1),(PP T1 G X).dh [.int .i64 0, .int .i64 0, .int .i64 0] [(0,1,I op),(1,1,I a),(2,1,I b)] S k=k (gG.enc (gG.mk op a b)) S:=fun S k=>rfl
 have bs:∀(S:St) (k:K1),(PP T1 G X).aF S k 3 [gG.enc (gG.mk op a b)]=k (.sl 3 [gG.enc (gG.mk op a b)] .exact) S:=fun S k=>rfl
 obtain⟨F2,g',T2,c2,kb,ap⟩:=sC G X (S:=S.ai) (j:=j) (k:=0) (o:=0+0+1) (q:=3) (bytes:=24) (es:=A.ins.map gG.enc) (new:=[gG.enc (gG.mk op a b)]) (g:=gi) (g2:=.exact) h0.fd h.ne c T (by simp) (by simp [e8]) (by simp) (by simp;omega) rfl (fun a e=>by cases e)
 have jq:(S.ai.bz d F2).cC d=F2:=cj h0.fd F2
 let A':=(A.emit op a b).1
 have e1:A.ins.map gG.enc ++ [gG.enc (gG.mk op a b)]=A'.ins.map gG.enc:=by simp [A',cm.emit]
 rw[e1] at c2
 have el:A'.ins.length=A.ins.length+1:=fQ A op a b
 have hB:BS d j (S.ai.bz d F2) A' src n:=⟨h0.fd.put _ _,⟨g',gv,gr,gn,gq,by rw[jq];exact c2,by rw[jq];rw[cw] at T2;simp only[List.set_cons_zero,cP,eh,Nat.zero_add] at T2;rw[el];exact T2⟩,h.l,h.b⟩
 obtain⟨S',e2,u,k⟩:=eT.exit h ⟨⟨F2,rfl⟩,by rw[jq];exact kb⟩ hB
 refine⟨S',?_,k,u⟩
 have G3:=fun k:K1=>GY G X k hB.fd (by rw[jq];exact c2) (o:=0+0+1) (c:=.sl 3 (A'.ins.map gG.enc) g') rfl
 rw[Xd,anQ,aU,aC,aC,ld,bd,bs]
 refine(ap _).trans ?_
 rw[aU,aC,aC]
 refine(G3 _).trans ?_
 rw[bt,cw,el,qv,ie _ (by omega) (by omega),e2]
 show(PP T1 G X).aI false [some (I (((A.ins.length+1:Nat):Int) - 1))] S'.ai=_
 rw[show(((A.ins.length+1:Nat):Int) - 1)=(A.ins.length:Int) by omega]
 exact b8 _ _
end
section
variable{d j n:Nat}{S:St}{A:cm}{src:List Nat}
def RB(d j:Nat)(R:ax)(S:St)(A':cm)(src:List Nat)(r:List Nat)(v:AV):Prop:=
 ∃S1,R=(PP T1 G X).aI false [some v] S1∧BS d j S1 A' src (posOf src r)∧eT d j S S1∧src.drop (posOf src r)=r
theorem RB.via{S2:St}{R:ax}{A':cm}{r:List Nat}{v:AV}(u:eT d j S S2)(b:RB G X d j R S2 A' src r v):RB G X d j R S A' src r v:=by
 obtain⟨S1,e,h,u2,dr⟩:=b
 exact⟨S1,e,h,u.trans u2,dr⟩
theorem RB.of{R R':ax}{A':cm}{r:List Nat}{v:AV}(e:R=R')(b:RB G X d j R' S A' src r v):RB G X d j R S A' src r v:=e ▸ b
theorem RB.aCy{R:ax}{A':cm}{r:List Nat}{x:Int}(h:BS d j S A src n)(b:RB G X d j R S.ai A' src r (I x)):∃S',R= .ok (I x) S'∧BS d j S' A' src (posOf src r)∧eT d j S S'∧src.drop (posOf src r)=r:=by
 obtain⟨S1,e,k,u,dr⟩:=b
 obtain⟨S',rfl,u',k'⟩:=eT.exit h u k
 exact⟨S',by rw[e];exact b8 _ _,k',u',dr⟩
theorem Tz:∀(l:List Nat) (n:Nat) (S:St),BS d j S A src n→src.drop n=l→
  ∃S1,zI (PP T1 G X) (.ref (.g d j) 0) S=(PP T1 G X).aI false [] S1∧BS d j S1 A src (posOf src (skip l))∧eT d j S S1∧src.drop (posOf src (skip l))=skip l:=by
 intro l
 induction l with
 | nil=>
  intro n S h hd
  have hn:=drop_nil hd h.l
  have c:¬(n:Int) < (src.length:Int):=by omega
  have e:posOf src (skip [])=n:=by simp [posOf,skip,hn]
  refine⟨S,?_,by rw[e];exact h, .refl h.fd,by rw[e,hd];rfl⟩
  rw[uC _ (aA _ _ _),aU,aC,h.oY,aU,aC,h.oQ,dY,bb,aT c]
  simp only[fV,dw,bf]
 | cons x l ih=>
  intro n S h hd
  obtain⟨h1,h2,h3⟩:=jy hd
  have c:(n:Int) < (src.length:Int):=by omega
  have ix:=fun(k:K1)=>gS G X (s:=S) (k:=k) src .i64 n x h1
  have a1:=fun(S:St) (k:K1)=>gD G X S k n (by have:=h.b;omega)
  by_cases hx:x=32
  ·obtain⟨S1,k1,u1,st⟩:=h.at G X (n+1) (by omega)
   obtain⟨S2,e2,k2,u2,dr⟩:=ih (n+1) S1 k1 h2
   have es:skip (x :: l)=skip l:=by rw[skip,if_pos hx]
   rw[es]
   refine⟨S2,?_,k2,u1.trans u2,dr⟩
   have cx:((x:Nat):Int)=32:=by omega
   rw[uC _ (aA _ _ _),aU,aC,h.oY,aU,aC,h.oQ,dY,bb,a9 c]
   simp only[dP]
   rw[aU,aC,h.oQ,aU,aC,h.oY,ix,bj,a9 cx,c7,be,R9 _ (aA _ _ _),aU,aC,h.oY,a1,aU,aC]
   exact(st _).trans e2
  ·have es:skip (x :: l)=x :: l:=by rw[skip,if_neg hx]
   have e:posOf src (x :: l)=n:=(io hd h.l).symm
   rw[es,e]
   refine⟨S,?_,h, .refl h.fd,hd⟩
   have cx:¬((x:Nat):Int)=32:=by omega
   rw[uC _ (aA _ _ _),aU,aC,h.oY,aU,aC,h.oQ,dY,bb,a9 c]
   simp only[dP]
   rw[aU,aC,h.oQ,aU,aC,h.oY,ix,bj,aT cx,c7,bf]
theorem sE(s:St):(PP T1 G X).aI false [] s.ai= .ok (.cS []) s:=rfl
theorem TA{l:List Nat}(h:BS d j S A src n)(hd:src.drop n=l):∃S',aJ T1 G X 202 [.ref (.g d j) 0] S= .ok (.cS []) S'∧BS d j S' A src (posOf src (skip l))∧eT d j S S'∧src.drop (posOf src (skip l))=skip l:=by
 obtain⟨S1,e,k,u,dr⟩:=Tz G X l n S.ai h.ai hd
 obtain⟨S',rfl,u',k'⟩:=eT.exit h u k
 exact⟨S',by rw[Xh,anU,e];exact sE G X _,k',u',dr⟩
def j9(c:Nat)(l:List Nat):List Nat:=match skip l with
 | []=>[]
 | x :: r=>if x=c then r else x :: r
def Bl(c:Nat)(l:List Nat):Bool:=match skip l with
 | []=>false
 | x :: _=>decide (x=c)
theorem apJ{l:List Nat}(h:BS d j S A src n)(hd:src.drop n=l)(c:Nat):∃S',aJ T1 G X 187 [.ref (.g d j) 0, .int .u8 (c:Int)] S= .ok (.bool (Bl c l)) S'∧BS d j S' A src (posOf src (j9 c l))∧eT d j S S'∧src.drop (posOf src (j9 c l))=j9 c l:=by
 obtain⟨S1,e1,h1,u1,d1⟩:=TA G X h.ai hd
 have call:∀k:K1,(PP T1 G X).aB S.ai k 202 [AV.av S.ai.aa (.ref (.g d j) 0)]=k (.cS []) S1:=fun k=>dJ e1 u1.aa
 rw[Xf,anS,call]
 unfold Bl j9
 have fin:∀(S2:St) (b:Bool) (r:List Nat),eT d j S.ai S2→BS d j S2 A src (posOf src r)→src.drop (posOf src r)=r→∃S',(PP T1 G X).aI false [some (.bool b)] S2= .ok (.bool b) S'∧BS d j S' A src (posOf src r)∧eT d j S S'∧src.drop (posOf src r)=r:=fun S2 b r u k dr=>by
  obtain⟨S',rfl,u',k'⟩:=eT.exit h u k
  exact⟨S',bq _,k',u',dr⟩
 cases hk:skip l with
 | nil=>
  rw[hk] at h1 d1
  have hn:=drop_nil d1 h1.l
  have c0:¬((posOf src []:Nat):Int) < (src.length:Int):=by omega
  rw[aU,aC,h1.oY,aU,aC,h1.oQ,dY,bb,aT c0]
  simp only[fV,dw,bf]
  rw[Cy _ (aA _ _ _)]
  exact fin S1 false [] u1 h1 d1
 | cons x r=>
  rw[hk] at h1 d1
  obtain⟨g1,g2,g3⟩:=jy d1
  have c0:((posOf src (x :: r):Nat):Int) < (src.length:Int):=by omega
  have ix:=fun(k:K1)=>gS G X (s:=S1) (k:=k) src .i64 (posOf src (x :: r)) x g1
  have a1:=fun(S:St) (k:K1)=>gD G X S k (posOf src (x :: r)) (by have:=h.b;omega)
  rw[aU,aC,h1.oY,aU,aC,h1.oQ,dY,bb,a9 c0]
  simp only[dP]
  rw[aU,aC,h1.oQ,aU,aC,h1.oY,ix,bj,c7]
  by_cases hx:x=c
  ·obtain⟨S2,h2,u2,st⟩:=h1.at G X (posOf src (x :: r)+1) (by omega)
   have e2:posOf src (x :: r)+1=posOf src r:=io g2 (by omega)
   rw[a9 (by omega),be,aU,aC,h1.oY,a1,aU,aC,if_pos hx,a9 hx]
   rw[e2] at h2 st
   rw[e2]
   obtain⟨S',f1,f2,f3,f4⟩:=fin S2 true r (u1.trans u2) h2 (by rw[←e2,g2])
   exact⟨S',(st _).trans f1,f2,f3,f4⟩
  ·rw[aT (by omega),bf,if_neg hx,aT hx,Cy _ (aA _ _ _)]
   exact fin S1 false (x :: r) u1 h1 d1
end
section
variable{d j n:Nat}{S:St}{A:cm}{src:List Nat}
theorem BS.X5(h:BS d j S A src n):∃gn,∀k:K1,(PP T1 G X).aq S k none (.ref (.g d j) (0+4))=k (.sl 1 (A.env.reverse.map fun p=>AV.str p.1) gn) S:=by obtain⟨_,_,_,gn,_,c,_⟩:=h.c;exact⟨gn,fun k=>hZ h.fd c rfl⟩
theorem BS.ldQ(h:BS d j S A src n):∃gq,∀k:K1,(PP T1 G X).aq S k none (.ref (.g d j) (0+5))=k (gp (A.env.reverse.map Prod.snd) gq) S:=by obtain⟨_,_,_,_,gq,c,_⟩:=h.c;exact⟨gq,fun k=>hZ h.fd c rfl⟩
theorem apK(h:BS d j S A src n)(w:List Nat)(hb:A.env.length < 1000000000):aJ T1 G X 208 [.ref (.g d j) 0, .str w] S= .ok (I ((lY A.env w).getD 0)) S:=by
 have h0:=h.ai
 obtain⟨gn,X5⟩:=h0.X5 G X
 obtain⟨gq,ldQ⟩:=h0.ldQ G X
 have loop:∀k:Nat,k≤A.env.length→zL (PP T1 G X) (.ref (.g d j) 0) (.str w) (I ((k:Int) - 1)) S.ai= .ok (I ((lY (A.env.drop (A.env.length - k)) w).getD 0)) S:=by
  intro k
  induction k with
  | zero=>
   intro hk
   rw[CA _ (aA _ _ _),gQ,aT (by omega),bf,Sm _ (aA _ _ _),Nat.sub_zero,List.drop_length]
   exact b8 _ _
  | succ k ih=>
   intro hk
   have ih:=ih (by omega)
   have e0:(((k+1:Nat):Int) - 1)=(k:Int):=by omega
   have hi:A.env.length - (k+1) < A.env.length:=by omega
   have hx:A.env.reverse[k]? =some (A.env[A.env.length - (k+1)]):=by
    rw[List.getElem?_reverse (by omega),show A.env.length - 1 - k=A.env.length - (k+1) by omega,d8 hi]
   have apL:A.env.drop (A.env.length - (k+1))=A.env[A.env.length - (k+1)] :: A.env.drop (A.env.length - k):=by
    rw[List.drop_eq_getElem_cons hi,show A.env.length - (k+1)+1=A.env.length - k by omega]
   generalize A.env[A.env.length - (k+1)]=p at hx apL
   obtain⟨y,v⟩:=p
   have g1:(A.env.reverse.map fun p=>AV.str p.1)[k]? =some (.str y):=by rw[List.getElem?_map,hx];rfl
   have g2:((A.env.reverse.map Prod.snd).map I)[k]? =some (I v):=by rw[List.getElem?_map,List.getElem?_map,hx];rfl
   have i1:=fun(k':K1)=>l9 (T:=T1) (G:=G) (X:=X) (s:=S.ai) (k:=k') 1 _ gn .i64 k _ g1
   have i2:=fun(k':K1)=>l9 (T:=T1) (G:=G) (X:=X) (s:=S.ai) (k:=k') 1 _ gq .i64 k _ g2
   have l1:=fun(k:K1)=>show(PP T1 G X).aq S.ai k none (.bO (AV.cells (.str y)))=k (.str y) S.ai from rfl
   have l2:=fun(k:K1)=>show(PP T1 G X).aq S.ai k none (.bO (AV.cells (I v)))=k (I v) S.ai from rfl
   rw[e0,CA _ (aA _ _ _),gQ,a9 (by omega),be,Sl _ (aA _ _ _),aU,aC,X5,i1,l1,vF,apL,lY]
   by_cases hy:w=y
   ·rw[a9 hy.symm,be,aU,aC,ldQ,i2,l2,if_pos hy]
    exact b8 _ _
   ·rw[aT (fun e=>hy e.symm),bf,if_neg hy,Sk _ (aA _ _ _),qv,ie _ (by omega) (by omega)]
    exact ih
 rw[Xk,anY,aU,aC,X5,bt,cw,List.length_reverse,qv,ie _ (by omega) (by omega),loop A.env.length (Nat.le_refl _),Nat.sub_self,bW]
theorem TB(v:AV):∀(l:List Nat) (n:Nat) (S:St),BS d j S A src n→src.drop n=l→
  ∃S1,uF (PP T1 G X) (.ref (.g d j) 0) v S=uE (PP T1 G X) (.ref (.g d j) 0) v S1∧BS d j S1 A src (posOf src (eL l))∧eT d j S S1∧src.drop (posOf src (eL l))=eL l:=by
 intro l
 induction l with
 | nil=>
  intro n S h hd
  have hn:=drop_nil hd h.l
  have c:¬(n:Int) < (src.length:Int):=by omega
  have e:posOf src (eL [])=n:=by simp [posOf,eL,hn]
  refine⟨S,?_,by rw[e];exact h, .refl h.fd,by rw[e,hd];rfl⟩
  rw[Cz _ (aA _ _ _),aU,aC,h.oY,aU,aC,h.oQ,dY,bb,aT c]
  simp -implicitDefEqProofs only[fV,eG,dw,bf]
 | cons x l ih=>
  intro n S h hd
  obtain⟨h1,h2,h3⟩:=jy hd
  have c:(n:Int) < (src.length:Int):=by omega
  have ix:=fun(k:K1)=>gS G X (s:=S) (k:=k) src .i64 n x h1
  have a1:=fun(S:St) (k:K1)=>gD G X S k n (by have:=h.b;omega)
  have step:uF (PP T1 G X) (.ref (.g d j) 0) v S=if Bg x=true then Gs (PP T1 G X) (.ref (.g d j) 0) v S else uE (PP T1 G X) (.ref (.g d j) 0) v S:=by
   have e0:Bg x=((decide ((97:Int)≤(x:Int)) && decide ((x:Int)≤122)) || (decide ((48:Int)≤(x:Int)) && decide ((x:Int)≤57))):=by
    unfold Bg
    rw[Bool.eq_iff_iff]
    simp -implicitDefEqProofs only[Bool.or_eq_true,bD,Nat.ble_eq,decide_eq_true_iff]
    omega
   rw[e0,Cz _ (aA _ _ _),aU,aC,h.oY,aU,aC,h.oQ,dY,bb,a9 c]
   have w1:=fun(S:St) (k:K1)=>gQ (T:=T1) (G:=G) (X:=X) (s:=S) (k:=k) .u8 (x:Int) 97
   have w2:=fun(S:St) (k:K1)=>rB (T:=T1) (G:=G) (X:=X) (s:=S) (k:=k) .u8 (x:Int) 122
   have w3:=fun(S:St) (k:K1)=>gQ (T:=T1) (G:=G) (X:=X) (s:=S) (k:=k) .u8 (x:Int) 48
   have w4:=fun(S:St) (k:K1)=>rB (T:=T1) (G:=G) (X:=X) (s:=S) (k:=k) .u8 (x:Int) 57
   have lS:=fun(k:K1)=>h.oQ G X k
   have lA:=fun(k:K1)=>h.oY G X k
   generalize decide ((97:Int)≤(x:Int))=b1 at *
   generalize decide ((x:Int)≤122)=b2 at *
   generalize decide ((48:Int)≤(x:Int))=b3 at *
   generalize decide ((x:Int)≤57)=b4 at *
   cases b1 <;> cases b2 <;> cases b3 <;> cases b4 <;> simp -implicitDefEqProofs only[w1,w2,w3,w4,lS,lA,ix,aU,aC,eG,dP,eY,fV,dA,c7,dw,be,bf,Bool.or_true,Bool.or_false,Bool.and_true,Bool.and_false,if_true,if_false,co]
  rw[step]
  by_cases hx:Bg x=true
  ·obtain⟨S1,k1,u1,st⟩:=h.at G X (n+1) (by omega)
   obtain⟨S2,e2,k2,u2,dr⟩:=ih (n+1) S1 k1 h2
   have es:eL (x :: l)=eL l:=by rw[eL,if_pos hx]
   rw[es,if_pos hx]
   refine⟨S2,?_,k2,u1.trans u2,dr⟩
   rw[Sc _ (aA _ _ _),aU,aC,h.oY,a1,aU,aC]
   exact(st _).trans e2
  ·have es:eL (x :: l)=x :: l:=by rw[eL,if_neg hx]
   have e:posOf src (x :: l)=n:=(io hd h.l).symm
   rw[es,e,if_neg hx]
   exact⟨S,rfl,h, .refl h.fd,hd⟩
end
def pA(f:Nat)(l:List Nat):Option (Ex×List Nat):=
 match skip l with
  | []=>none
  | x :: r=>if x=40 then(match pS f r with
    | none=>none
    | some (e,r1)=>match skip r1 with
     | []=>none
     | y :: r2=>if y=41 then some (e,r2) else none)
   else match lR (x :: r) with
    | []=>none
    | c :: w=>if c≤57 then(if w=[] then some (.con (c - 48),eL (x :: r)) else none) else some (.var (c :: w),eL (x :: r))
theorem aCA(f:Nat)(l:List Nat):pF (f+1) l=match pA f l with | none=>none | some (e,r)=>Bh e r:=by
 unfold pF pA
 cases skip l with
 | nil=>rfl
 | cons x r=>
  simp only
  by_cases hx:x=40
  ·rw[if_pos hx,if_pos hx]
   cases pS f r with
   | none=>rfl
   | some er=>
    obtain⟨e,r1⟩:=er
    simp only
    cases skip r1 with
    | nil=>rfl
    | cons y r2=>
     simp only
     by_cases hy:y=41
     ·rw[if_pos hy,if_pos hy]
     ·rw[if_neg hy,if_neg hy]
  ·rw[if_neg hx,if_neg hx]
   cases lR (x :: r) with
   | nil=>rfl
   | cons c w=>
    simp only
    by_cases hc:c≤57
    ·rw[if_pos hc,if_pos hc]
     by_cases hw:w=[]
     ·rw[if_pos hw,if_pos hw]
     ·rw[if_neg hw,if_neg hw]
    ·rw[if_neg hc,if_neg hc]
section
variable{d j n:Nat}{S:St}{A:cm}{src:List Nat}
def CR(d j:Nat)(src:List Nat)(fn:Nat)(p:List Nat→Option (Ex×List Nat)):Prop:=
 ∀l ex r S n A,p l=some (ex,r)→src.drop n=l→BS d j S A src n→A.ins.length+ex.size < 1000000000→A.env.length < 1000000000→
  ∃S',aJ T1 G X fn [.ref (.g d j) 0] S= .ok (I (ex.run A).2) S'∧BS d j S' (ex.run A).1 src (posOf src r)∧eT d j S S'∧src.drop (posOf src r)=r
theorem CR.use{fn:Nat}{p:List Nat→Option (Ex×List Nat)}(c:CR G X d j src fn p){l r:List Nat}{ex:Ex}(hp:p l=some (ex,r))(hd:src.drop n=l)(h:BS d j S A src n)(hb:A.ins.length+ex.size < 1000000000)(he:A.env.length < 1000000000):
  ∃S',BS d j S' (ex.run A).1 src (posOf src r)∧eT d j S S'∧src.drop (posOf src r)=r∧∀k:K1,(PP T1 G X).aB S k fn [AV.av S.aa (.ref (.g d j) 0)]=k (I (ex.run A).2) S':=by
 obtain⟨S',h1,h2,h3,h4⟩:=c l ex r S n A hp hd h hb he
 exact⟨S',h2,h3,h4,fun k=>dJ h1 h3.aa⟩
theorem BS.put(h:BS d j S A src n)(hb:A.ins.length < 1000000000)(op a b:Int):∃S',BS d j S' (A.emit op a b).1 src n∧eT d j S S'∧∀k:K1,(PP T1 G X).aB S k 146 [AV.av S.aa (.ref (.g d j) 0),AV.av S.aa (I op),AV.av S.aa (I a),AV.av S.aa (I b)]=k (I (A.emit op a b).2) S':=by
 obtain⟨S',h1,h2,h3⟩:=apI G X h hb op a b
 exact⟨S',h2,h3,fun k=>dJ h1 h3.aa⟩
theorem BS.is(h:BS d j S A src n){l:List Nat}(hd:src.drop n=l)(c:Nat):∃S',BS d j S' A src (posOf src (j9 c l))∧eT d j S S'∧src.drop (posOf src (j9 c l))=j9 c l∧∀k:K1,(PP T1 G X).aB S k 187 [AV.av S.aa (.ref (.g d j) 0),AV.av S.aa (.int .u8 (c:Int))]=k (.bool (Bl c l)) S':=by
 obtain⟨S',h1,h2,h3,h4⟩:=apJ G X h hd c
 exact⟨S',h2,h3,h4,fun k=>dJ h1 h3.aa⟩
theorem RB.done{r:List Nat}{A':cm}{x:Int}(h:BS d j S A' src n)(hd:src.drop n=r):RB G X d j ((PP T1 G X).aI false [some (I x)] S) S A' src r (I x):=by
 have e:=io hd h.l
 exact⟨S,rfl,by rw[←e];exact h, .refl h.fd,by rw[←e,hd]⟩
theorem RB.L8{R:ax}{A':cm}{r:List Nat}{x:Int}(h:BS d j S A src n)(b:RB G X d j R S.ai A' src r (I x)):∃S',R= .ok (I x) S'∧BS d j S' A' src (posOf src r)∧eT d j S S'∧src.drop (posOf src r)=r:=RB.aCy G X h b
theorem apM(f:Nat)(hs:CR G X d j src 168 (pS f)):CR G X d j src 207 (pA f):=by
 intro l ex r S n A hp hd h hb he
 rw[Xj,anX]
 refine RB.L8 G X h ?_
 obtain⟨S1,h1,u1,d1,c1⟩:=h.ai.is G X hd 40
 refine .via G X u1 (.of G X (c1 _) ?_)
 unfold pA at hp
 cases hk:skip l with
 | nil=>rw[hk] at hp;cases hp
 | cons x l1=>
  rw[hk] at hp
  simp only at hp
  have eP:j9 40 l=if x=40 then l1 else x :: l1:=by unfold j9;rw[hk]
  have eI:Bl 40 l=decide (x=40):=by unfold Bl;rw[hk]
  rw[eP] at h1 d1
  rw[eI]
  by_cases hx:x=40
  ·rw[if_pos hx] at hp h1 d1
   rw[a9 hx,be]
   cases hq:pS f l1 with
   | none=>rw[hq] at hp;cases hp
   | some er=>
    obtain⟨ey,r1⟩:=er
    rw[hq] at hp
    simp only at hp
    cases X4:skip r1 with
    | nil=>rw[X4] at hp;cases hp
    | cons y r2=>
     rw[X4] at hp
     simp only at hp
     have agm:y=41:=by
      by_cases Td:y=41
      ·exact Td
      ·rw[if_neg Td] at hp;cases hp
     rw[if_pos agm] at hp
     injection hp with hp;injection hp with e1 e2;subst e1;subst e2
     obtain⟨S2,h2,u2,d2,c2⟩:=hs.use G X hq d1 h1 hb he
     obtain⟨S3,h3,u3,d3,c3⟩:=h2.is G X d2 41
     have eP1:j9 41 r1=r2:=by unfold j9;rw[X4];simp only;rw[if_pos agm]
     rw[eP1] at h3 d3
     refine .via G X u2 (.via G X u3 (.of G X ?_ (RB.done G X (x:=(ey.run A).2) h3 d3)))
     refine(c2 _).trans ?_
     exact c3 _
  ·rw[if_neg hx] at hp h1 d1
   rw[aT hx,bf]
   obtain⟨S2,e2,h2,u2,d2⟩:=TB G X (In (posOf src (x :: l1))) (x :: l1) _ S1 h1 d1
   have hw0:=tm (x :: l1) _ d1 h1.l
   refine .via G X u2 (.of G X (R':=uE (PP T1 G X) (.ref (.g d j) 0) (In (posOf src (x :: l1))) S2) ?_ ?_)
   ·rw[Sf _ (aA _ _ _),aU,aC,h1.oY];exact e2
   ·obtain⟨m,m1,m2,m3,m4⟩:=hw0
    have hm:=io m3 m2
    rw[←hm] at h2
    cases hw:lR (x :: l1) with
    | nil=>rw[hw] at hp;cases hp
    | cons c w=>
     rw[hw] at hp m4
     simp only at hp
     have hc:=Ah hw
     have ix:∀(S:St) (k:K1),(PP T1 G X).cZ S k (.str (c :: w)) (.int .i64 0)=k (.int .u8 (c:Int)) S:=fun S k=>gS G X (s:=S) (k:=k) (c :: w) .i64 0 c rfl
     rw[Se _ (aA _ _ _),aU,aC,h2.oQ,aU,aC,h2.oY,LF G X src _ m m1 m2,m4,ix,gQ,a9 (by omega)]
     simp only[dP]
     rw[ix,rB,c7]
     by_cases h9:c≤57
     ·rw[if_pos h9] at hp
      by_cases hn:w=[]
      ·rw[if_pos hn] at hp
       injection hp with hp;injection hp with e1 e2;subst e1;subst e2
       subst hn
       rw[Ex.size] at hb
       obtain⟨S3,h3,u3,c3⟩:=h2.put G X (by omega) 2 ((c - 48:Nat):Int) 0
       have w8:IntKind.wrap .u8 ((c:Int) - 48)=((c - 48:Nat):Int):=by
        unfold IntKind.wrap
        simp only[show IntKind.bits .u8=8 from rfl,show IntKind.signed .u8=false from rfl,Bool.false_and]
        show((c:Int) - 48) % 256=_
        omega
       have ci:∀(S:St) (k:K1),(PP T1 G X).bc S k .i64 (.int .u8 ((c - 48:Nat):Int))=k (.int .i64 ((c - 48:Nat):Int)) S:=fun S k=>by
        show k (.int .i64 (IntKind.wrap .i64 ((c - 48:Nat):Int))) S=_
        rw[ie _ (by omega) (by omega)]
       refine .via G X u3 (.of G X ?_ (RB.done G X (x:=(A.emit 2 ((c - 48:Nat):Int) 0).2) h3 m3))
       rw[a9 (by omega),be,ix,qv,w8,ci]
       exact c3 _
      ·rw[if_neg hn] at hp;cases hp
     ·rw[if_neg h9] at hp
      injection hp with hp;injection hp with e1 e2;subst e1;subst e2
      rw[aT (by omega),bf,Sd _ (aA _ _ _)]
      refine .of G X (aN (apK G X h2 (c :: w) he)) ?_
      exact RB.done G X h2 m3
end
section
variable{d j n:Nat}{S:St}{A:cm}{src:List Nat}
theorem qN(x:Ex)(A:cm):(x.run A).1.env=A.env:=(fb x A).2.2.2
theorem ahX(f:Nat)(ha:CR G X d j src 207 (pA f)):CR G X d j src 203 (pF (f+1)):=by
 intro l ex r S n A hp hd h hb he
 rw[Xi,anV]
 refine RB.L8 G X h ?_
 rw[aCA] at hp
 cases hq:pA f l with
 | none=>rw[hq] at hp;cases hp
 | some er=>
  obtain⟨ey,r1⟩:=er
  rw[hq] at hp
  simp -implicitDefEqProofs only at hp
  have dM:=sy hp
  obtain⟨S1,h1,u1,d1,c1⟩:=ha.use G X hq hd h.ai (by omega) he
  have hl:=dH ey A
  refine .via G X u1 (.of G X (c1 _) ?_)
  cases r1 with
  | nil=>
   rw[Bh] at hp
   injection hp with hp;injection hp with e1 e2;subst e1;subst e2
   have hn:=drop_nil d1 h1.l
   have c:¬((posOf src []:Nat):Int) < (src.length:Int):=by omega
   refine .of G X ?_ (RB.done G X (x:=(ey.run A).2) h1 d1)
   rw[aU,aC,h1.oY,aU,aC,h1.oQ,dY,bb,aT c]
   simp -implicitDefEqProofs only[fV,dw,bf]
   rw[uD _ (aA _ _ _)]
  | cons y r1=>
   obtain⟨g1,g2,g3⟩:=jy d1
   have c:((posOf src (y :: r1):Nat):Int) < (src.length:Int):=by omega
   have ix:=fun(k:K1)=>gS G X (s:=S1) (k:=k) src .i64 (posOf src (y :: r1)) y g1
   by_cases hy:y=94
   ·simp -implicitDefEqProofs only[Bh.eq_def,if_pos hy] at hp
    cases r1 with
    | nil=>cases hp
    | cons z r2=>
     injection hp with hp;injection hp with e1 e2;subst e1;subst e2
     obtain⟨k1,k2,k3⟩:=jy g2
     have a2:∀(S:St) (k:K1),(PP T1 G X).ak S k (au .add (.int .i64 ((posOf src (y :: z :: r2):Nat):Int)) (.int .i64 2))=k (.int .i64 ((posOf src (y :: z :: r2)+2:Nat):Int)) S:=fun S k=>iI (T:=T1) (G:=G) (X:=X) (s:=S) (k:=k) _ 2 (by have:=h.b;omega)
     obtain⟨S2,h2,u2,st⟩:=h1.at G X (posOf src (y :: z :: r2)+2) (by omega)
     rw[Ex.size] at hb
     obtain⟨S3,h3,u3,c3⟩:=h2.put G X (by omega) 5 (ey.run A).2 (ey.run A).2
     refine .via G X u2 (.via G X u3 (.of G X ?_ (RB.done G X (x:=((ey.run A).1.emit 5 (ey.run A).2 (ey.run A).2).2) h3 k2)))
     rw[aU,aC,h1.oY,aU,aC,h1.oQ,dY,bb,a9 c]
     simp -implicitDefEqProofs only[dP]
     rw[aU,aC,h1.oQ,aU,aC,h1.oY,ix,bj,c7,a9 (by omega),be,aU,aC,h1.oY,a2,aU,aC]
     refine(st _).trans ?_
     refine(c3 _).trans ?_
     rw[uD _ (aA _ _ _)]
   ·simp -implicitDefEqProofs only[Bh.eq_def,if_neg hy] at hp
    injection hp with hp;injection hp with e1 e2;subst e1;subst e2
    refine .of G X ?_ (RB.done G X (x:=(ey.run A).2) h1 d1)
    rw[aU,aC,h1.oY,aU,aC,h1.oQ,dY,bb,a9 c]
    simp -implicitDefEqProofs only[dP]
    rw[aU,aC,h1.oQ,aU,aC,h1.oY,ix,bj,c7,aT (by omega),bf,uD _ (aA _ _ _)]
def LP(d j:Nat)(src:List Nat)(p:Ex→List Nat→Option (Ex×List Nat)):Prop:=
 ∀ex l kx r A0 A x S n,p ex l=some (kx,r)→src.drop n=l→ex.run A0=(A,x)→BS d j S A src n→A0.ins.length+kx.size < 1000000000→A0.env.length < 1000000000→
  RB G X d j (zH (PP T1 G X) (.ref (.g d j) 0) (I x) S) S (kx.run A0).1 src r (I (kx.run A0).2)
theorem BS.axa(h:BS d j S A src n){l:List Nat}(hd:src.drop n=l):∃S',BS d j S' A src (posOf src (skip l))∧eT d j S S'∧src.drop (posOf src (skip l))=skip l∧∀k:K1,(PP T1 G X).aB S k 202 [AV.av S.aa (.ref (.g d j) 0)]=k (.cS []) S':=by
 obtain⟨S',h1,h2,h3,h4⟩:=TA G X h hd
 exact⟨S',h2,h3,h4,fun k=>dJ h1 h3.aa⟩
theorem aCB(f:Nat)(hf:CR G X d j src 203 (pF f))(ht:LP G X d j src (uN f)):LP G X d j src (uN (f+1)):=by
 intro ex l kx r A0 A x S n hp hd hr h hb he
 obtain⟨S1,h1,u1,d1,c1⟩:=h.axa G X hd
 refine .via G X u1 (.of G X ((R7 _ (aA _ _ _) _ _ _).trans (c1 _)) ?_)
 have hl:=dH ex A0
 rw[hr] at hl;dsimp only at hl
 have Ee:A.env=A0.env:=by have:=qN ex A0;rw[hr] at this;exact this
 unfold uN at hp
 cases hk:skip l with
 | nil=>
  rw[hk] at hp h1 d1
  injection hp with hp;injection hp with e1 e2;subst e1;subst e2
  have hn:=drop_nil d1 h1.l
  rw[hr]
  refine .of G X ?_ (RB.done G X (x:=x) h1 d1)
  rw[aU,aC,h1.oY,aU,aC,h1.oQ,dY,bj,a9 (by omega)]
  simp -implicitDefEqProofs only[eY,c7,be]
 | cons y l1=>
  rw[hk] at hp h1 d1
  simp -implicitDefEqProofs only at hp
  have GQ:y≠0:=fun e=>by rw[if_pos e] at hp;cases hp
  rw[if_neg GQ] at hp
  obtain⟨g1,g2,g3⟩:=jy d1
  have ix:=fun(k:K1)=>gS G X (s:=S1) (k:=k) src .i64 (posOf src (y :: l1)) y g1
  have w1:=fun(S:St) (k:K1)=>bj (T:=T1) (G:=G) (X:=X) (s:=S) (k:=k) .u8 (y:Int) 43
  have w2:=fun(S:St) (k:K1)=>bj (T:=T1) (G:=G) (X:=X) (s:=S) (k:=k) .u8 (y:Int) 45
  have w3:=fun(S:St) (k:K1)=>bj (T:=T1) (G:=G) (X:=X) (s:=S) (k:=k) .u8 (y:Int) 41
  have lS:=fun(k:K1)=>h1.oQ G X k
  have lA:=fun(k:K1)=>h1.oY G X k
  have e0:(y=43∨y=45∨y=41)↔(decide ((y:Int)=43) || (decide ((y:Int)=45) || decide ((y:Int)=41)))=true:=by
   simp -implicitDefEqProofs only[Bool.or_eq_true,decide_eq_true_iff];omega
  have step:∀(T E:ax),(if(y=43∨y=45∨y=41) then T else E)=if(decide ((y:Int)=43) || (decide ((y:Int)=45) || decide ((y:Int)=41)))=true then T else E:=fun T E=>by simp -implicitDefEqProofs only[e0]
  rw[aU,aC,h1.oY,aU,aC,h1.oQ,dY,bj,aT (by omega)]
  refine .of G X (R':=if(y=43∨y=45∨y=41) then(PP T1 G X).aI false [some (I x)] S1 else Gp (PP T1 G X) (.ref (.g d j) 0) (I x) S1) ?_ ?_
  ·rw[step]
   generalize decide ((y:Int)=43)=b1 at *
   generalize decide ((y:Int)=45)=b2 at *
   generalize decide ((y:Int)=41)=b3 at *
   cases b1 <;> cases b2 <;> cases b3 <;> simp -implicitDefEqProofs only[w1,w2,w3,lS,lA,ix,aU,aC,eY,dA,c7,dw,be,bf,Bool.or_true,Bool.or_false,if_true,if_false,co]
  ·by_cases hy:y=43∨y=45∨y=41
   ·rw[if_pos hy] at hp ⊢
    injection hp with hp;injection hp with e1 e2;subst e1;subst e2
    rw[hr]
    exact RB.done G X h1 d1
   ·rw[if_neg hy] at hp ⊢
    cases hq:pF f (y :: l1) with
    | none=>rw[hq] at hp;cases hp
    | some er=>
     obtain⟨ey,r1⟩:=er
     rw[hq] at hp
     simp -implicitDefEqProofs only at hp
     have dM:=sx _ _ _ _ _ hp
     rw[Ex.size] at dM
     have hl2:=dH ey A
     obtain⟨S2,h2,u2,d2,c2⟩:=hf.use G X hq d1 h1 (by omega) (by rw[Ee];exact he)
     obtain⟨S3,h3,u3,c3⟩:=h2.put G X (by omega) 5 x (ey.run A).2
     refine .via G X u2 (.via G X u3 (.of G X ?_ (ht (.mul ex ey) r1 kx r A0 _ _ _ _ hp d2 (by rw[Ex.run,hr]) h3 hb he)))
     rw[R6 _ (aA _ _ _)]
     refine(c2 _).trans ?_
     exact c3 _
theorem TC(f:Nat)(hf:CR G X d j src 203 (pF f))(ht:LP G X d j src (uN f)):CR G X d j src 188 (pT (f+1)):=by
 intro l ex r S n A hp hd h hb he
 rw[Xg,anT]
 refine RB.L8 G X h ?_
 unfold pT at hp
 cases hq:pF f l with
 | none=>rw[hq] at hp;cases hp
 | some er=>
  obtain⟨ey,r1⟩:=er
  rw[hq] at hp
  simp -implicitDefEqProofs only at hp
  have dM:=sx _ _ _ _ _ hp
  obtain⟨S1,h1,u1,d1,c1⟩:=hf.use G X hq hd h.ai (by omega) he
  exact .via G X u1 (.of G X (c1 _) (ht ey r1 ex r A _ _ _ _ hp d1 rfl h1 hb he))
end
section
variable{d j n:Nat}{S:St}{A:cm}{src:List Nat}
def LQ(d j:Nat)(src:List Nat)(p:Ex→List Nat→Option (Ex×List Nat)):Prop:=
 ∀ex l kx r A0 A x S n,p ex l=some (kx,r)→src.drop n=l→ex.run A0=(A,x)→BS d j S A src n→A0.ins.length+kx.size < 1000000000→A0.env.length < 1000000000→
  RB G X d j (sn (PP T1 G X) (.ref (.g d j) 0) (I x) S) S (kx.run A0).1 src r (I (kx.run A0).2)
theorem wZ{c:Nat}{l:List Nat}{x:Nat}{r:List Nat}(hk:skip l=x :: r)(h:x≠c):j9 c l=x :: r∧Bl c l=false:=by
 unfold j9 Bl
 rw[hk]
 simp only
 exact⟨if_neg h,aT h⟩
theorem uS{c:Nat}{l:List Nat}{r:List Nat}(hk:skip l=c :: r):j9 c l=r∧Bl c l=true:=by
 unfold j9 Bl
 rw[hk]
 simp only
 exact⟨by simp,by simp⟩
theorem ahY{c:Nat}{l:List Nat}(hk:skip l=[]):j9 c l=[]∧Bl c l=false:=by
 unfold j9 Bl
 rw[hk]
 exact⟨rfl,rfl⟩
theorem aCC(f:Nat)(hf:CR G X d j src 188 (pT f))(ht:LQ G X d j src (rF f)):LQ G X d j src (rF (f+1)):=by
 intro ex l kx r A0 A x S n hp hd hr h hb he
 obtain⟨S1,h1,u1,d1,c1⟩:=h.is G X hd 43
 refine .via G X u1 (.of G X ((R4 _ (aA _ _ _) _ _ _).trans (c1 _)) ?_)
 have hl:=dH ex A0
 rw[hr] at hl;dsimp only at hl
 have Ee:A.env=A0.env:=by have:=qN ex A0;rw[hr] at this;exact this
 unfold rF at hp
 have stop:∀r0:List Nat,skip l=r0→Bl 43 l=false→j9 43 l=r0→skip r0=r0→Bl 45 r0=false→j9 45 r0=r0→RB G X d j (Gm (PP T1 G X) (.ref (.g d j) 0) (I x) S1) S1 A src r0 (I x):=fun r0 e1 e2 e3 e4 e5 e6=>by
  rw[e3] at h1 d1
  obtain⟨S2,h2,u2,d2,c2⟩:=h1.is G X d1 45
  rw[e6] at h2 d2
  refine .via G X u2 (.of G X ((Cw _ (aA _ _ _) _ _ _).trans (c2 _)) ?_)
  rw[e5,fh,Bool.not_false,be]
  exact RB.done G X h2 d2
 cases hk:skip l with
 | nil=>
  rw[hk] at hp
  injection hp with hp;injection hp with e1 e2;subst e1;subst e2
  obtain⟨a1,a2⟩:=ahY (c:=43) hk
  rw[a2,bf,hr]
  exact stop [] hk a2 a1 rfl rfl rfl
 | cons y l1=>
  rw[hk] at hp
  simp only at hp
  have body:∀(mk:Ex→Ex→Ex) (op:Int) (er:Ex×List Nat) (S2:St) (n2:Nat),(∀a b A,(mk a b).run A=(b.run (a.run A).1).1.emit op (a.run A).2 (b.run (a.run A).1).2)→(∀a b,(mk a b).size=a.size+b.size+1)→pT f l1=some er→rF f (mk ex er.1) er.2=some (kx,r)→BS d j S2 A src n2→src.drop n2=l1→
    RB G X d j ((PP T1 G X).aB S2 (fun v28 s=>(PP T1 G X).aB s (fun v32 s=>sn (PP T1 G X) (.ref (.g d j) 0) v32 s) 146 [AV.av s.aa (.ref (.g d j) 0),AV.av s.aa (I op),AV.av s.aa (I x),AV.av s.aa v28]) 188 [AV.av S2.aa (.ref (.g d j) 0)]) S2 (kx.run A0).1 src r (I (kx.run A0).2):=fun mk op ⟨ey,r1⟩ S2 n2 AW hms hq hp h2 d2=>by
   have dM:=m8 _ _ _ _ _ hp
   rw[hms] at dM
   dsimp only at dM hp
   have hl2:=dH ey A
   obtain⟨S3,h3,u3,d3,c3⟩:=hf.use G X hq d2 h2 (by omega) (by rw[Ee];exact he)
   obtain⟨S4,h4,u4,c4⟩:=h3.put G X (by omega) op x (ey.run A).2
   refine .via G X u3 (.via G X u4 (.of G X ?_ (ht (mk ex ey) r1 kx r A0 _ _ _ _ hp d3 (by rw[AW,hr]) h4 hb he)))
   refine(c3 _).trans ?_
   exact c4 _
  by_cases hy:y=43
  ·rw[if_pos hy] at hp
   subst hy
   obtain⟨a1,a2⟩:=uS hk
   rw[a1] at h1 d1
   rw[a2,be]
   cases hq:pT f l1 with
   | none=>rw[hq] at hp;cases hp
   | some er=>
    rw[hq] at hp
    exact body .add 3 er S1 _ (fun _ _ _=>rfl) (fun _ _=>rfl) hq hp h1 d1
  ·rw[if_neg hy] at hp
   obtain⟨a1,a2⟩:=wZ hk hy
   have hss:skip (y :: l1)=y :: l1:=by rw[←hk,G4]
   rw[a2,bf]
   by_cases vQ:y=45
   ·rw[if_pos vQ] at hp
    subst vQ
    rw[a1] at h1 d1
    obtain⟨S2,h2,u2,d2,c2⟩:=h1.is G X d1 45
    obtain⟨b1,b2⟩:=uS hss
    rw[b1] at h2 d2
    refine .via G X u2 (.of G X ((Cw _ (aA _ _ _) _ _ _).trans (c2 _)) ?_)
    rw[b2,fh,Bool.not_true,bf,R0 _ (aA _ _ _)]
    cases hq:pT f l1 with
    | none=>rw[hq] at hp;cases hp
    | some er=>
     rw[hq] at hp
     exact body .sub 4 er S2 _ (fun _ _ _=>rfl) (fun _ _=>rfl) hq hp h2 d2
   ·rw[if_neg vQ] at hp
    injection hp with hp;injection hp with e1 e2;subst e1;subst e2
    obtain⟨b1,b2⟩:=wZ hss vQ
    rw[hr]
    exact stop (y :: l1) hk a2 a1 hss b2 b1
theorem apN(f:Nat)(hf:CR G X d j src 188 (pT f))(ht:LQ G X d j src (rF f)):CR G X d j src 168 (pS (f+1)):=by
 intro l ex r S n A hp hd h hb he
 rw[Xe,anR]
 refine RB.L8 G X h ?_
 obtain⟨S1,h1,u1,d1,c1⟩:=h.ai.is G X hd 45
 refine .via G X u1 (.of G X (c1 _) ?_)
 unfold pS at hp
 cases hk:skip l with
 | nil=>rw[hk] at hp;cases hp
 | cons y l1=>
  rw[hk] at hp
  simp only at hp
  by_cases hy:y=45
  ·rw[if_pos hy] at hp
   subst hy
   obtain⟨a1,a2⟩:=uS hk
   rw[a1] at h1 d1
   rw[a2,be]
   cases hq:pT f l1 with
   | none=>rw[hq] at hp;cases hp
   | some er=>
    obtain⟨ey,r1⟩:=er
    rw[hq] at hp
    simp only at hp
    have dM:=m8 _ _ _ _ _ hp
    rw[Ex.size] at dM
    obtain⟨S2,h2,u2,c2⟩:=h1.put G X (by omega) 2 0 0
    have hl3:=fQ A 2 0 0
    obtain⟨S3,h3,u3,d3,c3⟩:=hf.use G X hq d1 h2 (by omega) he
    have hl4:=dH ey (A.emit 2 0 0).1
    obtain⟨S4,h4,u4,c4⟩:=h3.put G X (by omega) 4 (A.emit 2 0 0).2 (ey.run (A.emit 2 0 0).1).2
    refine .via G X u2 (.via G X u3 (.via G X u4 (.of G X ?_ (ht (.neg ey) r1 ex r A _ _ _ _ hp d3 rfl h4 hb he))))
    refine(c2 _).trans ?_
    refine(c3 _).trans ?_
    refine(c4 _).trans ?_
    rw[Cx _ (aA _ _ _)]
    rfl
  ·rw[if_neg hy] at hp
   obtain⟨a1,a2⟩:=wZ hk hy
   rw[a1] at h1 d1
   rw[a2,bf]
   cases hq:pT f (y :: l1) with
   | none=>rw[hq] at hp;cases hp
   | some er=>
    obtain⟨ey,r1⟩:=er
    rw[hq] at hp
    simp only at hp
    have dM:=m8 _ _ _ _ _ hp
    obtain⟨S3,h3,u3,d3,c3⟩:=hf.use G X hq d1 h1 (by omega) he
    refine .via G X u3 (.of G X ?_ (ht ey r1 ex r A _ _ _ _ hp d3 rfl h3 hb he))
    refine(c3 _).trans ?_
    rw[Cx _ (aA _ _ _)]
theorem TE:∀f:Nat,CR G X d j src 203 (pF f)∧CR G X d j src 188 (pT f)∧CR G X d j src 168 (pS f)∧LP G X d j src (uN f)∧LQ G X d j src (rF f)
 | 0=>⟨fun l ex r S n A hp=>by simp [pF] at hp,fun l ex r S n A hp=>by simp [pT] at hp,fun l ex r S n A hp=>by simp [pS] at hp,fun ex l kx r A0 A x S n hp=>by simp [uN] at hp,fun ex l kx r A0 A x S n hp=>by simp [rF] at hp⟩
 | f+1=>by
  obtain⟨h1,h2,h3,h4,h5⟩:=TE f
  exact⟨ahX G X f (apM G X f h3),TC G X f h1 h4,apN G X f h2 h5,aCB G X f h1 h4,aCC G X f h2 h5⟩
end
section
variable{d j n:Nat}{S:St}{A:cm}{src:List Nat}
theorem BS.start(h:BS d j S A src n)(jD:List Nat)(hb:jD.length < 1000000000):∃S',BS d j S' A jD 0∧eT d j S S'∧
  ∀k:K1,(PP T1 G X).aG S (fun v7 s=>(PP T1 G X).aj s (fun v8 s=>(PP T1 G X).a7 s (fun _v s=>(PP T1 G X).aG s (fun v10 s=>(PP T1 G X).aj s (fun v11 s=>(PP T1 G X).a7 s k 1 v11 (AV.av s.aa (.int .i64 0))) 7 v10) (.ref (.g d j) 0)) 1 v8 (AV.av s.aa (.str jD))) 6 v7) (.ref (.g d j) 0)=k .dead S':=by
 obtain⟨gi,gv,gr,gn,gq,c,T⟩:=h.c
 have oT:=(bZ.1 c).1
 let F1:=(S.cC d).set j (.cells ((e8 A gi gv gr gn gq src n).set 6 (.str jD)))
 have my:(S.bz d F1).cC d=F1:=cj h.fd F1
 have c1:F1[j]? =some (.cells ((e8 A gi gv gr gn gq src n).set 6 (.str jD))):=by simp [F1,oT]
 have rC:=fun k:K1=>lQ (T:=T1) (G:=G) (X:=X) (k:=k) h.fd c (o:=0+6) (v:=.str jD) (by simp [e8]) rfl rfl rfl (.inl rfl)
 have Sv:=fun k:K1=>lQ (T:=T1) (G:=G) (X:=X) (k:=k) (h.fd.put d F1) (by rw[my];exact c1) (o:=0+7) (v:=In 0) (by simp [e8]) rfl rfl rfl (.inl rfl)
 rw[my,gT] at Sv
 let F2:=F1.set j (.cells (e8 A gi gv gr gn gq jD 0))
 have jq:(S.bz d F2).cC d=F2:=cj h.fd F2
 refine⟨S.bz d F2,⟨h.fd.put _ _,⟨gi,gv,gr,gn,gq,by rw[jq];simp [F2,F1,oT],by rw[jq];exact(T.set c _).set c1 _⟩,Nat.zero_le _,hb⟩,⟨⟨_,rfl⟩,?_⟩,fun k=>?_⟩
 ·rw[jq]
  exact⟨fun i cs hi kE=>by rw[eM (Ne.symm kE),eM (Ne.symm kE)];exact hi,by simp [F2,F1]⟩
 ·rw[aU,aC]
  refine(rC _).trans ?_
  rw[aU,aC]
  exact Sv k
theorem He(h:BS d j S A src n){jD:List Nat}{f:Nat}{ex:Ex}{r:List Nat}(hp:pS f jD=some (ex,r))(hl:jD.length < 1000000000)(hb:A.ins.length+ex.size < 1000000000)(he:A.env.length < 1000000000):
  ∃S',aJ T1 G X 145 [.ref (.g d j) 0, .str jD] S= .ok (I (ex.run A).2) S'∧BS d j S' (ex.run A).1 jD (posOf jD r)∧eT d j S S':=by
 obtain⟨S1,h1,u1,c1⟩:=h.ai.start G X jD hl
 obtain⟨S2,h2,u2,d2,c2⟩:=(TE G X f).2.2.1.use G X hp rfl h1 hb he
 obtain⟨S3,rfl,u3,h3⟩:=eT.exit h (u1.trans u2) h2
 refine⟨S3,?_,h3,u3⟩
 rw[Xc,anP]
 refine(c1 _).trans ?_
 refine(c2 _).trans ?_
 exact b8 _ _
theorem Ap(h:BS d j S A src n)(w:List Nat)(v:Int)(he:A.env.length < 1000000000):∃S',aJ T1 G X 107 [.ref (.g d j) 0, .str w,I v] S= .ok (.cS []) S'∧BS d j S' (A.name w v) src n∧eT d j S S':=by
 have h0:=h.ai
 obtain⟨gi,gv,gr,gn,gq,c,T⟩:=h0.c
 have ld:=fun k:K1=>GY G X k h0.fd c (o:=0+4) (c:=.sl 1 (A.env.reverse.map fun p=>AV.str p.1) gn) rfl
 obtain⟨F1,g1,T1',c1,kb1,Yh⟩:=sC G X (S:=S.ai) (j:=j) (k:=3) (o:=0+4) (q:=1) (bytes:=16) (es:=A.env.reverse.map fun p=>AV.str p.1) (new:=[.str w]) (g:=gn) (g2:=.exact) h0.fd h.ne c T (by simp) (by simp [e8]) (by simp) (by simp;omega) rfl (fun a e=>by cases e)
 have my:(S.ai.bz d F1).cC d=F1:=cj h0.fd F1
 have hi1:fE (S.ai.bz d F1) d:=h0.fd.put d F1
 have G3:=fun k:K1=>GY G X k hi1 (by rw[my];exact c1) (o:=0+5) (c:=gp (A.env.reverse.map Prod.snd) gq) rfl
 obtain⟨F2,g2,T2',c2,kb2,ap2⟩:=sC G X (S:=S.ai.bz d F1) (j:=j) (k:=4) (o:=0+5) (q:=1) (bytes:=8) (es:=(A.env.reverse.map Prod.snd).map I) (new:=[I v]) (g:=gq) (g2:=.exact) hi1 (by rw[eV];exact h.ne) (by rw[my];exact c1) (by rw[my];exact T1') (by simp) (by simp [e8]) (by simp) (by simp;omega) rfl (fun a e=>by cases e)
 rw[my] at kb2
 rw[gT] at ap2
 have jq:(S.ai.bz d F2).cC d=F2:=cj h0.fd F2
 have hB:BS d j (S.ai.bz d F2) (A.name w v) src n:=by
  refine⟨h0.fd.put _ _,⟨gi,gv,gr,g1,g2,?_,?_⟩,h.l,h.b⟩
  ·rw[jq,c2]
   simp [e8,cm.name]
  ·rw[jq]
   simpa [cm.name] using T2'
 obtain⟨S',e2,u,k⟩:=eT.exit h ⟨⟨F2,rfl⟩,by rw[jq];exact kb1.trans kb2⟩ hB
 have bs1:∀(S:St) (k:K1),(PP T1 G X).aF S k 1 [.str w]=k (.sl 1 [.str w] .exact) S:=fun S k=>rfl
 refine⟨S',?_,k,u⟩
 rw[W1,anE,aU,aC,ld,bs1]
 refine(Yh _).trans ?_
 rw[aU,aC,G3,sA]
 refine(ap2 _).trans ?_
 rw[e2]
 exact sE G X _
end
section
variable{d j n:Nat}{s S:St}{A:cm}{src:List Nat}
theorem BS.child(h:BS d j s A src n)(hS:Child s S):BS d j S A src n:=
 ⟨Child.inF hS h.fd,by rw[Child.cC hS h.fd];exact h.c,h.l,h.b⟩
theorem eT.child{S':St}{A':cm}{jD:List Nat}{n':Nat}(h:BS d j s A src n)(hS:Child s S)(u:eT d j S S')(h':BS d j S' A' jD n'):
  ∃s',Child s' S'∧S'.own=S.own∧eT d j s s'∧BS d j s' A' jD n':=by
 obtain⟨F,rfl⟩:=u.st
 obtain⟨c1,c2⟩:=Child.bz hS h.fd F
 have hf:=cj h.fd F
 have jq:=cj (Child.inF hS h.fd) F
 have kb:=u.kb
 rw[jq,Child.cC hS h.fd] at kb
 have a1:=h'.c
 rw[jq] at a1
 exact⟨s.bz d F,c1,c2,⟨⟨F,rfl⟩,by rw[hf];exact kb⟩,⟨h.fd.put _ _,by rw[hf];exact a1,h'.l,h'.b⟩⟩
def BX(d j:Nat)(s:St)(A:cm):Prop:=∃src n,BS d j s A src n
theorem TF(f:Nat)(cs:List (List Nat))(g2:Gr)(LH:cs.length < 1000000)(nr:∀p∈cs,p.length < 1000000000):∀(l pre:List (List Nat)) (E:List Ex) (s S:St) (A:cm) (g:Gr) (out:List Int),cs=pre ++ l→n9 f l=some E→BX d j s A→Child s S→iX S g out.length→out.length=pre.length→A.ins.length+oc E < 1000000000→A.env.length < 1000000000→
  ∃s',zC (PP T1 G X) (.ref (.g d j) 0) (.sl 1 (cs.map AV.str) g2) (gp out g) (In pre.length) S= .ok (gp (out ++ (eR E A).2) (fO (out ++ (eR E A).2))) s'∧BX d j s' (eR E A).1∧eT d j s s':=by
 intro l
 induction l with
 | nil=>
  intro pre E s S A g out hd hE h hS hg xz hb he
  injection hE with hE;subst hE
  rw[List.append_nil] at hd
  subst hd
  obtain⟨src,n,h⟩:=h
  refine⟨s,?_,⟨src,n,h⟩, .refl h.fd⟩
  rw[Ct _ (aA _ _ _),bt,cw,bb,aT (by omega),bf,RP _ (aA _ _ _)]
  have fr:=nC (S:=S) (sz:=1) (es:=out.map I) (g:=g) (by simpa using hg) (nI _)
  rw[pX] at fr
  rw[show(eR [] A).2=[] from rfl,List.append_nil]
  exact jv hS _ _ fr
 | cons sc l ih=>
  intro pre E s S A g out hd hE h hS hg xz hb he
  rw[n9] at hE
  cases hp:pS f sc with
  | none=>rw[hp] at hE;cases hE
  | some er=>
   obtain⟨ex,r⟩:=er
   rw[hp] at hE
   simp only at hE
   cases hq:n9 f l with
   | none=>rw[hq] at hE;cases hE
   | some E'=>
    rw[hq] at hE
    injection hE with hE
    subst hE
    rw[oc] at hb
    obtain⟨src,n,h⟩:=h
    have hlen:pre.length < cs.length:=by rw[hd];simp
    have hg1:(cs.map AV.str)[pre.length]? =some (.str sc):=by rw[hd];simp
    have hl:=dH ex A
    obtain⟨S1,e1,h1,u1⟩:=He G X (h.child hS) hp (nr sc (by rw[hd];simp)) (by omega) he
    obtain⟨s1,LI,ho1,v1,nk⟩:=eT.child h hS u1 h1
    have c1:=fun(k:K1)=>zCl G X S k e1 u1.aa
    have i1:=fun(S:St) (k:K1)=>kF G X S k 1 (cs.map AV.str) g2 .i64 pre.length _ hg1
    have ls:=fun(S:St) (k:K1) (b:List Nat)=>show(PP T1 G X).aq S k none (.bO (AV.cells (.str b)))=k (.str b) S from rfl
    have a1:=fun(S:St) (k:K1)=>gD G X S k pre.length (by omega)
    have api:(eR (ex :: E') A).2=(ex.run A).2 :: (eR E' (ex.run A).1).2:=rfl
    obtain⟨g',S',k1,k2,k3,k4,k5,k6⟩:=Ai G X (S:=S1) (q:=1) (bytes:=8) (es:=out.map I) (new:=[I (ex.run A).2]) (g:=g) (g2:=.exact) (by rw[cw];exact iX.own hg ho1) (by simp) (by simp;omega) rfl (fun a e=>by cases e)
    obtain⟨s2,e2,h2,u2⟩:=ih (pre ++ [sc]) E' s1 S' (ex.run A).1 g' (out ++ [(ex.run A).2]) (by rw[hd];simp) hq ⟨_,_,nk⟩ (k5.child LI) (by simpa using k1) (by simp [xz]) (by omega) (by rw[qN];exact he)
    refine⟨s2,?_,h2,v1.trans u2⟩
    rw[Ct _ (aA _ _ _),bt,cw,bb,a9 (by omega),be,RO _ (aA _ _ _),i1,ls]
    refine(c1 _).trans ?_
    rw[sA]
    refine(k6 _).trans ?_
    rw[RN _ (aA _ _ _),a1,api]
    rw[dp,pY,List.singleton_append] at e2
    rw[←e2,gp,List.map_append]
    rfl
theorem apP(f:Nat)(cs:List (List Nat))(E:List Ex)(g2:Gr)(hE:n9 f cs=some E)(tH:cs.length < 1000000)(Tg:∀p∈cs,p.length < 1000000000)(h:BX d j s A)(hb:A.ins.length+oc E < 1000000000)(he:A.env.length < 1000000000):
  ∃s',aJ T1 G X 108 [.ref (.g d j) 0, .sl 1 (cs.map AV.str) g2] s= .ok (gp (eR E A).2 (fO (eR E A).2)) s'∧BX d j s' (eR E A).1∧eT d j s s':=by
 rw[W2,anF]
 have gr0:iX s.ai .nil ([]:List Int).length:=.nil
 exact TF G X f cs g2 tH Tg cs [] E s s.ai A .nil [] rfl hE h (Child.ai s) gr0 rfl hb he
theorem Hf(h:BX d j s A)(w:List Nat)(hb:A.ins.length < 1000000000)(he:A.env.length < 1000000000)(hi:0≤A.dx∧A.dx < 1000000000):
  ∃s',aJ T1 G X 127 [.ref (.g d j) 0, .str w] s= .ok (.cS []) s'∧BX d j s' (Df.gI.run w A)∧eT d j s s':=by
 obtain⟨src,n,h⟩:=h
 have h0:=h.ai
 have ldI:∀{S:St} {A:cm},BS d j S A src n→∀k:K1,(PP T1 G X).aq S k none (.ref (.g d j) (0+8))=k (I A.dx) S:=fun h k=>by
  obtain⟨_,_,_,_,_,c,_⟩:=h.c;exact hZ h.fd c rfl
 obtain⟨S1,h1,u1,c1⟩:=h0.put G X hb 1 A.dx 0
 obtain⟨gi,gv,gr,gn,gq,c,T⟩:=h1.c
 let A1:cm:={(A.emit 1 A.dx 0).1 with dx:=A.dx+1}
 have oT:=(bZ.1 c).1
 have st:=fun k:K1=>lQ (T:=T1) (G:=G) (X:=X) (k:=k) h1.fd c (o:=0+8) (v:=I (A.dx+1)) (by simp [e8]) rfl rfl rfl (.inl rfl)
 let F2:=(S1.cC d).set j (.cells (e8 A1 gi gv gr gn gq src n))
 have jq:(S1.bz d F2).cC d=F2:=cj h1.fd F2
 have h2:BS d j (S1.bz d F2) A1 src n:=⟨h1.fd.put _ _,⟨gi,gv,gr,gn,gq,by rw[jq];simp [F2,oT],by rw[jq];exact T.set c _⟩,h1.l,h1.b⟩
 have u2:eT d j S1 (S1.bz d F2):=⟨⟨_,rfl⟩,by rw[jq];exact⟨fun i cs hi kE=>by rw[eM (Ne.symm kE)];exact hi,by simp [F2]⟩⟩
 obtain⟨S3,e3,h3,u3⟩:=Ap G X h2 w (A.emit 1 A.dx 0).2 he
 obtain⟨s',rfl,u',h'⟩:=eT.exit h (u1.trans (u2.trans u3)) h3
 refine⟨s',?_,⟨src,n,h'⟩,u'⟩
 have mO:=fun(k:K1)=>ldI h1 k
 rw[show(A.emit 1 A.dx 0).1.dx=A.dx from rfl] at mO
 rw[W6,anJ,aU,aC,ldI h0]
 refine(c1 _).trans ?_
 rw[aU,aC,mO,uc,ie _ (by omega) (by omega),aU,aC]
 refine(st _).trans ?_
 refine(dJ e3 u3.aa).trans ?_
 exact sE G X _
end
section
variable{d j n:Nat}{s S:St}{A:cm}{src:List Nat}
theorem BS.root(h:BS d j S A src n)(cK:d≠S.aa)(hb:A.roots.length < 1000000000)(v:Int):∃S',BS d j S' {A with roots:=A.roots ++ [v]} src n∧eT d j S S'∧
  ∀k:K1,(PP T1 G X).aG S (fun v34 s=>(PP T1 G X).aj s (fun v35 s=>(PP T1 G X).aj s (fun v36 s=>(PP T1 G X).aq s (fun v37 s=>(PP T1 G X).aF s (fun v39 s=>(PP T1 G X).cz s (fun v40 s=>(PP T1 G X).aG s (fun v41 s=>(PP T1 G X).aj s (fun v42 s=>(PP T1 G X).aj s (fun v43 s=>(PP T1 G X).a7 s k 1 v43 (AV.av s.aa v40)) 3 v42) 0 v41) (.ref (.g d j) 0)) 1 8 (Ig (.ref (.g d j) 0)) v37 v39) 1 [I v]) none v36) 3 v35) 0 v34) (.ref (.g d j) 0)=k .dead S':=by
 obtain⟨gi,gv,gr,gn,gq,c,T⟩:=h.c
 have ld:=fun k:K1=>GY G X k h.fd c (o:=0+0+3) (c:=gp A.roots gr) rfl
 obtain⟨F1,g1,T1',c1,kb1,Yh⟩:=sC G X (S:=S) (j:=j) (k:=2) (o:=0+0+3) (q:=1) (bytes:=8) (es:=A.roots.map I) (new:=[I v]) (g:=gr) (g2:=.exact) h.fd cK c T (by simp) (by simp [e8]) (by simp) (by simp;omega) rfl (fun a e=>by cases e)
 have my:(S.bz d F1).cC d=F1:=cj h.fd F1
 refine⟨S.bz d F1,⟨h.fd.put _ _,⟨gi,gv,g1,gn,gq,by rw[my,c1];simp [e8],by rw[my];simpa using T1'⟩,h.l,h.b⟩,⟨⟨_,rfl⟩,by rw[my];exact kb1⟩,fun k=>?_⟩
 rw[aU,aC,aC,ld,sA]
 refine Eq.trans ?_ (Yh k)
 rfl
theorem TG(f:Nat)(dB:List (List Nat×List Nat))(g1:Gr)(LH:dB.length < 1000000)(nr:∀p∈dB,p.2.length < 1000000000∧p.2≠[105,110]):∀(l pre:List (List Nat×List Nat)) (D:List (List Nat×Df)) (S:St) (A:cm),dB=pre ++ l→gM f l=some D→BX d j S A→d≠S.aa→dK A (fJ D) l.length→A.env.length+l.length < 1000000000→
  ∃S',zE (PP T1 G X) (.ref (.g d j) 0) (.sl 1 (ee dB) g1) (.int .i64 ((2 * pre.length:Nat):Int)) S=(PP T1 G X).aI false [] S'∧BX d j S' (cI D A)∧eT d j S S':=by
 intro l
 induction l with
 | nil=>
  intro pre D S A hd hD h cK hR he
  injection hD with hD;subst hD
  obtain⟨src,n,h⟩:=h
  refine⟨S,?_,⟨src,n,h⟩, .refl h.fd⟩
  have hlen:=qJ dB
  rw[List.append_nil] at hd
  subst hd
  have a1:=fun(S:St) (k:K1)=>gD G X S k (2 * dB.length) (by omega)
  rw[Cu _ (aA _ _ _),a1,bt,hlen,bb,aT (by omega),bf]
 | cons p l ih=>
  intro pre D S A hd hD h cK hR he
  obtain⟨w,sc⟩:=p
  rw[gM] at hD
  cases hx:Tf f sc with
  | none=>rw[hx] at hD;cases hD
  | some x=>
   rw[hx] at hD
   simp only at hD
   cases hq:gM f l with
   | none=>rw[hq] at hD;cases hD
   | some D'=>
    rw[hq] at hD
    injection hD with hD
    subst hD
    obtain⟨src,n,h⟩:=h
    have hlen:=qJ dB
    have tG:pre.length < dB.length:=by rw[hd];simp
    have hg:=wW pre (w,sc) l
    rw[←hd] at hg
    dsimp only at hg
    obtain⟨kX,mn⟩:=nr (w,sc) (by rw[hd];simp)
    dsimp only at kX mn
    have G7:=hR
    rw[cP,fJ] at G7
    rw[cP] at he
    have G8:dK (x.run w A) (fJ D') l.length:=dK.df w G7
    have Jf:=G7.ins
    have awS:=G7.roots
    have a1:=fun(S:St) (k:K1)=>gD G X S k (2 * pre.length) (by omega)
    have a2:∀(S:St) (k:K1),(PP T1 G X).ak S k (au .add (.int .i64 ((2 * pre.length:Nat):Int)) (.int .i64 2))=k (.int .i64 ((2 * pre.length+2:Nat):Int)) S:=fun S k=>iI (T:=T1) (G:=G) (X:=X) (s:=S) (k:=k) (2 * pre.length) 2 (by omega)
    have i1:=fun(S:St) (k:K1)=>kF G X S k 1 (ee dB) g1 .i64 (2 * pre.length) _ hg.1
    have i2:=fun(S:St) (k:K1)=>kF G X S k 1 (ee dB) g1 .i64 (2 * pre.length+1) _ hg.2
    have ls:=fun(S:St) (k:K1) (b:List Nat)=>show(PP T1 G X).aq S k none (.bO (AV.cells (.str b)))=k (.str b) S from rfl
    have rest:∀S1:St,BX d j S1 (x.run w A)→(x.run w A).env.length=A.env.length+1→eT d j S S1→∃S',zD (PP T1 G X) (.ref (.g d j) 0) (.sl 1 (ee dB) g1) (.int .i64 ((2 * pre.length:Nat):Int)) S1=(PP T1 G X).aI false [] S'∧BX d j S' (cI ((w,x) :: D') A)∧eT d j S S':=fun S1 h1 mH u1=>by
     obtain⟨S2,e2,h2,u2⟩:=ih (pre ++ [(w,sc)]) D' S1 (x.run w A) (by rw[hd];simp) hq h1 (by rw[u1.aa];exact cK) G8 (by omega)
     refine⟨S2,?_,h2,u1.trans u2⟩
     rw[RS _ (aA _ _ _),a2,←e2,dp]
     rfl
    rw[Cu _ (aA _ _ _),a1,bt,hlen,bb,a9 (by omega),be,RU _ (aA _ _ _),a1,i2,ls]
    unfold Tf at hx
    rw[if_neg mn] at hx
    cases sc with
    | nil=>cases hx
    | cons y r=>
     simp only at hx
     have ix:∀(S:St) (k:K1),(PP T1 G X).cZ S k (.str (y :: r)) (.int .i64 0)=k (.int .u8 (y:Int)) S:=fun S k=>gS G X (s:=S) (k:=k) (y :: r) .i64 0 y rfl
     by_cases hy:y=33
     ·rw[if_pos hy] at hx
      cases hp:pS f r with
      | none=>rw[hp] at hx;cases hx
      | some er=>
       obtain⟨ex,r1⟩:=er
       rw[hp] at hx
       injection hx with hx
       subst hx
       rw[Df.size] at Jf
       have hl:=dH ex A
       have xZ:=fb ex A
       have aph:∀(S:St) (k:K1),(PP T1 G X).qo (.str (y :: r)) (some (.int .i64 1)) none S k=k (.str r) S:=fun S k=>by
        show hSub (.str (y :: r)) (some (.int .i64 1)) none S k=_
        unfold hSub
        simp [tI,eE]
        have q1:Nat.ble 1 (r.length+1)=true:=dy (by omega)
        have q2:Nat.ble (r.length+1) (r.length+1)=true:=dy (Nat.le_refl _)
        rw[q1,q2]
        rfl
       obtain⟨S1,e1,h1,u1⟩:=He G X h hp (by simp at kX;omega) (by omega) (by omega)
       obtain⟨S2,h2,u2,c2⟩:=h1.put G X (by omega) 6 (ex.run A).2 0
       obtain⟨S3,h3,u3,c3⟩:=h2.root G X (by rw[u2.aa,u1.aa];exact cK) (by show(ex.run A).1.roots.length < _;rw[xZ.1];omega) ((ex.run A).1.emit 6 (ex.run A).2 0).2
       obtain⟨S4,e4,h4,u4⟩:=Ap G X h3 w ((ex.run A).1.emit 6 (ex.run A).2 0).2 (by show(ex.run A).1.env.length < _;rw[xZ.2.2.2];omega)
       obtain⟨S5,e5,h5,u5⟩:=rest S4 ⟨_,_,h4⟩ (by show(ex.run A).1.env.length+1=_;rw[xZ.2.2.2]) (u1.trans (u2.trans (u3.trans u4)))
       refine⟨S5,?_,h5,u5⟩
       rw[ix,bj,a9 (by omega),be,a1,i2,ls,aph]
       refine(dJ e1 u1.aa).trans ?_
       refine(c2 _).trans ?_
       refine(c3 _).trans ?_
       rw[i1,ls]
       exact(dJ e4 u4.aa).trans e5
     ·rw[if_neg hy] at hx
      cases hp:pS f (y :: r) with
      | none=>rw[hp] at hx;cases hx
      | some er=>
       obtain⟨ex,r1⟩:=er
       rw[hp] at hx
       injection hx with hx
       subst hx
       rw[Df.size] at Jf
       have xZ:=fb ex A
       obtain⟨S1,e1,h1,u1⟩:=He G X h hp kX (by omega) (by omega)
       obtain⟨S2,e2,h2,u2⟩:=Ap G X h1 w (ex.run A).2 (by rw[xZ.2.2.2];omega)
       obtain⟨S3,e3,h3,u3⟩:=rest S2 ⟨_,_,h2⟩ (by show(ex.run A).1.env.length+1=_;rw[xZ.2.2.2]) (u1.trans u2)
       refine⟨S3,?_,h3,u3⟩
       rw[ix,bj,aT (by omega),bf,RT _ (aA _ _ _),a1,i2,ls]
       refine(dJ e1 u1.aa).trans ?_
       rw[i1,ls]
       exact(dJ e2 u2.aa).trans e3
theorem TH(f:Nat)(dB:List (List Nat×List Nat))(D:List (List Nat×Df))(g1:Gr)(hD:gM f dB=some D)(LH:dB.length < 1000000)(nr:∀p∈dB,p.2.length < 1000000000∧p.2≠[105,110])(h:BX d j s A)(hR:dK A (fJ D) dB.length)(he:A.env.length+dB.length < 1000000000):
  ∃s',aJ T1 G X 110 [.ref (.g d j) 0, .sl 1 (ee dB) g1] s= .ok (.cS []) s'∧BX d j s' (cI D A)∧eT d j s s':=by
 obtain⟨src,n,h⟩:=h
 obtain⟨S1,e1,⟨jD,n',h1⟩,u1⟩:=TG G X f dB g1 LH nr dB [] D s.ai A rfl hD ⟨src,n,h.ai⟩ h.ne hR he
 obtain⟨s',rfl,u',h'⟩:=eT.exit h u1 h1
 refine⟨s',?_,⟨jD,n',h'⟩,u'⟩
 rw[W4,anH]
 exact e1.trans (sE G X _)
end
section
variable{d j n:Nat}{S:St}{A:cm}{src:List Nat}
theorem TI(rows:List (List Int×Gr))(g:Gr)(v2:AV)(i:Nat)(row:List Int)(gw:Gr)(wq:rows[i]? =some (row,gw))(tail:List Nat)(uK:tail.length≤1)(nm:List (List Nat))(gn:Gr)(hnm:∀n∈nm,n.length≤2)(jM:row.length < 1000)(hnl:nm.length < 1000):
  ∀(rs pre:List Int) (ns uQ:List (List Nat)) (S:St) (e:Ev),row=pre ++ rs→nm=uQ ++ ns→uQ.length=pre.length→BX d j S {A with env:=e}→e.length+rs.length < 1000000000→
  ∃S',uA (PP T1 G X) (.ref (.g d j) 0) (.sl 1 (rows.map bN) g) v2 (In i) (.str tail) (.sl 1 (strs nm) gn) (In pre.length) S=Gh (PP T1 G X) (.ref (.g d j) 0) (.sl 1 (rows.map bN) g) v2 (In i) S'∧BX d j S' {A with env:=iZ tail ns rs e}∧eT d j S S':=by
 have g0:(rows.map bN)[i]? =some (gp row gw):=by rw[List.getElem?_map,wq];rfl
 have i0:=fun(S:St) (k:K1)=>kF G X S k 1 (rows.map bN) g .i64 i _ g0
 have lV:=fun(S:St) (k:K1)=>show(PP T1 G X).aq S k none (.bO (AV.cells (gp row gw)))=k (gp row gw) S from rfl
 have lN:∀(S:St) (k:K1),(PP T1 G X).aV S k false (.sl 1 (strs nm) gn)=k (In nm.length) S:=fun S k=>by
  rw[bt];simp [strs]
 intro rs
 induction rs with
 | nil=>
  intro pre ns uQ S e hp hn hl h he
  rw[List.append_nil] at hp
  subst hp
  obtain⟨src,n,h⟩:=h
  have eb:iZ tail ns [] e=e:=by cases ns <;> rfl
  rw[eb]
  refine⟨S,?_,⟨src,n,h⟩, .refl h.fd⟩
  rw[uB _ (aA _ _ _),i0,lV,bt,cw,bb,aT (by omega)]
  simp -implicitDefEqProofs only[fV,dw,bf]
 | cons r rs ih=>
  intro pre ns uQ S e hp hn hl h he
  have tG:pre.length < row.length:=by rw[hp];simp
  have w2:=fun(S:St) (k:K1)=>bb (T:=T1) (G:=G) (X:=X) (s:=S) (k:=k) .i64 (pre.length:Int) (nm.length:Int)
  cases ns with
  | nil=>
   obtain⟨src,n,h⟩:=h
   rw[List.append_nil] at hn
   have aIr:=congrArg List.length hn
   refine⟨S,?_,⟨src,n,h⟩, .refl h.fd⟩
   rw[uB _ (aA _ _ _),i0,lV,bt,cw,bb,a9 (by omega)]
   simp -implicitDefEqProofs only[dP,lN,w2]
   rw[aT (by omega),c7,bf]
  | cons nn ns=>
   have hpn:pre.length < nm.length:=by rw[←hl,hn];simp
   have g1:(strs nm)[pre.length]? =some (.str nn):=by rw[hn,←hl];simp [strs]
   have g2:(row.map I)[pre.length]? =some (I r):=by rw[hp];simp
   have i1:=fun(S:St) (k:K1)=>kF G X S k 1 (strs nm) gn .i64 pre.length _ g1
   have i2:=fun(S:St) (k:K1)=>kF G X S k 1 (row.map I) gw .i64 pre.length _ g2
   have lS:=fun(S:St) (k:K1)=>show(PP T1 G X).aq S k none (.bO (AV.cells (.str nn)))=k (.str nn) S from rfl
   have lI:=fun(S:St) (k:K1)=>show(PP T1 G X).aq S k none (.bO (AV.cells (I r)))=k (I r) S from rfl
   have a1:=fun(S:St) (k:K1)=>gD G X S k pre.length (by omega)
   rw[cP] at he
   obtain⟨src,n,h⟩:=h
   obtain⟨S1,e1,h1,u1⟩:=Ap G X h (nn ++ tail) r (by show e.length < _;omega)
   obtain⟨S2,e2,h2,u2⟩:=ih (pre ++ [r]) ns (uQ ++ [nn]) S1 ((nn ++ tail,r) :: e) (by rw[hp];simp) (by rw[hn];simp) (by simp [hl]) ⟨src,n,h1⟩ (by rw[cP];omega)
   refine⟨S2,?_,h2,u1.trans u2⟩
   rw[uB _ (aA _ _ _),i0,lV,bt,cw,bb,a9 (by omega)]
   simp -implicitDefEqProofs only[dP,lN,w2]
   rw[a9 (by omega),c7,be,RI _ (aA _ _ _),i1,lS,agq G X nn tail (by have:=hnm nn (by rw[hn];simp);omega),i0,lV,i2,lI]
   refine(dJ e1 u1.aa).trans ?_
   rw[RH _ (aA _ _ _),a1,←e2,dp]
   rfl
end
def cn(t:Nat):List Nat→Nat
 | []=>0
 | x :: l=>(if x=t then 1 else 0)+cn t l
theorem Hg(t:Nat):∀(l:List Nat) (f:Nat→Nat),mz l f t=f t+cn t l
 | [],f=>rfl
 | x :: l,f=>by
  rw[mz,Hg t l,cn]
  unfold iU
  by_cases h:t=x
  ·rw[if_pos h,if_pos h.symm];omega
  ·rw[if_neg h,if_neg (fun e=>h e.symm)];omega
theorem apQ(t:Nat):∀l,cn t l≤l.length
 | []=>Nat.le_refl _
 | x :: l=>by rw[cn,cP];have:=apQ t l;split <;> omega
section
variable{d j n:Nat}{S:St}{A:cm}{src:List Nat}
theorem Yr(v0 v1:AV)(ts:List Nat)(gt:Gr)(i t:Nat)(hi:ts[i]? =some t)(hl:ts.length < 1000)(S:St):∀(rest pre:List Nat) (same number:Nat),ts=pre ++ rest→same≤pre.length→number≤pre.length+1→
  Dt (PP T1 G X) v0 v1 (.sl 1 (ts.map In) gt) (In i) (In same) (In number) (In pre.length) S=Ds (PP T1 G X) v0 v1 (.sl 1 (ts.map In) gt) (In i) (In (same+cn t rest)) (In (number+cn t (rest.take (i - pre.length)))) S:=by
 intro rest
 induction rest with
 | nil=>
  intro pre same number hp hs hn
  rw[List.append_nil] at hp
  subst hp
  rw[Gi _ (aA _ _ _),bt,cw,bb,aT (by omega),bf]
  simp only[List.take_nil,cn,Nat.add_zero]
 | cons x rest ih=>
  intro pre same number hp hs hn
  have tG:pre.length < ts.length:=by rw[hp];simp
  have g1:(ts.map In)[pre.length]? =some (In x):=by rw[hp];simp
  have g2:(ts.map In)[i]? =some (In t):=by rw[List.getElem?_map,hi];rfl
  have i1:=fun(S:St) (k:K1)=>kF G X S k 1 (ts.map In) gt .i64 pre.length _ g1
  have i2:=fun(S:St) (k:K1)=>kF G X S k 1 (ts.map In) gt .i64 i _ g2
  have lI:=fun(S:St) (k:K1) (x:Nat)=>show(PP T1 G X).aq S k none (.bO (AV.cells (In x)))=k (In x) S from rfl
  have a1:=fun(S:St) (k:K1)=>gD G X S k pre.length (by omega)
  have as:=fun(S:St) (k:K1)=>gD G X S k same (by omega)
  have an:=fun(S:St) (k:K1)=>gD G X S k number (by omega)
  have next:∀Hh uT:Nat,Hh≤pre.length+1→uT≤pre.length+2→zy (PP T1 G X) v0 v1 (.sl 1 (ts.map In) gt) (In i) (In Hh) (In uT) (In pre.length) S=Ds (PP T1 G X) v0 v1 (.sl 1 (ts.map In) gt) (In i) (In (Hh+cn t rest)) (In (uT+cn t (rest.take (i - (pre.length+1))))) S:=fun Hh uT h1 h2=>by
   have:=ih (pre ++ [x]) Hh uT (by rw[hp];simp) (by simp;omega) (by simp;omega)
   rw[dp] at this
   rw[WV _ (aA _ _ _),a1]
   exact this
  rw[Gi _ (aA _ _ _),bt,cw,bb,a9 (by omega),be,WW _ (aA _ _ _),i1,lI,i2,lI,bj,cn]
  by_cases hx:x=t
  ·rw[a9 (by omega),be,as,bb,if_pos hx]
   by_cases hk:pre.length < i
   ·rw[a9 (by omega),be,an,next (same+1) (number+1) (by omega) (by omega)]
    rw[show i - pre.length=(i - (pre.length+1))+1 by omega,List.take_succ_cons,cn,if_pos hx,Nat.add_assoc,Nat.add_assoc]
   ·rw[aT (by omega),bf,next (same+1) number (by omega) (by omega)]
    rw[show i - pre.length=0 by omega,show i - (pre.length+1)=0 by omega,List.take_zero,List.take_zero,Nat.add_assoc]
  ·rw[aT (by omega),bf,if_neg hx,next same number (by omega) (by omega),Nat.zero_add]
   by_cases hk:pre.length < i
   ·rw[show i - pre.length=(i - (pre.length+1))+1 by omega,List.take_succ_cons,cn,if_neg hx,Nat.zero_add]
   ·rw[show i - pre.length=0 by omega,show i - (pre.length+1)=0 by omega,List.take_zero,List.take_zero]
end
theorem Hi(t:Nat):∀(l:List Nat) (f:Nat→Nat),mz (l ++ [t]) f=iU (mz l f) t
 | [],f=>rfl
 | x :: l,f=>by rw[List.cons_append,mz,mz,Hi t l]
theorem Yt{S:St}{k:K1}(m:Nat)(h:m < 10):(PP T1 G X).ak S (fun v44 s=>(PP T1 G X).bc s (fun v45 s=>(PP T1 G X).aF s (fun v46 s=>(PP T1 G X).mq s k v46) 1 [v45]) .u8 v44) (au .add (.int .i64 48) (In m))=k (.str [48+m]) S:=by
 have hm:m=0∨m=1∨m=2∨m=3∨m=4∨m=5∨m=6∨m=7∨m=8∨m=9:=by omega
 rcases hm with rfl | rfl | rfl | rfl | rfl | rfl | rfl | rfl | rfl | rfl <;> rfl
section
variable{d j n:Nat}{S:St}{A:cm}{src:List Nat}
theorem Yu(v0 v1:AV)(ts:List Nat)(gt:Gr)(i t:Nat)(hi:ts[i]? =some t)(ht:t=1∨t=2∨t=3)(v10:AV)(S:St):
  zA (PP T1 G X) v0 v1 (.sl 1 (ts.map In) gt) (In i) v10 S=uA (PP T1 G X) v0 v1 (.sl 1 (ts.map In) gt) (In i) v10 (.sl 1 (strs (jz t)) .exact) (.int .i64 0) S:=by
 have g2:(ts.map In)[i]? =some (In t):=by rw[List.getElem?_map,hi];rfl
 have i2:=fun(S:St) (k:K1)=>kF G X S k 1 (ts.map In) gt .i64 i _ g2
 have lI:=fun(S:St) (k:K1) (x:Nat)=>show(PP T1 G X).aq S k none (.bO (AV.cells (In x)))=k (In x) S from rfl
 have b1:∀(S:St) (k:K1),(PP T1 G X).aF S k 1 [.str [120], .str [121], .str [122]]=k (.sl 1 (strs (jz 1)) .exact) S:=fun _ _=>rfl
 have b2:∀(S:St) (k:K1),(PP T1 G X).aF S k 1 [.str [97], .str [98], .str [99]]=k (.sl 1 (strs (jz 2)) .exact) S:=fun _ _=>rfl
 have b3:∀(S:St) (k:K1),(PP T1 G X).aF S k 1 [.str [117], .str [112], .str [113], .str [114], .str [97,120], .str [97,121], .str [97,122]]=k (.sl 1 (strs (jz 3)) .exact) S:=fun _ _=>rfl
 rw[WX _ (aA _ _ _),b1,i2,lI,bj]
 rcases ht with rfl | rfl | rfl
 ·rw[aT (by decide),bf,wO _ (aA _ _ _),i2,lI,bj,aT (by decide),bf,wM _ (aA _ _ _)]
 ·rw[a9 (by decide),be,b2,wO _ (aA _ _ _),i2,lI,bj,aT (by decide),bf,wM _ (aA _ _ _)]
 ·rw[aT (by decide),bf,wO _ (aA _ _ _),i2,lI,bj,a9 (by decide),be,b3,wM _ (aA _ _ _)]
theorem Yv(rows:List (List Int×Gr))(g gt:Gr)(ts:List Nat)(hts:ts.length < 9)(ht4:∀t∈ts,t=1∨t=2∨t=3)(jM:∀r∈rows,r.1.length < 100):∀(rest pre:List (List Int×Gr)) (jB mA:List Nat) (S:St) (e:Ev),rows=pre ++ rest→ts=mA ++ jB→mA.length=pre.length→rest.length=jB.length→BX d j S {A with env:=e}→e.length+100 * rest.length < 1000000000→
  ∃S',Du (PP T1 G X) (.ref (.g d j) 0) (.sl 1 (rows.map bN) g) (.sl 1 (ts.map In) gt) (In pre.length) S=(PP T1 G X).aI false [] S'∧BX d j S' {A with env:=tn (mz ts fun _=>0) (mz mA fun _=>0) jB (rest.map Prod.fst) e}∧eT d j S S':=by
 intro rest
 induction rest with
 | nil=>
  intro pre jB mA S e hr ht hl hrt h he
  rw[List.append_nil] at hr
  subst hr
  have:jB=[]:=List.eq_nil_of_length_eq_zero hrt.symm
  subst this
  obtain⟨src,n,h⟩:=h
  refine⟨S,?_,⟨src,n,h⟩, .refl h.fd⟩
  rw[Gj _ (aA _ _ _),bt,cw,bb,aT (by omega),bf]
 | cons v rest ih=>
  intro pre jB mA S e hr ht hl hrt h he
  cases jB with
  | nil=>simp at hrt
  | cons t jB=>
   obtain⟨v,gw⟩:=v
   have tG:pre.length < rows.length:=by rw[hr];simp
   have hti:ts[pre.length]? =some t:=by rw[ht,←hl];simp
   have Im:=ht4 t (by rw[ht];simp)
   have hri:rows[pre.length]? =some (v,gw):=by rw[hr];simp
   have Ti:v.length < 100:=jM (v,gw) (by rw[hr];simp)
   have hp8:pre.length < 9:=by
    have:mA.length≤ts.length:=by rw[ht];simp
    omega
   have a1:=fun(S:St) (k:K1)=>gD G X S k pre.length (by omega)
   have l3:=Yr G X (.ref (.g d j) 0) (.sl 1 (rows.map bN) g) ts gt pre.length t hti (by omega) S ts [] 0 1 rfl (by simp) (by simp)
   have aCG:mz ts (fun _=>0) t=0+cn t ts:=Hg t ts _
   have Ud:ts.take (pre.length - ([]:List Nat).length)=mA:=by
    rw[eh,Nat.sub_zero,←hl,ht];simp
   have aCH:iU (mz mA fun _=>0) t t=1+cn t mA:=by
    unfold iU;rw[if_pos rfl,Hg];omega
   rw[Ud,←aCG,←aCH] at l3
   have hcn:=apQ t mA
   have aIt:mA.length≤ts.length:=by rw[ht];simp
   let tail:List Nat:=if 1 < mz ts (fun _=>0) t then[48+iU (mz mA fun _=>0) t t] else[]
   have uK:tail.length≤1:=by show(if _ then _ else _:List Nat).length≤1;split <;> simp
   have hnl:(jz t).length < 1000:=by rcases Im with rfl | rfl | rfl <;> decide
   rw[cP] at he
   obtain⟨S1,e1,h1,u1⟩:=TI G X rows g (.sl 1 (ts.map In) gt) pre.length v gw hri tail uK (jz t) .exact (agr t (by omega)) (by omega) hnl v [] (jz t) [] S e rfl rfl rfl h (by omega)
   have Hp:∀(ns:List (List Nat)) (rs:List Int) (e:Ev),(iZ tail ns rs e).length≤e.length+rs.length:=fun ns=>by
    induction ns with
    | nil=>intro rs e;cases rs <;> simp [iZ]
    | cons a ns ih=>
     intro rs e
     cases rs with
     | nil=>simp [iZ]
     | cons r rs=>rw[iZ];have:=ih rs ((a ++ tail,r) :: e);simp at this ⊢;omega
   obtain⟨S2,e2,h2,u2⟩:=ih (pre ++ [(v,gw)]) jB (mA ++ [t]) S1 (iZ tail (jz t) v e) (by rw[hr];simp) (by rw[ht];simp) (by simp [hl]) (by simpa using hrt) h1 (by have:=Hp (jz t) v e;omega)
   rw[Hi] at h2
   refine⟨S2,?_,h2,u1.trans u2⟩
   rw[Gj _ (aA _ _ _),bt,cw,bb,a9 (by omega),be,WZ _ (aA _ _ _)]
   refine l3.trans ?_
   rw[WY _ (aA _ _ _),dV]
   have fin:zA (PP T1 G X) (.ref (.g d j) 0) (.sl 1 (rows.map bN) g) (.sl 1 (ts.map In) gt) (In pre.length) (.str tail) S=(PP T1 G X).aI false [] S2:=by
    rw[Yu G X _ _ ts gt pre.length t hti Im]
    refine e1.trans ?_
    rw[RJ _ (aA _ _ _),a1,←e2,dp]
    rfl
   by_cases hm:1 < mz ts (fun _=>0) t
   ·rw[a9 (by omega),be]
    refine(Yt G X _ (by omega)).trans ?_
    rw[show tail=[48+iU (mz mA fun _=>0) t t] from if_pos hm] at fin
    exact fin
   ·rw[aT (by omega),bf]
    rw[show tail=[] from if_neg hm] at fin
    exact fin
theorem axb{s:St}(rows:List (List Int×Gr))(g gt:Gr)(ts:List Nat)(hts:ts.length < 9)(hl:rows.length=ts.length)(ht4:∀t∈ts,t=1∨t=2∨t=3)(jM:∀r∈rows,r.1.length < 100)(h:BX d j s {A with env:=[]}):
  ∃s',aJ T1 G X 66 [.ref (.g d j) 0, .sl 1 (rows.map bN) g, .sl 1 (ts.map In) gt] s= .ok (.cS []) s'∧BX d j s' {A with env:=G9 ts (rows.map Prod.fst)}∧eT d j s s':=by
 obtain⟨src,n,h⟩:=h
 obtain⟨S1,e1,⟨jD,n',h1⟩,u1⟩:=Yv G X (d:=d) (j:=j) (A:=A) rows g gt ts hts ht4 jM rows [] ts [] s.ai [] rfl rfl rfl hl ⟨src,n,h.ai⟩ (by simp;omega)
 obtain⟨s',rfl,u',h'⟩:=eT.exit h u1 h1
 refine⟨s',?_,⟨jD,n',h'⟩,u'⟩
 rw[ahp,awc]
 exact e1.trans (sE G X _)
end
def CH(i:Nat):List (List Nat×List Nat):=[([115,48+i],[120,48+i,94,50,32,43,32,121,48+i,94,50]),([102,48+i],[120,48+i,32,122,48+i]),([103,48+i],[121,48+i,32,122,48+i]),([104,48+i],[122,48+i,94,50])]
def sF(i:Nat):List (List Nat×Df):=(gM 400 (CH i)).getD []
theorem apR(i:Nat)(h:i < 5):gM 400 (CH i)=some (sF i)∧fJ (sF i)≤20∧(∀p∈CH i,p.2.length < 1000∧p.2≠[105,110]):=by
 have t:∀i,i < 5→(gM 400 (CH i)).isSome=true∧fJ (sF i)≤20∧(∀p∈CH i,p.2.length < 1000∧p.2≠[105,110]):=by decide +kernel
 obtain⟨t1,t2,t3⟩:=t i h
 refine⟨?_,t2,t3⟩
 unfold sF
 rw[Option.isSome_iff_exists] at t1
 obtain⟨a,ha⟩:=t1
 rw[ha];rfl
def Hj:Nat→Nat→List (List Nat×Df)
 | 0,_=>[]
 | k+1,i=>sF i ++ Hj k (i+1)
theorem lU:∀(a b:List (List Nat×Df)) (A:cm),cI (a ++ b) A=cI b (cI a A)
 | [],b,A=>rfl
 | (w,x) :: a,b,A=>by rw[List.cons_append,cI,cI,lU a b]
section
variable{d j:Nat}{s:St}{A:cm}
theorem TJ(v0 v1:AV)(i:Nat)(h1:1≤i)(h2:i≤4)(S:St):Gl (PP T1 G X) v0 v1 (In i) S=(PP T1 G X).aB S (fun _ s=>Gk (PP T1 G X) v0 v1 (In i) s) 110 [AV.av S.aa v0,AV.av S.aa (.sl 1 (ee (CH i)) .exact)]:=by
 have hi:i=1∨i=2∨i=3∨i=4:=by omega
 rw[RW _ (aA _ _ _)]
 rcases hi with rfl | rfl | rfl | rfl <;> rfl
end
theorem ahZ(i:Nat)(A:cm)(h:i < 5):(cI (sF i) A).env.length=A.env.length+(sF i).length:=by
 have:∀(D:List (List Nat×Df)) (A:cm),(cI D A).env.length=A.env.length+D.length:=fun D=>by
  induction D with
  | nil=>intro A;rfl
  | cons p D ih=>
   intro A
   obtain⟨w,y⟩:=p
   rw[cI,ih,cP]
   cases y with
   | gI=>show(A.env.length+1)+_=_;omega
   | root e=>show((e.run A).1.env.length+1)+_=_;rw[qN];omega
   | ex e=>show((e.run A).1.env.length+1)+_=_;rw[qN];omega
 exact this _ _
theorem dK.run{n m:Nat}:∀(D:List (List Nat×Df)) (A:cm),dK A (fJ D+n) (D.length+m)→dK (cI D A) n m
 | [],A,h=>by rw[cI];simpa [fJ] using h
 | (w,x) :: D,A,h=>by
  rw[cI]
  refine dK.run D _ (dK.df w ?_)
  rw[fJ,cP] at h
  have e1:x.size+fJ D+n=x.size+(fJ D+n):=by omega
  have e2:D.length+1+m=D.length+m+1:=by omega
  rw[e1,e2] at h
  exact h
section
variable{d j:Nat}{s:St}{A:cm}
theorem apS(N:Nat)(hN:N≤4)(h:BX d j s A)(hR:dK A 200 100)(he:A.env.length < 1000):
  ∃s',aJ T1 G X 111 [.ref (.g d j) 0,In N] s= .ok (.cS []) s'∧BX d j s' (cI (Hj N 1) A)∧eT d j s s':=by
 have hlen:∀i,i < 5→(sF i).length=4:=by decide +kernel
 have loop:∀(k i:Nat) (S:St) (A:cm),i+k=N+1→1≤i→BX d j S A→dK A (40 * k+20) (10 * k+10)→A.env.length+10 * k < 10000→
   ∃S',zG (PP T1 G X) (.ref (.g d j) 0) (In N) (In i) S=(PP T1 G X).aI false [] S'∧BX d j S' (cI (Hj k i) A)∧eT d j S S':=by
  intro k
  induction k with
  | zero=>
   intro i S A hi h1 hb hR he
   obtain⟨src,n,hb⟩:=hb
   refine⟨S,?_,⟨src,n,hb⟩, .refl hb.fd⟩
   rw[Cv _ (aA _ _ _),rB,aT (by omega),bf]
  | succ k ih=>
   intro i S A hi h1 hb hR he
   obtain⟨p1,p2,p3⟩:=apR i (by omega)
   have hl4:=hlen i (by omega)
   have cG:dK A (fJ (sF i)) (CH i).length:=⟨by have:=hR.ins;omega,by have:=hR.roots;show _+4 < _;omega,hR.lo,by have:=hR.dx;show _+((4:Nat):Int) < _;omega⟩
   obtain⟨S1,e1,nk,u1⟩:=TH G X 400 (CH i) (sF i) .exact p1 (by show 4 < _;omega) (fun p hp=>by have:=p3 p hp;exact⟨by omega,this.2⟩) hb cG (by show _+4 < _;omega)
   have G8:dK (cI (sF i) A) (40 * k+20) (10 * k+10):=dK.run (sF i) A ⟨by have:=hR.ins;omega,by rw[hl4];have:=hR.roots;omega,hR.lo,by rw[hl4];have:=hR.dx;omega⟩
   obtain⟨S2,e2,h2,u2⟩:=ih (i+1) S1 (cI (sF i) A) (by omega) (by omega) nk G8 (by rw[ahZ i A (by omega),hl4];omega)
   have a1:=fun(S:St) (k:K1)=>gD G X S k i (by omega)
   refine⟨S2,?_,by rw[Hj,lU];exact h2,u1.trans u2⟩
   rw[Cv _ (aA _ _ _),rB,a9 (by omega),be,TJ G X _ _ i h1 (by omega)]
   refine(dJ e1 u1.aa).trans ?_
   rw[RV _ (aA _ _ _),a1]
   exact e2
 obtain⟨src,n,h⟩:=h
 obtain⟨S1,e1,⟨jD,n',h1⟩,u1⟩:=loop N 1 s.ai A (by omega) (by omega) ⟨src,n,h.ai⟩ ⟨by have:=hR.ins;omega,by have:=hR.roots;omega,hR.lo,by have:=hR.dx;omega⟩ (by omega)
 obtain⟨s',rfl,u',h'⟩:=eT.exit h u1 h1
 refine⟨s',?_,⟨jD,n',h'⟩,u'⟩
 rw[W5,anI]
 exact e1.trans (sE G X _)
end
theorem TK(s:St):aJ T1 G X 109 [] s= .ok (.sl 1 (strs (fY 3 false)) .exact) s:=by
 rw[W3,anG]
 rfl
theorem Hk(s:St):aJ T1 G X 131 [] s= .ok (.sl 1 (ee (eC 8 false)) .exact) s:=by
 rw[Xa,anN]
 rfl
theorem TL(s:St):aJ T1 G X 132 [] s= .ok (.sl 1 (strs (fY 8 false)) .exact) s:=by
 rw[Xb,anO]
 rfl
section
variable{d j:Nat}{S:St}{A:cm}
def BV(d j:Nat)(R:ax)(S:St)(q:cm×List Int):Prop:=∃S1,R=(PP T1 G X).aI false [some (gp q.2 (fO q.2))] S1∧BX d j S1 q.1∧eT d j S S1
theorem BV.via{S2:St}{R:ax}{q:cm×List Int}(u:eT d j S S2)(b:BV G X d j R S2 q):BV G X d j R S q:=by
 obtain⟨S1,e,h,u2⟩:=b
 exact⟨S1,e,h,u.trans u2⟩
theorem BV.of{R R':ax}{q:cm×List Int}(e:R=R')(b:BV G X d j R' S q):BV G X d j R S q:=e ▸ b
theorem TM{α:Type}(l:List α):∀a,fO l≠.bJ a:=fun a e=>by unfold fO at e;split at e <;> cases e
theorem BV.call{R:ax}{q:cm×List Int}(h:BX d j S A)(b:BV G X d j R S.ai q):∃S',R= .ok (gp q.2 (fO q.2)) S'∧BX d j S' q.1∧eT d j S S':=by
 obtain⟨src,n,h⟩:=h
 obtain⟨S1,e,⟨jD,n',k⟩,u⟩:=b
 obtain⟨S',rfl,u',k'⟩:=eT.exit h u k
 exact⟨S',by rw[e];exact jv (Child.ai S') _ _ (ahM (TM _) _ _ _),⟨jD,n',k'⟩,u'⟩
theorem BX.dB(h:BX d j S A)(f:Nat)(dB:List (List Nat×List Nat))(D:List (List Nat×Df))(hD:gM f dB=some D)(LH:dB.length < 1000000)(nr:∀p∈dB,p.2.length < 1000000000∧p.2≠[105,110])(hR:dK A (fJ D) dB.length)(he:A.env.length+dB.length < 1000000000):
  ∃S',BX d j S' (cI D A)∧eT d j S S'∧∀k:K1,(PP T1 G X).aB S k 110 [AV.av S.aa (.ref (.g d j) 0),AV.av S.aa (.sl 1 (ee dB) .exact)]=k (.cS []) S':=by
 obtain⟨S',e,h',u⟩:=TH G X f dB D .exact hD LH nr h hR he
 exact⟨S',h',u,fun k=>dJ e u.aa⟩
theorem BX.rb(h:BX d j S A)(f:Nat)(cs:List (List Nat))(E:List Ex)(hE:n9 f cs=some E)(tH:cs.length < 1000000)(Tg:∀p∈cs,p.length < 1000000000)(hb:A.ins.length+oc E < 1000000000)(he:A.env.length < 1000000000):
  BV G X d j ((PP T1 G X).aB S (fun v s=>(PP T1 G X).aI false [some v] s) 108 [AV.av S.aa (.ref (.g d j) 0),AV.av S.aa (.sl 1 (strs cs) .exact)]) S (eR E A):=by
 obtain⟨S',e,h',u⟩:=apP G X f cs E .exact hE tH Tg h hb he
 exact⟨S',dJ e u.aa,h',u⟩
theorem iy:∀(D:List (List Nat×Df)) (A:cm),(cI D A).env.length=A.env.length+D.length
 | [],A=>rfl
 | (w,y) :: D,A=>by
  rw[cI,iy D,cP]
  cases y with
  | gI=>show(A.env.length+1)+_=_;omega
  | root e=>show((e.run A).1.env.length+1)+_=_;rw[qN];omega
  | ex e=>show((e.run A).1.env.length+1)+_=_;rw[qN];omega
theorem TN(h:BX d j S A)(hR:dK A 500 100)(he:A.env.length < 1000):∃S',aJ T1 G X 129 [.ref (.g d j) 0] S= .ok (gp (eR (gH 5 false) (cI (cT 5 false) A)).2 (fO (eR (gH 5 false) (cI (cT 5 false) A)).2)) S'∧BX d j S' (eR (gH 5 false) (cI (cT 5 false) A)).1∧eT d j S S':=by
 obtain⟨pD,pE⟩:=oC 5 false (by decide) (by decide)
 obtain⟨z1,z2,z3,z4,z5,z6⟩:=oD 5 false (by decide) (by decide)
 have z7:=few 5 false (by decide) (by decide)
 have mn:∀p∈eC 5 false,p.2≠[105,110]:=by decide +kernel
 have hx:=h
 obtain⟨src,n,hb⟩:=h
 have h0:BX d j S.ai A:=⟨src,n,hb.ai⟩
 rw[W8,anL]
 refine BV.call G X hx ?_
 obtain⟨S1,h1,u1,c1⟩:=h0.dB G X 400 (eC 5 false) (cT 5 false) pD (by omega) (fun p hp=>⟨by have:=z5 p hp;omega,mn p hp⟩) ⟨by have:=hR.ins;omega,by have:=hR.roots;omega,hR.lo,by have:=hR.dx;omega⟩ (by omega)
 have d1:=lE (cT 5 false) A
 have b:=h1.rb G X 400 (fY 5 false) (gH 5 false) pE (by omega) (fun p hp=>by have:=z6 p hp;omega) (by have:=hR.ins;omega) (by rw[iy];omega)
 refine .via G X u1 (.of G X ?_ b)
 exact c1 _
end
section
variable{d j:Nat}{S:St}{A:cm}
theorem aCI:Hj 3 1=cT 7 false:=by kernel_rfl
theorem apU(h:BX d j S A)(hR:dK A 500 100)(he:A.env.length < 1000):∃S',aJ T1 G X 130 [.ref (.g d j) 0] S= .ok (gp (eR (gH 7 false) (cI (cT 7 false) A)).2 (fO (eR (gH 7 false) (cI (cT 7 false) A)).2)) S'∧BX d j S' (eR (gH 7 false) (cI (cT 7 false) A)).1∧eT d j S S':=by
 obtain⟨pD,pE⟩:=oC 7 false (by decide) (by decide)
 obtain⟨z1,z2,z3,z4,z5,z6⟩:=oD 7 false (by decide) (by decide)
 have z7:=few 7 false (by decide) (by decide)
 have hx:=h
 obtain⟨src,n,hb⟩:=h
 have h0:BX d j S.ai A:=⟨src,n,hb.ai⟩
 rw[W9,anM]
 refine BV.call G X hx ?_
 obtain⟨S1,e1,h1,u1⟩:=apS G X 3 (by decide) h0 ⟨by have:=hR.ins;omega,hR.roots,hR.lo,hR.dx⟩ he
 rw[aCI] at h1
 have d1:=lE (cT 7 false) A
 have b:=h1.rb G X 400 (fY 7 false) (gH 7 false) pE (by omega) (fun p hp=>by have:=z6 p hp;omega) (by have:=hR.ins;omega) (by rw[iy];omega)
 refine .via G X u1 (.of G X ?_ b)
 exact dJ e1 u1.aa
end
section
variable{d j:Nat}{S:St}{A:cm}
def Yw(c:Bool):List (List Nat×Df):=(gM 400 (eC 2 c).tail).getD []
theorem aFG:cT 2 false=([116], .gI) :: Yw false:=by kernel_rfl
theorem aFH:cT 2 true=([116], .gI) :: Yw true:=by kernel_rfl
theorem on2(c:Bool):cT 2 c=([116], .gI) :: Yw c:=by cases c;exact aFG;exact aFH
theorem axc(c:Bool):gM 400 (eC 2 c).tail=some (Yw c)∧(∀p∈(eC 2 c).tail,p.2.length < 1000∧p.2≠[105,110]):=by
 have t:∀c:Bool,(gM 400 (eC 2 c).tail).isSome=true∧(∀p∈(eC 2 c).tail,p.2.length < 1000∧p.2≠[105,110]):=by decide +kernel
 obtain⟨t1,t2⟩:=t c
 refine⟨?_,t2⟩
 unfold Yw
 rw[Option.isSome_iff_exists] at t1
 obtain⟨a,ha⟩:=t1
 rw[ha];rfl
theorem apV(c:Bool)(h:BX d j S A)(hR:dK A 500 100)(he:A.env.length < 1000):∃S',aJ T1 G X 128 [.ref (.g d j) 0, .bool c] S= .ok (gp (eR (gH 2 c) (cI (cT 2 c) A)).2 (fO (eR (gH 2 c) (cI (cT 2 c) A)).2)) S'∧BX d j S' (eR (gH 2 c) (cI (cT 2 c) A)).1∧eT d j S S':=by
 obtain⟨pD,pE⟩:=oC 2 c (by decide) (by decide)
 obtain⟨z1,z2,z3,z4,z5,z6⟩:=oD 2 c (by decide) (by decide)
 have z7:=few 2 c (by decide) (by decide)
 obtain⟨o1,o2⟩:=axc c
 have hx:=h
 obtain⟨src,n,hb⟩:=h
 have h0:BX d j S.ai A:=⟨src,n,hb.ai⟩
 rw[W7,anK]
 refine BV.call G X hx ?_
 have d0:=lE (cT 2 c) A
 have l0:=iy (cT 2 c) A
 rw[on2] at z1 z7 d0 l0 ⊢
 rw[cI] at d0 l0 ⊢
 rw[fJ,Df.size] at z1
 rw[cP] at z7
 obtain⟨S1,e1,h1,u1⟩:=Hf G X h0 [116] (by have:=hR.ins;omega) (by omega) ⟨hR.lo,by have:=hR.dx;omega⟩
 have uK:(eC 2 c).tail.length≤30:=by rw[List.length_tail];omega
 have G8:dK (Df.gI.run [116] A) 400 90:=dK.df (x:=.gI) [116] ⟨by have:=hR.ins;rw[Df.size];omega,by have:=hR.roots;omega,hR.lo,by have:=hR.dx;omega⟩
 have Ee:(Df.gI.run [116] A).env.length=A.env.length+1:=rfl
 obtain⟨S2,h2,u2,c2⟩:=h1.dB G X 400 (eC 2 c).tail (Yw c) o1 (by omega) (fun p hp=>⟨by have:=o2 p hp;omega,(o2 p hp).2⟩) ⟨by have:=G8.ins;omega,by have:=G8.roots;omega,G8.lo,by have:=G8.dx;omega⟩ (by rw[Ee];omega)
 have d1:=lE (Yw c) (Df.gI.run [116] A)
 have b:=h2.rb G X 400 (fY 2 c) (gH 2 c) pE (by omega) (fun p hp=>by have:=z6 p hp;omega) (by have:=G8.ins;omega) (by rw[iy,Ee];omega)
 refine .via G X u1 (.via G X u2 (.of G X ?_ b))
 refine(dJ e1 u1.aa).trans ?_
 rw[fh]
 cases c with
 | false=>rw[Bool.not_false,be];exact c2 _
 | true=>rw[Bool.not_true,bf,RY _ (aA _ _ _)];exact c2 _
end
section
variable{d j:Nat}{S:St}{A:cm}
abbrev dR(op:Nat)(c:Bool)(A:cm):cm×List Int:=eR (gH op c) (cI (cT op c) A)
theorem piece(op:Nat)(c:Bool)(h1:1≤op)(h2:op≤16)(mn:∀p∈eC op c,p.2≠[105,110])(h:BX d j S A)(hR:dK A 500 100)(he:A.env.length < 1000):
  BV G X d j ((PP T1 G X).aB S (fun _ s=>(PP T1 G X).aB s (fun v s=>(PP T1 G X).aI false [some v] s) 108 [AV.av s.aa (.ref (.g d j) 0),AV.av s.aa (.sl 1 (strs (fY op c)) .exact)]) 110 [AV.av S.aa (.ref (.g d j) 0),AV.av S.aa (.sl 1 (ee (eC op c)) .exact)]) S (dR op c A):=by
 obtain⟨pD,pE⟩:=oC op c h1 h2
 obtain⟨z1,z2,z3,z4,z5,z6⟩:=oD op c h1 h2
 have z7:=few op c h1 h2
 obtain⟨S1,k1,u1,c1⟩:=h.dB G X 400 (eC op c) (cT op c) pD (by omega) (fun p hp=>⟨by have:=z5 p hp;omega,mn p hp⟩) ⟨by have:=hR.ins;omega,by have:=hR.roots;omega,hR.lo,by have:=hR.dx;omega⟩ (by omega)
 have d1:=lE (cT op c) A
 have b:=k1.rb G X 400 (fY op c) (gH op c) pE (by omega) (fun p hp=>by have:=z6 p hp;omega) (by have:=hR.ins;omega) (by rw[iy];omega)
 exact .via G X u1 (.of G X (c1 _) b)
theorem DC(op:Nat)(c:Bool)(h1:1≤op)(h2:op≤16)(hn:cT op c=[])(h:BX d j S A)(hR:dK A 500 100)(he:A.env.length < 1000):
  BV G X d j ((PP T1 G X).aB S (fun v s=>(PP T1 G X).aI false [some v] s) 108 [AV.av S.aa (.ref (.g d j) 0),AV.av S.aa (.sl 1 (strs (fY op c)) .exact)]) S (dR op c A):=by
 obtain⟨pD,pE⟩:=oC op c h1 h2
 obtain⟨z1,z2,z3,z4,z5,z6⟩:=oD op c h1 h2
 have b:=h.rb G X 400 (fY op c) (gH op c) pE (by omega) (fun p hp=>by have:=z6 p hp;omega) (by have:=hR.ins;omega) (by omega)
 have e:dR op c A=eR (gH op c) A:=by show eR _ (cI (cT op c) A)=_;rw[hn];rfl
 rw[e]
 exact b
end
section
variable(v0 v2:AV)(S:St)
theorem axd:f82 (PP T1 G X) v0 (.int .i64 10) v2 S=(PP T1 G X).aB S (fun _ s=>(PP T1 G X).aB s (fun v s=>(PP T1 G X).aI false [some v] s) 108 [AV.av s.aa v0,AV.av s.aa (.sl 1 (strs (fY 10 false)) .exact)]) 110 [AV.av S.aa v0,AV.av S.aa (.sl 1 (ee (eC 10 false)) .exact)]:=by
 rw[jG]
 simp -implicitDefEqProofs only[bj,f0 _ (aA _ _ _),fZ _ (aA _ _ _),Int.reduceEq,decide_true,decide_false,be,bf]
 rfl
theorem axe:f82 (PP T1 G X) v0 (.int .i64 11) v2 S=(PP T1 G X).aB S (fun _ s=>(PP T1 G X).aB s (fun v s=>(PP T1 G X).aI false [some v] s) 108 [AV.av s.aa v0,AV.av s.aa (.sl 1 (strs (fY 11 false)) .exact)]) 110 [AV.av S.aa v0,AV.av S.aa (.sl 1 (ee (eC 11 false)) .exact)]:=by
 rw[jG]
 simp -implicitDefEqProofs only[bj,f0 _ (aA _ _ _),fZ _ (aA _ _ _),Int.reduceEq,decide_true,decide_false,be,bf]
 rfl
theorem axf:f82 (PP T1 G X) v0 (.int .i64 13) v2 S=(PP T1 G X).aB S (fun _ s=>(PP T1 G X).aB s (fun v s=>(PP T1 G X).aI false [some v] s) 108 [AV.av s.aa v0,AV.av s.aa (.sl 1 (strs (fY 13 false)) .exact)]) 110 [AV.av S.aa v0,AV.av S.aa (.sl 1 (ee (eC 13 false)) .exact)]:=by
 rw[jG]
 simp -implicitDefEqProofs only[bj,f0 _ (aA _ _ _),fZ _ (aA _ _ _),Int.reduceEq,decide_true,decide_false,be,bf]
 rfl
theorem axg:f82 (PP T1 G X) v0 (.int .i64 14) v2 S=(PP T1 G X).aB S (fun _ s=>(PP T1 G X).aB s (fun v s=>(PP T1 G X).aI false [some v] s) 108 [AV.av s.aa v0,AV.av s.aa (.sl 1 (strs (fY 14 false)) .exact)]) 110 [AV.av S.aa v0,AV.av S.aa (.sl 1 (ee (eC 14 false)) .exact)]:=by
 rw[jG]
 simp -implicitDefEqProofs only[bj,f0 _ (aA _ _ _),fZ _ (aA _ _ _),Int.reduceEq,decide_true,decide_false,be,bf]
 rfl
theorem axh:f82 (PP T1 G X) v0 (.int .i64 12) v2 S=(PP T1 G X).aB S (fun v s=>(PP T1 G X).aI false [some v] s) 108 [AV.av S.aa v0,AV.av S.aa (.sl 1 (strs (fY 12 false)) .exact)]:=by
 rw[jG]
 simp -implicitDefEqProofs only[bj,f0 _ (aA _ _ _),fZ _ (aA _ _ _),Int.reduceEq,decide_true,decide_false,be,bf]
 rfl
theorem axi:f82 (PP T1 G X) v0 (.int .i64 16) v2 S=(PP T1 G X).aB S (fun v s=>(PP T1 G X).aI false [some v] s) 108 [AV.av S.aa v0,AV.av S.aa (.sl 1 (strs (fY 16 false)) .exact)]:=by
 rw[jG]
 simp -implicitDefEqProofs only[bj,f0 _ (aA _ _ _),fZ _ (aA _ _ _),W0 _ (aA _ _ _),Int.reduceEq,decide_false,bf]
 rfl
theorem aCJ:f82 (PP T1 G X) v0 (.int .i64 5) v2 S=(PP T1 G X).aB S (fun v s=>(PP T1 G X).aI false [some v] s) 129 [AV.av S.aa v0]:=by
 rw[jG]
 simp -implicitDefEqProofs only[bj,f0 _ (aA _ _ _),fZ _ (aA _ _ _),Int.reduceEq,decide_true,decide_false,be,bf]
theorem aCK:f82 (PP T1 G X) v0 (.int .i64 6) v2 S=(PP T1 G X).aB S (fun v s=>(PP T1 G X).aI false [some v] s) 129 [AV.av S.aa v0]:=by
 rw[jG]
 simp -implicitDefEqProofs only[bj,f0 _ (aA _ _ _),fZ _ (aA _ _ _),Int.reduceEq,decide_true,decide_false,be,bf]
theorem aCL:f82 (PP T1 G X) v0 (.int .i64 7) v2 S=(PP T1 G X).aB S (fun v s=>(PP T1 G X).aI false [some v] s) 130 [AV.av S.aa v0]:=by
 rw[jG]
 simp -implicitDefEqProofs only[bj,f0 _ (aA _ _ _),fZ _ (aA _ _ _),Int.reduceEq,decide_true,decide_false,be,bf]
theorem aCM:f82 (PP T1 G X) v0 (.int .i64 2) v2 S=(PP T1 G X).aB S (fun v s=>(PP T1 G X).aI false [some v] s) 128 [AV.av S.aa v0,AV.av S.aa v2]:=by
 rw[jG]
 simp -implicitDefEqProofs only[bj,f0 _ (aA _ _ _),fZ _ (aA _ _ _),Int.reduceEq,decide_true,decide_false,be,bf]
end
section
variable(v0 v2:AV)(S:St)
theorem aCN:f82 (PP T1 G X) v0 (.int .i64 3) v2 S=(PP T1 G X).aB S (fun XE s=>(PP T1 G X).aB s (fun v s=>(PP T1 G X).aI false [some v] s) 108 [AV.av s.aa v0,AV.av s.aa XE]) 109 []:=by
 rw[jG]
 simp -implicitDefEqProofs only[bj,f0 _ (aA _ _ _),fZ _ (aA _ _ _),Int.reduceEq,decide_true,decide_false,be,bf]
theorem aCO:f82 (PP T1 G X) v0 (.int .i64 4) v2 S=(PP T1 G X).aB S (fun XE s=>(PP T1 G X).aB s (fun v s=>(PP T1 G X).aI false [some v] s) 108 [AV.av s.aa v0,AV.av s.aa XE]) 109 []:=by
 rw[jG]
 simp -implicitDefEqProofs only[bj,f0 _ (aA _ _ _),fZ _ (aA _ _ _),Int.reduceEq,decide_true,decide_false,be,bf]
theorem aCP:f82 (PP T1 G X) v0 (.int .i64 8) v2 S=(PP T1 G X).aB S (fun v54 s=>(PP T1 G X).aB s (fun _ s=>(PP T1 G X).aB s (fun v57 s=>(PP T1 G X).aB s (fun v s=>(PP T1 G X).aI false [some v] s) 108 [AV.av s.aa v0,AV.av s.aa v57]) 132 []) 110 [AV.av s.aa v0,AV.av s.aa v54]) 131 []:=by
 rw[jG]
 simp -implicitDefEqProofs only[bj,f0 _ (aA _ _ _),fZ _ (aA _ _ _),Int.reduceEq,decide_true,decide_false,be,bf]
end
section
variable{d j:Nat}{S:St}{A:cm}
theorem axj(op:Nat)(c:Bool)(h:BX d j S A)(b:∀S:St,BX d j S A→BV G X d j (f82 (PP T1 G X) (.ref (.g d j) 0) (In op) (.bool c) S) S (dR op c A)):
  ∃S',aJ T1 G X 82 [.ref (.g d j) 0,In op, .bool c] S= .ok (gp (dR op c A).2 (fO (dR op c A).2)) S'∧BX d j S' (dR op c A).1∧eT d j S S':=by
 obtain⟨src,n,hb⟩:=h
 rw[ahq]
 exact BV.call G X ⟨src,n,hb⟩ (b S.ai ⟨src,n,hb.ai⟩)
theorem TO:∀op:Nat,op < 17→3≤op→∀c:Bool,∀p∈eC op c,p.2≠[105,110]:=by decide +kernel
theorem axk(c:Bool)(hR:dK A 500 100)(he:A.env.length < 1000)(S:St)(h:BX d j S A):BV G X d j (f82 (PP T1 G X) (.ref (.g d j) 0) (In 10) (.bool c) S) S (dR 10 c A):=by
 have b:=piece G X 10 false (by decide) (by decide) (TO 10 (by decide) (by decide) false) h hR he
 have e:dR 10 c A=dR 10 false A:=by cases c <;> rfl
 rw[e]
 exact .of G X (axd G X (.ref (.g d j) 0) (.bool c) S) b
theorem axl(c:Bool)(hR:dK A 500 100)(he:A.env.length < 1000)(S:St)(h:BX d j S A):BV G X d j (f82 (PP T1 G X) (.ref (.g d j) 0) (In 11) (.bool c) S) S (dR 11 c A):=by
 have b:=piece G X 11 false (by decide) (by decide) (TO 11 (by decide) (by decide) false) h hR he
 have e:dR 11 c A=dR 11 false A:=by cases c <;> rfl
 rw[e]
 exact .of G X (axe G X (.ref (.g d j) 0) (.bool c) S) b
theorem axm(c:Bool)(hR:dK A 500 100)(he:A.env.length < 1000)(S:St)(h:BX d j S A):BV G X d j (f82 (PP T1 G X) (.ref (.g d j) 0) (In 13) (.bool c) S) S (dR 13 c A):=by
 have b:=piece G X 13 false (by decide) (by decide) (TO 13 (by decide) (by decide) false) h hR he
 have e:dR 13 c A=dR 13 false A:=by cases c <;> rfl
 rw[e]
 exact .of G X (axf G X (.ref (.g d j) 0) (.bool c) S) b
theorem axn(c:Bool)(hR:dK A 500 100)(he:A.env.length < 1000)(S:St)(h:BX d j S A):BV G X d j (f82 (PP T1 G X) (.ref (.g d j) 0) (In 14) (.bool c) S) S (dR 14 c A):=by
 have b:=piece G X 14 false (by decide) (by decide) (TO 14 (by decide) (by decide) false) h hR he
 have e:dR 14 c A=dR 14 false A:=by cases c <;> rfl
 rw[e]
 exact .of G X (axg G X (.ref (.g d j) 0) (.bool c) S) b
theorem axo(c:Bool)(hR:dK A 500 100)(he:A.env.length < 1000)(S:St)(h:BX d j S A):BV G X d j (f82 (PP T1 G X) (.ref (.g d j) 0) (In 12) (.bool c) S) S (dR 12 c A):=by
 have b:=DC G X 12 false (by decide) (by decide) rfl h hR he
 have e:dR 12 c A=dR 12 false A:=by cases c <;> rfl
 rw[e]
 exact .of G X (axh G X (.ref (.g d j) 0) (.bool c) S) b
theorem axp(c:Bool)(hR:dK A 500 100)(he:A.env.length < 1000)(S:St)(h:BX d j S A):BV G X d j (f82 (PP T1 G X) (.ref (.g d j) 0) (In 16) (.bool c) S) S (dR 16 c A):=by
 have b:=DC G X 16 false (by decide) (by decide) rfl h hR he
 have e:dR 16 c A=dR 16 false A:=by cases c <;> rfl
 rw[e]
 exact .of G X (axi G X (.ref (.g d j) 0) (.bool c) S) b
end
section
variable{d j:Nat}{S:St}{A:cm}
theorem aCR(c:Bool)(hR:dK A 500 100)(he:A.env.length < 1000)(S:St)(h:BX d j S A):BV G X d j (f82 (PP T1 G X) (.ref (.g d j) 0) (In 5) (.bool c) S) S (dR 5 c A):=by
 obtain⟨S',e1,h1,u1⟩:=TN G X h hR he
 have e:dR 5 c A=dR 5 false A:=by cases c <;> rfl
 rw[e]
 exact .of G X (aCJ G X (.ref (.g d j) 0) (.bool c) S) ⟨S',dJ e1 u1.aa,h1,u1⟩
theorem aCS(c:Bool)(hR:dK A 500 100)(he:A.env.length < 1000)(S:St)(h:BX d j S A):BV G X d j (f82 (PP T1 G X) (.ref (.g d j) 0) (In 6) (.bool c) S) S (dR 6 c A):=by
 obtain⟨S',e1,h1,u1⟩:=TN G X h hR he
 have e:dR 6 c A=dR 5 false A:=by cases c <;> rfl
 rw[e]
 exact .of G X (aCK G X (.ref (.g d j) 0) (.bool c) S) ⟨S',dJ e1 u1.aa,h1,u1⟩
theorem aCT(c:Bool)(hR:dK A 500 100)(he:A.env.length < 1000)(S:St)(h:BX d j S A):BV G X d j (f82 (PP T1 G X) (.ref (.g d j) 0) (In 7) (.bool c) S) S (dR 7 c A):=by
 obtain⟨S',e1,h1,u1⟩:=apU G X h hR he
 have e:dR 7 c A=dR 7 false A:=by cases c <;> rfl
 rw[e]
 exact .of G X (aCL G X (.ref (.g d j) 0) (.bool c) S) ⟨S',dJ e1 u1.aa,h1,u1⟩
theorem aCU(c:Bool)(hR:dK A 500 100)(he:A.env.length < 1000)(S:St)(h:BX d j S A):BV G X d j (f82 (PP T1 G X) (.ref (.g d j) 0) (In 2) (.bool c) S) S (dR 2 c A):=by
 obtain⟨S',e1,h1,u1⟩:=apV G X c h hR he
 exact .of G X (aCM G X (.ref (.g d j) 0) (.bool c) S) ⟨S',dJ e1 u1.aa,h1,u1⟩
theorem aCV(c:Bool)(hR:dK A 500 100)(he:A.env.length < 1000)(S:St)(h:BX d j S A):BV G X d j (f82 (PP T1 G X) (.ref (.g d j) 0) (In 3) (.bool c) S) S (dR 3 c A):=by
 have b:=DC G X 3 false (by decide) (by decide) rfl h hR he
 have e:dR 3 c A=dR 3 false A:=by cases c <;> rfl
 rw[e]
 refine .of G X (aCN G X (.ref (.g d j) 0) (.bool c) S) (.of G X ?_ b)
 exact aN (TK G X S)
theorem aCW(c:Bool)(hR:dK A 500 100)(he:A.env.length < 1000)(S:St)(h:BX d j S A):BV G X d j (f82 (PP T1 G X) (.ref (.g d j) 0) (In 4) (.bool c) S) S (dR 4 c A):=by
 have b:=DC G X 4 false (by decide) (by decide) rfl h hR he
 have e:dR 4 c A=dR 4 false A:=by cases c <;> rfl
 rw[e]
 refine .of G X (aCO G X (.ref (.g d j) 0) (.bool c) S) (.of G X ?_ b)
 exact aN (TK G X S)
theorem aCX(c:Bool)(hR:dK A 500 100)(he:A.env.length < 1000)(S:St)(h:BX d j S A):BV G X d j (f82 (PP T1 G X) (.ref (.g d j) 0) (In 8) (.bool c) S) S (dR 8 c A):=by
 have b:=piece G X 8 false (by decide) (by decide) (TO 8 (by decide) (by decide) false) h hR he
 have e:dR 8 c A=dR 8 false A:=by cases c <;> rfl
 rw[e]
 refine .of G X (aCP G X (.ref (.g d j) 0) (.bool c) S) (.of G X ?_ b)
 refine(aN (Hk G X S)).trans ?_
 congr 1
 funext _ s
 exact aN (TL G X s)
end
section
variable{d j:Nat}{A:cm}
theorem in1(c:Bool):cT 1 c=[([120,120], .gI),([121,121], .gI)]:=by cases c <;> kernel_rfl
theorem aCY(c:Bool)(hR:dK A 500 100)(he:A.env.length < 1000)(S:St)(h:BX d j S A):BV G X d j (f82 (PP T1 G X) (.ref (.g d j) 0) (In 1) (.bool c) S) S (dR 1 c A):=by
 obtain⟨pD,pE⟩:=oC 1 c (by decide) (by decide)
 obtain⟨z1,z2,z3,z4,z5,z6⟩:=oD 1 c (by decide) (by decide)
 obtain⟨S1,e1,h1,u1⟩:=Hf G X h [120,120] (by have:=hR.ins;omega) (by omega) ⟨hR.lo,by have:=hR.dx;omega⟩
 have AN:(Df.gI.run [120,120] A).ins.length=A.ins.length+1:=fQ A 1 A.dx 0
 have Iv:(Df.gI.run [120,120] A).env.length=A.env.length+1:=rfl
 have hi1:(Df.gI.run [120,120] A).dx=A.dx+1:=rfl
 obtain⟨S2,e2,h2,u2⟩:=Hf G X h1 [121,121] (by have:=hR.ins;omega) (by omega) ⟨by rw[hi1];have:=hR.lo;omega,by rw[hi1];have:=hR.dx;omega⟩
 have hl2:(Df.gI.run [121,121] (Df.gI.run [120,120] A)).ins.length=A.ins.length+2:=by
  have:=fQ (Df.gI.run [120,120] A) 1 (Df.gI.run [120,120] A).dx 0
  rw[AN] at this
  exact this
 have Ak:(Df.gI.run [121,121] (Df.gI.run [120,120] A)).env.length=A.env.length+2:=rfl
 have b:=h2.rb G X 400 (fY 1 c) (gH 1 c) pE (by omega) (fun p hp=>by have:=z6 p hp;omega) (by have:=hR.ins;omega) (by omega)
 have e:dR 1 c A=eR (gH 1 c) (Df.gI.run [121,121] (Df.gI.run [120,120] A)):=by show eR _ (cI (cT 1 c) A)=_;rw[in1];rfl
 rw[e]
 refine .via G X u1 (.via G X u2 (.of G X ?_ b))
 rw[jG,bj,a9 (by decide),be]
 refine(dJ e1 u1.aa).trans ?_
 refine(dJ e2 u2.aa).trans ?_
 cases c <;> rfl
end
section
variable{d j:Nat}{S:St}{A:cm}
def CW:List (List Nat×Df):=(gM 400 ((eC 9 false).take 3)).getD []
def Iw:List (List Nat×Df):=(gM 400 (((eC 9 false).drop 3).take 4)).getD []
def CI:List (List Nat×Df):=(gM 400 ((eC 15 false).drop 7)).getD []
def tD:List (List Nat×Df):=(gM 400 ((eC 15 false).take 3)).getD []
theorem axq:gM 400 ((eC 9 false).take 3)=some CW:=by kernel_rfl
theorem axr:gM 400 (((eC 9 false).drop 3).take 4)=some Iw:=by kernel_rfl
theorem apX:gM 400 ((eC 15 false).take 3)=some tD:=by kernel_rfl
theorem apY:gM 400 ((eC 15 false).drop 7)=some CI:=by kernel_rfl
theorem d9:cT 9 false=CW ++ (Iw ++ cT 8 false):=by kernel_rfl
theorem d15:cT 15 false=tD ++ (cT 8 false ++ CI):=by kernel_rfl
end
section
variable{d j:Nat}{S:St}{A:cm}
theorem BX.part(h:BX d j S A)(dB:List (List Nat×List Nat))(D:List (List Nat×Df))(hD:gM 400 dB=some D)(hl:dB.length≤20)(nr:∀p∈dB,p.2.length < 1000∧p.2≠[105,110]){n:Nat}(hs:fJ D≤200)(hDl:D.length≤20)(hR:dK A (200+n) 60)(he:A.env.length+20 < 10000):
  ∃S',BX d j S' (cI D A)∧eT d j S S'∧∀k:K1,(PP T1 G X).aB S k 110 [AV.av S.aa (.ref (.g d j) 0),AV.av S.aa (.sl 1 (ee dB) .exact)]=k (.cS []) S':=
 h.dB G X 400 dB D hD (by omega) (fun p hp=>by have:=nr p hp;exact⟨by omega,this.2⟩) ⟨by have:=hR.ins;omega,by have:=hR.roots;omega,hR.lo,by have:=hR.dx;omega⟩ (by omega)
end
section
variable(v0 v2:AV)(S:St)
theorem aCZ:f82 (PP T1 G X) v0 (.int .i64 9) v2 S=(PP T1 G X).aB S (fun _ s=>(PP T1 G X).aB s (fun _ s=>(PP T1 G X).aB s (fun v54 s=>(PP T1 G X).aB s (fun _ s=>(PP T1 G X).aB s (fun v57 s=>(PP T1 G X).aB s (fun v s=>(PP T1 G X).aI false [some v] s) 108 [AV.av s.aa v0,AV.av s.aa v57]) 132 []) 110 [AV.av s.aa v0,AV.av s.aa v54]) 131 []) 110 [AV.av s.aa v0,AV.av s.aa (.sl 1 (ee (((eC 9 false).drop 3).take 4)) .exact)]) 110 [AV.av S.aa v0,AV.av S.aa (.sl 1 (ee ((eC 9 false).take 3)) .exact)]:=by
 rw[jG]
 simp -implicitDefEqProofs only[bj,f0 _ (aA _ _ _),fZ _ (aA _ _ _),Int.reduceEq,decide_true,decide_false,be,bf]
 rfl
theorem axs:f82 (PP T1 G X) v0 (.int .i64 15) v2 S=(PP T1 G X).aB S (fun _ s=>(PP T1 G X).aB s (fun v54 s=>(PP T1 G X).aB s (fun _ s=>(PP T1 G X).aB s (fun _ s=>(PP T1 G X).aB s (fun v s=>(PP T1 G X).aI false [some v] s) 108 [AV.av s.aa v0,AV.av s.aa (.sl 1 (strs (fY 15 false)) .exact)]) 110 [AV.av s.aa v0,AV.av s.aa (.sl 1 (ee ((eC 15 false).drop 7)) .exact)]) 110 [AV.av s.aa v0,AV.av s.aa v54]) 131 []) 110 [AV.av S.aa v0,AV.av S.aa (.sl 1 (ee ((eC 15 false).take 3)) .exact)]:=by
 rw[jG]
 simp -implicitDefEqProofs only[bj,f0 _ (aA _ _ _),fZ _ (aA _ _ _),Int.reduceEq,decide_true,decide_false,be,bf]
 rfl
end
section
variable{d j:Nat}{S:St}{A:cm}
theorem dK.le{n m n' m':Nat}(h:dK A n m)(hn:n'≤n)(hm:m'≤m):dK A n' m':=⟨by have:=h.ins;omega,by have:=h.roots;omega,h.lo,by have:=h.dx;omega⟩
theorem dK.next{n m n' m' a b:Nat}{D:List (List Nat×Df)}(h:dK A n m)(hs:fJ D≤a)(hl:D.length≤b)(hn:a+n'≤n)(hm:b+m'≤m):dK (cI D A) n' m':=dK.run D A (h.le (by omega) (by omega))
theorem pcs:(fJ CW≤100∧fJ Iw≤100∧fJ (cT 8 false)≤100∧fJ tD≤100∧fJ CI≤100)∧(CW.length≤10∧Iw.length≤10∧(cT 8 false).length≤10∧tD.length≤10∧CI.length≤10):=by decide +kernel
theorem x98:gH 9 false=gH 8 false:=by kernel_rfl
theorem aC0(c:Bool)(hR:dK A 500 100)(he:A.env.length < 1000)(S:St)(h:BX d j S A):BV G X d j (f82 (PP T1 G X) (.ref (.g d j) 0) (In 9) (.bool c) S) S (dR 9 c A):=by
 obtain⟨⟨s1,s2,s3,s4,s5⟩,l1,l2,l3,l4,l5⟩:=pcs
 obtain⟨S1,h1,u1,c1⟩:=h.part G X ((eC 9 false).take 3) CW axq (by decide +kernel) (by decide +kernel) (n:=0) (by omega) (by omega) (hR.le (by omega) (by omega)) (by omega)
 have R1:dK (cI CW A) 400 90:=hR.next s1 l1 (by decide) (by decide)
 have E1:=iy CW A
 obtain⟨S2,h2,u2,c2⟩:=h1.part G X (((eC 9 false).drop 3).take 4) Iw axr (by decide +kernel) (by decide +kernel) (n:=0) (by omega) (by omega) (R1.le (by omega) (by omega)) (by omega)
 have R2:dK (cI Iw (cI CW A)) 300 80:=R1.next s2 l2 (by decide) (by decide)
 have E2:=iy Iw (cI CW A)
 obtain⟨pD,pE⟩:=oC 8 false (by decide) (by decide)
 obtain⟨z1,z2,z3,z4,z5,z6⟩:=oD 8 false (by decide) (by decide)
 obtain⟨S3,h3,u3,c3⟩:=h2.part G X (eC 8 false) (cT 8 false) pD (by decide +kernel) (by decide +kernel) (n:=0) (by omega) (by omega) (R2.le (by omega) (by omega)) (by omega)
 have R3:dK (cI (cT 8 false) (cI Iw (cI CW A))) 200 70:=R2.next s3 l3 (by decide) (by decide)
 have E3:=iy (cT 8 false) (cI Iw (cI CW A))
 have b:=h3.rb G X 400 (fY 8 false) (gH 8 false) pE (by omega) (fun p hp=>by have:=z6 p hp;omega) (by have:=R3.ins;omega) (by omega)
 have e:dR 9 c A=dR 9 false A:=by cases c <;> rfl
 have e2:dR 9 false A=eR (gH 8 false) (cI (cT 8 false) (cI Iw (cI CW A))):=by
  show eR (gH 9 false) (cI (cT 9 false) A)=_
  rw[d9,lU,lU,x98]
 rw[e,e2]
 refine .of G X (aCZ G X (.ref (.g d j) 0) (.bool c) S) (.via G X u1 (.via G X u2 (.via G X u3 (.of G X ?_ b))))
 refine(c1 _).trans ((c2 _).trans ((aN (Hk G X S2)).trans ((c3 _).trans (aN (TL G X S3)))))
theorem axt(c:Bool)(hR:dK A 500 100)(he:A.env.length < 1000)(S:St)(h:BX d j S A):BV G X d j (f82 (PP T1 G X) (.ref (.g d j) 0) (In 15) (.bool c) S) S (dR 15 c A):=by
 obtain⟨⟨s1,s2,s3,s4,s5⟩,l1,l2,l3,l4,l5⟩:=pcs
 obtain⟨S1,h1,u1,c1⟩:=h.part G X ((eC 15 false).take 3) tD apX (by decide +kernel) (by decide +kernel) (n:=0) (by omega) (by omega) (hR.le (by omega) (by omega)) (by omega)
 have R1:dK (cI tD A) 400 90:=hR.next s4 l4 (by decide) (by decide)
 have E1:=iy tD A
 obtain⟨pD,pE⟩:=oC 8 false (by decide) (by decide)
 obtain⟨S2,h2,u2,c2⟩:=h1.part G X (eC 8 false) (cT 8 false) pD (by decide +kernel) (by decide +kernel) (n:=0) (by omega) (by omega) (R1.le (by omega) (by omega)) (by omega)
 have R2:dK (cI (cT 8 false) (cI tD A)) 300 80:=R1.next s3 l3 (by decide) (by decide)
 have E2:=iy (cT 8 false) (cI tD A)
 obtain⟨S3,h3,u3,c3⟩:=h2.part G X ((eC 15 false).drop 7) CI apY (by decide +kernel) (by decide +kernel) (n:=0) (by omega) (by omega) (R2.le (by omega) (by omega)) (by omega)
 have R3:dK (cI CI (cI (cT 8 false) (cI tD A))) 200 70:=R2.next s5 l5 (by decide) (by decide)
 have E3:=iy CI (cI (cT 8 false) (cI tD A))
 obtain⟨_,pE⟩:=oC 15 false (by decide) (by decide)
 obtain⟨z1,z2,z3,z4,z5,z6⟩:=oD 15 false (by decide) (by decide)
 have b:=h3.rb G X 400 (fY 15 false) (gH 15 false) pE (by omega) (fun p hp=>by have:=z6 p hp;omega) (by have:=R3.ins;omega) (by omega)
 have e:dR 15 c A=dR 15 false A:=by cases c <;> rfl
 have e2:dR 15 false A=eR (gH 15 false) (cI CI (cI (cT 8 false) (cI tD A))):=by
  show eR (gH 15 false) (cI (cT 15 false) A)=_
  rw[d15,lU,lU]
 rw[e,e2]
 refine .of G X (axs G X (.ref (.g d j) 0) (.bool c) S) (.via G X u1 (.via G X u2 (.via G X u3 (.of G X ?_ b))))
 refine(c1 _).trans ((aN (Hk G X S1)).trans ((c2 _).trans (c3 _)))
theorem axu(op:Nat)(c:Bool)(o1:1≤op)(o2:op≤16)(hR:dK A 500 100)(he:A.env.length < 1000)(h:BX d j S A):
  ∃S',aJ T1 G X 82 [.ref (.g d j) 0,In op, .bool c] S= .ok (gp (dR op c A).2 (fO (dR op c A).2)) S'∧BX d j S' (dR op c A).1∧eT d j S S':=by
 refine axj G X op c h (fun S h=>?_)
 have hc:op=1∨op=2∨op=3∨op=4∨op=5∨op=6∨op=7∨op=8∨op=9∨op=10∨op=11∨op=12∨op=13∨op=14∨op=15∨op=16:=by omega
 rcases hc with rfl | rfl | rfl | rfl | rfl | rfl | rfl | rfl | rfl | rfl | rfl | rfl | rfl | rfl | rfl | rfl
 ·exact aCY G X c hR he S h
 ·exact aCU G X c hR he S h
 ·exact aCV G X c hR he S h
 ·exact aCW G X c hR he S h
 ·exact aCR G X c hR he S h
 ·exact aCS G X c hR he S h
 ·exact aCT G X c hR he S h
 ·exact aCX G X c hR he S h
 ·exact aC0 G X c hR he S h
 ·exact axk G X c hR he S h
 ·exact axl G X c hR he S h
 ·exact axo G X c hR he S h
 ·exact axm G X c hR he S h
 ·exact axn G X c hR he S h
 ·exact axt G X c hR he S h
 ·exact axp G X c hR he S h
end
structure L9 (S:St) (g1 g2:Gr) (n m:Nat):Prop where
 a:iX S g1 n
 b:iX S g2 m
 ap:∀t:Nat,g1= .bJ (.l t)→g2≠.bJ (.l t)
theorem L9.swap{S:St}{g1 g2:Gr}{n m:Nat}(h:L9 S g1 g2 n m):L9 S g2 g1 m n:=⟨h.b,h.a,fun t e e2=>h.ap t e2 e⟩
theorem L9.app{s S:St}{es:List AV}{g1 g2:Gr}{m bytes:Nat}(v:AV)(h:L9 S g1 g2 es.length m)(hS:Child s S)(hc:v.cells.all AV.dU=true)(hb:(es.length+1) * bytes≤1099511627776):
  ∃g' S',L9 S' g' g2 (es.length+1) m∧Child s S'∧∀k:K1,(PP T1 G X).cz S k 1 bytes (some (.l 0)) (.sl 1 es g1) (.sl 1 [v] .exact)=k (.sl 1 (es ++ [v]) g') S':=by
 obtain⟨g',S',k1,k2,k3,k4,k5,k6⟩:=Ai G X (S:=S) (q:=1) (bytes:=bytes) (es:=es) (new:=[v]) (g:=g1) (g2:=.exact) h.a (by simp) hb (by simpa using hc) (fun a e=>by cases e)
 refine⟨g',S',⟨k1,k5.grow h.b (fun j e e2=>h.ap j e2 e),fun t e e2=>?_⟩,k5.child hS,k6⟩
 by_cases hn:g1= .nil
 ·have e3:=k4 hn
  rw[e3] at e
  injection e with e
  injection e with e
  rcases h.b.inv with⟨e4,_⟩ | ⟨u,e4,_,e5⟩
  ·rw[e4] at e2;cases e2
  ·rw[e4] at e2
   injection e2 with e2
   injection e2 with e2
   have:=(bZ.1 e5).1
   omega
 ·rw[k3 hn] at e;exact h.ap t e e2
def qO(l:List aS)(x:aS)(as:List Int):List Nat:=d7 (decide (x.op=4)) (as.map (jU l))
theorem Yx(l:List aS)(x:aS)(as:List Int)(a:Int):qO l x (as ++ [a])=qO l x as ++ [if x.op=4 then 1 else jU l a]:=by
 unfold qO d7
 by_cases h:x.op=4 <;> simp [h]
theorem Bm(l:List aS)(x:aS)(as:List Int):(qO l x as).length=as.length:=by
 unfold qO d7
 split <;> simp
section
variable{d j:Nat}{s S:St}{A:cm}
theorem BX.head(h:BX d j S A)(v1 v2:AV):∃S',BX d j S' {A with env:=[]}∧eT d j S S'∧f47 (PP T1 G X) (.ref (.g d j) 0) v1 v2 S=vA (PP T1 G X) (.ref (.g d j) 0) v1 v2 (.sl 1 [] .nil) (.sl 1 [] .nil) (In 0) S':=by
 obtain⟨src,n,h⟩:=h
 obtain⟨gi,gv,gr,gn,gq,c,T⟩:=h.c
 have oT:=(bZ.1 c).1
 have hf:=fun F=>cj h.fd F
 let cs0:=e8 A gi gv gr gn gq src n
 let tu:=cs0.set 4 (.sl 1 [] .nil)
 let F1:=(S.cC d).set j (.cells tu)
 have s1:=fun k:K1=>lQ (T:=T1) (G:=G) (X:=X) (k:=k) h.fd c (o:=0+4) (v:=.sl 1 [] .nil) (by simp [e8]) rfl rfl rfl (.inl rfl)
 have c1:((S.bz d F1).cC d)[j]? =some (.cells tu):=by rw[hf];simp [F1,oT]
 have s2:=fun k:K1=>lQ (T:=T1) (G:=G) (X:=X) (k:=k) (h.fd.put d F1) c1 (o:=0+5) (v:=.sl 1 [] .nil) (by simp [tu,cs0,e8]) rfl rfl rfl (.inl rfl)
 rw[hf,gT] at s2
 have hF:(F1.set j (.cells (tu.set (0+5) (AV.av S.aa (.sl 1 [] .nil)))))=(S.cC d).set j (.cells (e8 {A with env:=[]} gi gv gr .nil .nil src n)):=by
  show((S.cC d).set j _).set j _=_
  rw[List.set_set]
  rfl
 refine⟨S.bz d ((S.cC d).set j (.cells (e8 {A with env:=[]} gi gv gr .nil .nil src n))),⟨src,n,h.fd.put _ _,⟨gi,gv,gr, .nil, .nil,by rw[hf];simp [oT],?_⟩,h.l,h.b⟩,⟨⟨_,rfl⟩,?_⟩,?_⟩
 ·rw[hf]
  have T':Yq (S.cC d) d [(gi,A.ins.length),(gv,A.aL.length),(gr,A.roots.length),(.nil,0),(.nil,0)]:=by
   refine⟨fun k p hp=>?_,fun a b p p' rI hp mb u e e2=>?_⟩
   ·match k,hp with
    | 0,hp=>exact T.gr 0 p hp
    | 1,hp=>exact T.gr 1 p hp
    | 2,hp=>exact T.gr 2 p hp
    | 3,hp=>injection hp with hp;subst hp;exact .inl ⟨rfl,rfl⟩
    | 4,hp=>injection hp with hp;subst hp;exact .inl ⟨rfl,rfl⟩
    | n+5,hp=>simp at hp
   ·match a,b,hp,mb with
    | 3,_,hp,_=>injection hp with hp;subst hp;cases e
    | 4,_,hp,_=>injection hp with hp;subst hp;cases e
    | _,3,_,mb=>injection mb with mb;subst mb;cases e2
    | _,4,_,mb=>injection mb with mb;subst mb;cases e2
    | n+5,_,hp,_=>simp at hp
    | _,n+5,_,mb=>simp at mb
    | 0,0,_,_=>exact rI rfl
    | 1,1,_,_=>exact rI rfl
    | 2,2,_,_=>exact rI rfl
    | 0,1,hp,mb=>exact T.ap 0 1 p p' rI hp mb u e e2
    | 0,2,hp,mb=>exact T.ap 0 2 p p' rI hp mb u e e2
    | 1,0,hp,mb=>exact T.ap 1 0 p p' rI hp mb u e e2
    | 1,2,hp,mb=>exact T.ap 1 2 p p' rI hp mb u e e2
    | 2,0,hp,mb=>exact T.ap 2 0 p p' rI hp mb u e e2
    | 2,1,hp,mb=>exact T.ap 2 1 p p' rI hp mb u e e2
  exact T'.set c _
 ·rw[hf]
  exact⟨fun i cs hi kE=>by rw[eM (Ne.symm kE)];exact hi,by rw[List.length_set];exact Nat.le_refl _⟩
 ·rw[av9,aU,aC]
  refine(s1 _).trans ?_
  rw[aU,aC]
  refine(show _=_ from s2 _).trans ?_
  exact congrArg (fun F=>vA (PP T1 G X) (.ref (.g d j) 0) v1 v2 (.sl 1 [] .nil) (.sl 1 [] .nil) (In 0) (S.bz d F)) hF
end
section
variable(l:List aS)(g:Gr)(hg:∀a,g≠.bJ a)(hl:l.length < 9223372036854775806)(ct:∀o,o∈l→sp o)(wX:fB l=0)
include hg hl ct wX
theorem Yy{d j:Nat}{A:cm}(x:aS)(i:Nat)(hi:l[i]? =some x)(MY:∀v∈A.aL,∀a,v.2≠.bJ a)(ya:x.args.length < 100)(sY:∀a∈x.args,0≤a∧a < (l.length:Int)∧a.toNat < A.aL.length):
  ∀(rest pre:List Int) (s S:St) (g8 gt:Gr),x.args=pre ++ rest→BX d j s {A with env:=[]}→Child s S→L9 S g8 gt pre.length pre.length→
  ∃S' nJ Yz,vA (PP T1 G X) (.ref (.g d j) 0) (bQ l g) (In i) (.sl 1 ((bI A.aL pre).map bN) g8) (.sl 1 ((qO l x pre).map In) gt) (In pre.length) S=zw (PP T1 G X) (.ref (.g d j) 0) (bQ l g) (In i) (.sl 1 ((bI A.aL x.args).map bN) nJ) (.sl 1 ((qO l x x.args).map In) Yz) S'∧Child s S':=by
 have ei:(l.map aS.enc)[i]? =some x.enc:=by rw[List.getElem?_map,hi];rfl
 have ix:=fun(S:St) (k:K1)=>kF G X S k 12 _ g .i64 i _ ei
 have fa2:=fun(S:St) (k:K1)=>show(PP T1 G X).aj S k 2 (.bO (AV.cells x.enc))=k (.bO ((AV.cells x.enc).drop 2)) S from rfl
 have fa1:=fun(S:St) (k:K1)=>show(PP T1 G X).aj S k 1 (.bO (AV.cells x.enc))=k (.bO ((AV.cells x.enc).drop 1)) S from rfl
 have G3:=fun(S:St) (k:K1)=>show(PP T1 G X).aq S k none (.bO ((AV.cells x.enc).drop 2))=k (gp x.args x.ga) S from rfl
 have mO:=fun(S:St) (k:K1)=>show(PP T1 G X).aq S k none (.bO ((AV.cells x.enc).drop 1))=k (I x.op) S from rfl
 intro rest
 induction rest with
 | nil=>
  intro pre s S g8 gt hp h hS hG
  rw[List.append_nil] at hp
  subst hp
  refine⟨S,g8,gt,?_,hS⟩
  rw[Ge _ (aA _ _ _),ix,fa2,G3,bt,cw,bb,aT (by omega),bf]
 | cons a rest ih=>
  intro pre s S g8 gt hp h hS hG
  obtain⟨ha0,ha1,ha2⟩:=sY a (by rw[hp];simp)
  obtain⟨n,rfl⟩:=Int.eq_ofNat_of_zero_le ha0
  have tG:pre.length < x.args.length:=by rw[hp];simp
  have g1:(x.args.map I)[pre.length]? =some (I (n:Int)):=by rw[hp];simp
  have i1:=fun(S:St) (k:K1)=>kF G X S k 1 (x.args.map I) x.ga .i64 pre.length _ g1
  have lI:=fun(S:St) (k:K1)=>show(PP T1 G X).aq S k none (.bO (AV.cells (I (n:Int))))=k (I (n:Int)) S from rfl
  have hn:n < A.aL.length:=by simpa using ha2
  obtain⟨src,m,hb⟩:=h
  have hbS:=hb.child hS
  obtain⟨gi,gv,gr,gn,gq,c,T⟩:=hbS.c
  have g2:(A.aL.map bN)[n]? =some (bN (A.aL[n])):=by simp [hn]
  have i2:=fun(S:St) (k:K1)=>kF G X S k 1 (A.aL.map bN) gv .i64 n _ g2
  have lV:=fun(S:St) (k:K1)=>show(PP T1 G X).aq S k none (.bO (AV.cells (bN (A.aL[n]))))=k (bN (A.aL[n])) S from rfl
  have a1:=fun(S:St) (k:K1)=>gD G X S k pre.length (by omega)
  have hty:iC l (n:Int)=0:=by
   unfold iC
   rw[if_neg (by simp [wX]),if_neg (by omega)]
  have ldv:=fun(k:K1)=>GY G X k hbS.fd c (o:=0+0+2) (c:=.sl 1 (A.aL.map bN) gv) rfl
  have jM:(bI A.aL pre).length=pre.length:=by simp [bI]
  obtain⟨nJ,S1,G1,LI,Yh⟩:=L9.app G X (s:=s) (S:=S) (es:=(bI A.aL pre).map bN) (g1:=g8) (g2:=gt) (m:=pre.length) (bytes:=24) (bN (A.aL[n])) (by rw[cw,jM];exact hG) hS rfl (by rw[cw,jM];omega)
  rw[cw,jM] at G1
  let t:Nat:=if x.op=4 then 1 else jU l (n:Int)
  obtain⟨Yz,S2,G2,hS2,ap2⟩:=L9.app G X (s:=s) (S:=S1) (es:=(qO l x pre).map In) (g1:=gt) (g2:=nJ) (m:=pre.length+1) (bytes:=8) (In t) (by rw[cw,Bm];exact G1.swap) LI rfl (by rw[cw,Bm];omega)
  rw[cw,Bm] at G2
  have M1:=aw4 G X l g hg hl ct (n:Int) S1
  rw[if_pos hty] at M1
  have htn:I (dQ (l.getD (n:Int).toNat default).op)=In (jU l (n:Int)):=by unfold jU;rw[In,Ha]
  rw[htn] at M1
  have wq:bI A.aL (pre ++ [(n:Int)])=bI A.aL pre ++ [A.aL[n]]:=by simp [bI,List.getD,hn]
  obtain⟨S3,axV,axW,e3,h3⟩:=ih (pre ++ [(n:Int)]) s S2 nJ Yz (by rw[hp];simp) ⟨src,m,hb⟩ hS2 (by rw[dp];exact G2.swap)
  refine⟨S3,axV,axW,?_,h3⟩
  have fin:Dr (PP T1 G X) (.ref (.g d j) 0) (bQ l g) (In i) (.sl 1 ((bI A.aL pre).map bN ++ [bN A.aL[n]]) nJ) (.sl 1 ((qO l x pre).map In) gt) (In pre.length) (In t) S1=zw (PP T1 G X) (.ref (.g d j) 0) (bQ l g) (In i) (.sl 1 ((bI A.aL x.args).map bN) axV) (.sl 1 ((qO l x x.args).map In) axW) S3:=by
   rw[WR _ (aA _ _ _),sA]
   refine(ap2 _).trans ?_
   rw[WQ _ (aA _ _ _),a1,←e3,wq,Yx,dp,List.map_append,List.map_append]
   rfl
  rw[Ge _ (aA _ _ _),ix,fa2,G3,bt,cw,bb,a9 (by omega),be,WS _ (aA _ _ _),ix,fa2,G3,i1,lI,aU,aC,aC,ldv,i2,lV,DB G X _ (MY _ (nd hn))]
  refine(Yh _).trans ?_
  rw[fk l hg]
  refine(aN M1).trans ?_
  rw[lm,lq,ix,fa1,mO,bj,←fin]
  by_cases h4:x.op=4
  ·rw[a9 h4,be,show t=1 from if_pos h4]
   rfl
  ·rw[aT h4,bf,show t=jU l (n:Int) from if_neg h4]
end
structure uU (l:List aS) (x:aS) (A:cm):Prop where
 ty:∀t∈stepT l x,t=1∨t=2∨t=3
 two:x.op=5→x.args.map (jU l)=[1,1]
 len:∀v∈A.aL,v.1.length≤7
theorem apZ{s S:St}(h:Child s S):(PP T1 G X).aI false [] S= .ok (.cS []) s:=by
 obtain⟨h1,h2⟩:=h
 show t9 false [] S=_
 unfold t9
 simp only[iT,cond_false,xe,h1,h2]
theorem Aq(tail:List Nat):∀(ns:List (List Nat)) (r:List Int) (e:Ev),(iZ tail ns r e).length≤e.length+r.length
 | [],r,e=>by rw[iZ];omega;intros;simp_all
 | _ :: _,[],e=>by rw[iZ];omega;intros;simp_all
 | n :: ns,r :: rs,e=>by
  rw[iZ]
  have:=Aq tail ns rs ((n ++ tail,r) :: e)
  simp only[cP] at *
  omega
theorem Hl(many:Nat→Nat):∀(ts:List Nat) (vs:List (List Int)) (seen:Nat→Nat) (e:Ev),(∀v∈vs,v.length≤7)→(tn many seen ts vs e).length≤e.length+7 * vs.length
 | [],vs,seen,e,_=>by rw[tn];omega;intros;simp_all
 | _ :: _,[],seen,e,_=>by rw[tn];omega;intros;simp_all
 | t :: ts,v :: vs,seen,e,h=>by
  rw[tn]
  have h1:=Hl many ts vs (iU seen t) (iZ (if 1 < many t then[48+iU seen t t] else[]) (jz t) v e) (fun u hu=>h u (by simp [hu]))
  have h2:=Aq (if 1 < many t then[48+iU seen t t] else[]) (jz t) v e
  have h3:=h v (by simp)
  simp only[cP]
  omega
theorem uU.rows{l:List aS}{x:aS}{A:cm}(h:uU l x A):∀r∈gU A.aL x,r.1.length≤7:=by
 have h0:∀n:Nat,(A.aL.getD n ([], .nil)).1.length≤7:=fun n=>by
  by_cases hn:n < A.aL.length
  ·have:A.aL.getD n ([], .nil)=A.aL[n]:=by simp [List.getD,hn]
   rw[this];exact h.len _ (nd hn)
  ·have:A.aL.getD n ([], .nil)=([], .nil):=by simp [List.getD,hn]
   rw[this];exact Nat.zero_le _
 have h1:∀r∈bI A.aL x.args,r.1.length≤7:=fun r hr=>by
  unfold bI at hr
  simp only[List.mem_map] at hr
  obtain⟨a,_,rfl⟩:=hr
  exact h0 _
 have h2:∀n:Nat,((bI A.aL x.args).getD n ([], .nil)).1.length≤7:=fun n=>by
  by_cases hn:n < (bI A.aL x.args).length
  ·have:(bI A.aL x.args).getD n ([], .nil)=(bI A.aL x.args)[n]:=by simp [List.getD,hn]
   rw[this];exact h1 _ (nd hn)
  ·have:(bI A.aL x.args).getD n ([], .nil)=([], .nil):=by simp [List.getD,hn]
   rw[this];exact Nat.zero_le _
 intro r hr
 unfold gU at hr
 split at hr
 ·simp only[List.mem_cons,oR,or_false] at hr
  rcases hr with rfl | rfl | rfl
  ·exact h2 0
  ·exact h2 0
  ·exact h2 1
 ·exact h1 r hr
section
variable(l:List aS)(g:Gr){d j:Nat}{s S:St}{A:cm}
theorem YA(x:aS)(i:Nat)(hi:l[i]? =some x)(hx:mF l x A)(hr:uU l x A)(g8 gt:Gr)(S:St):
  ∃nJ Yz,zw (PP T1 G X) (.ref (.g d j) 0) (bQ l g) (In i) (.sl 1 ((bI A.aL x.args).map bN) g8) (.sl 1 ((qO l x x.args).map In) gt) S=zv (PP T1 G X) (.ref (.g d j) 0) (bQ l g) (In i) (.sl 1 ((gU A.aL x).map bN) nJ) (.sl 1 ((d7 (decide (x.op=4)) (stepT l x)).map In) Yz) S:=by
 have ei:(l.map aS.enc)[i]? =some x.enc:=by rw[List.getElem?_map,hi];rfl
 have ix:=fun(S:St) (k:K1)=>kF G X S k 12 _ g .i64 i _ ei
 have fa1:=fun(S:St) (k:K1)=>show(PP T1 G X).aj S k 1 (.bO (AV.cells x.enc))=k (.bO ((AV.cells x.enc).drop 1)) S from rfl
 have mO:=fun(S:St) (k:K1)=>show(PP T1 G X).aq S k none (.bO ((AV.cells x.enc).drop 1))=k (I x.op) S from rfl
 by_cases h5:x.op=5
 ·have h2:=hx.two h5
  have jM:(bI A.aL x.args).length=2:=by simp [bI,h2]
  obtain⟨rH,vU,hR⟩:∃a b,bI A.aL x.args=[a,b]:=by
   match hr:bI A.aL x.args with
   | [a,b]=>exact⟨a,b,rfl⟩
   | []=>rw[hr] at jM;simp at jM
   | [a]=>rw[hr] at jM;simp at jM
   | a :: b :: c :: r=>rw[hr] at jM;simp at jM
  have hv:∀v∈bI A.aL x.args,∀a,v.2≠.bJ a:=fun v hv a=>by
   simp only[bI,List.mem_map] at hv
   obtain⟨q,hq,rfl⟩:=hv
   obtain⟨_,_,q3⟩:=hx.args q hq
   have:A.aL.getD q.toNat ([], .nil)=A.aL[q.toNat]:=by simp [List.getD,q3]
   rw[this]
   exact hx.vr _ (nd q3) a
  have L6:gU A.aL x=[rH,rH,vU]:=by unfold gU;rw[if_pos h5,hR];rfl
  have fD:d7 (decide (x.op=4)) (stepT l x)=[1,1,1]:=by
   unfold stepT d7
   rw[if_pos h5,aT (by omega),if_neg (by decide),hr.two h5];rfl
  have i0:=fun(S:St) (k:K1)=>kF G X S k 1 ((bI A.aL x.args).map bN) g8 .i64 0 (bN rH) (by rw[hR];rfl)
  have i1:=fun(S:St) (k:K1)=>kF G X S k 1 ((bI A.aL x.args).map bN) g8 .i64 1 (bN vU) (by rw[hR];rfl)
  have l0:=fun(S:St) (k:K1) (v:List Int×Gr)=>show(PP T1 G X).aq S k none (.bO (AV.cells (bN v)))=k (bN v) S from rfl
  have GI:∀a,rH.2≠.bJ a:=hv rH (by rw[hR];simp)
  have Ik:∀a,vU.2≠.bJ a:=hv vU (by rw[hR];simp)
  have bs:∀(S:St) (k:K1),(PP T1 G X).aF S k 1 [bN rH,bN rH,bN vU]=k (.sl 1 [bN rH,bN rH,bN vU] .exact) S:=fun S k=>by
   refine kB 1 _ ?_ rfl
   exact qL [rH,rH,vU] (fun u hu=>by
    simp only[List.mem_cons,oR,or_false] at hu
    rcases hu with rfl | rfl | rfl
    ·exact GI
    ·exact GI
    ·exact Ik)
  have b3:∀(S:St) (k:K1),(PP T1 G X).aF S k 1 [(.int .i64 1),(.int .i64 1),(.int .i64 1)]=k (.sl 1 (([1,1,1]:List Nat).map In) .exact) S:=fun S k=>rfl
  refine⟨.exact, .exact,?_⟩
  rw[Gd _ (aA _ _ _),ix,fa1,mO,bj,a9 h5,be]
  refine(i0 _ _).trans ?_
  rw[l0]
  refine(i0 _ _).trans ?_
  rw[l0]
  refine(i1 _ _).trans ?_
  rw[l0,bs,b3,L6,fD]
  rfl
 ·have L6:gU A.aL x=bI A.aL x.args:=by unfold gU;rw[if_neg h5]
  have fD:d7 (decide (x.op=4)) (stepT l x)=qO l x x.args:=by unfold stepT qO;rw[if_neg h5]
  refine⟨g8,gt,?_⟩
  rw[Gd _ (aA _ _ _),ix,fa1,mO,bj,aT h5,bf,L6,fD]
theorem ap0(ts:List Nat)(gt:Gr)(K:K1)(S:St)(hts:ts.length < 100):(PP T1 G X).aV S (fun v87 s=>(PP T1 G X).ak s (fun X7 s=>(PP T1 G X).ah X7 true (fun k=>k (.sl 1 (ts.map In) gt) s) s (fun v90 s=>(PP T1 G X).ah X7 true (fun k=>(PP T1 G X).aX s k 1 v90 (.int .i64 0)) s (fun v91 s=>(PP T1 G X).ah X7 true (fun k=>(PP T1 G X).aq s k none v91) s (fun v92 s=>(PP T1 G X).ah X7 true (fun k=>(PP T1 G X).ak s k (au .eql v92 (.int .i64 3))) s (fun v93 s=>(PP T1 G X).aZ s (fun v94 s=>K v94 s) X7 v93 (.bool false)))))) (au .gtr v87 (.int .i64 0))) false (.sl 1 (ts.map In) gt)=K (.bool (mP ts)) S:=by
 rw[bt,cw,dV]
 cases ts with
 | nil=>
  rw[show(decide ((0:Int) < (([]:List Nat).length:Int)))=false from rfl]
  simp only[fV,dw]
  rfl
 | cons t ts=>
  have i0:=fun(S:St) (k:K1)=>kF G X S k 1 ((t :: ts).map In) gt .i64 0 (In t) rfl
  have l0:=fun(S:St) (k:K1)=>show(PP T1 G X).aq S k none (.bO (AV.cells (In t)))=k (In t) S from rfl
  rw[a9 (by simp)]
  simp only[dP,c7]
  refine(i0 _ _).trans ?_
  simp only[l0,bj]
  congr 2
  unfold mP
  simp
  omega
end
section
variable(l:List aS)(g:Gr){d j:Nat}{s S:St}{A:cm}
theorem ah1(l:List aS)(x:aS):qO l x []=[]:=by unfold qO d7;split <;> rfl
theorem axX(c:Bool)(A:cm):dR 4 c A=dR 4 false A:=by cases c <;> rfl
theorem YB(x:aS)(i:Nat)(hi:l[i]? =some x)(hx:mF l x A)(hr:uU l x A)(g8 gt:Gr)(h:BX d j s {A with env:=[]})(hS:Child s S):
  ∃s',zv (PP T1 G X) (.ref (.g d j) 0) (bQ l g) (In i) (.sl 1 ((gU A.aL x).map bN) g8) (.sl 1 ((d7 (decide (x.op=4)) (stepT l x)).map In) gt) S= .ok (.cS []) s'∧BX d j s' (oe l x A)∧eT d j s s':=by
 have ei:(l.map aS.enc)[i]? =some x.enc:=by rw[List.getElem?_map,hi];rfl
 have ix:=fun(S:St) (k:K1)=>kF G X S k 12 _ g .i64 i _ ei
 have fa1:=fun(S:St) (k:K1)=>show(PP T1 G X).aj S k 1 (.bO (AV.cells x.enc))=k (.bO ((AV.cells x.enc).drop 1)) S from rfl
 have mO:=fun(S:St) (k:K1)=>show(PP T1 G X).aq S k none (.bO ((AV.cells x.enc).drop 1))=k (I x.op) S from rfl
 obtain⟨n,hn⟩:=Int.eq_ofNat_of_zero_le (show 0≤x.op by have:=hx.op1;omega)
 have Iv:1≤n:=by have:=hx.op1;omega
 have Ak:n≤16:=by have:=hx.op2;omega
 have CO:x.op.toNat=n:=by rw[hn];rfl
 let ts:=d7 (decide (x.op=4)) (stepT l x)
 have uK:ts.length=(stepT l x).length:=by
  show(d7 _ _).length=_
  unfold d7;split <;> simp
 have nr:=Hb l x A.aL hx.two
 have ya:(stepT l x).length < 9:=by
  unfold stepT
  have:=hx.al
  split <;> simp <;> omega
 have hty:∀t∈ts,t=1∨t=2∨t=3:=by
  show∀t∈d7 _ _,_
  unfold d7
  split
  ·intro t ht
   simp only[List.mem_map] at ht
   obtain⟨_,_,rfl⟩:=ht
   exact .inl rfl
  ·exact hr.ty
 obtain⟨src,m,hb⟩:=h
 have hbS:=hb.child hS
 obtain⟨S1,e1,h1,u1⟩:=axb G X (s:=S) (d:=d) (j:=j) (A:=A) (gU A.aL x) (g8.av S.aa) (gt.av S.aa) ts (by omega) (by omega) hty (fun r jm=>by have:=hr.rows r jm;omega) ⟨src,m,hbS⟩
 have hE:BX d j S1 (j2 l x A):=h1
 have mH:(j2 l x A).env.length < 1000:=by
  have:=Hl (mz ts fun _=>0) ts ((gU A.aL x).map Prod.fst) (fun _=>0) [] (fun v hv=>by
   simp only[List.mem_map] at hv
   obtain⟨r,jm,rfl⟩:=hv
   exact hr.rows r jm)
  show(G9 ts ((gU A.aL x).map Prod.fst)).length < 1000
  unfold G9
  rw[cw] at this
  simp only[eh] at this
  omega
 have aC2:dK (j2 l x A) 500 100:=⟨by have:=hx.ins;show A.ins.length+500 < _;omega,by have:=hx.roots;show A.roots.length+100 < _;omega,hx.Tw,hx.dx⟩
 obtain⟨S2,e2,h2,u2⟩:=axu G X n (mP ts) Iv Ak aC2 mH hE
 have hC:dR n (mP ts) (j2 l x A)=f5 l x A:=by
  unfold f5
  rw[CO]
  by_cases h4:x.op=4
  ·have hn4:n=4:=by omega
   subst hn4
   exact(axX _ _).trans (axX _ _).symm
  ·have:ts=stepT l x:=by show d7 _ _=_;unfold d7;simp [h4]
   rw[this]
 rw[hC] at e2 h2
 let Q:=f5 l x A
 obtain⟨axY,m2,YC⟩:=h2
 obtain⟨gi,gv,gr,gn,gq,c,T⟩:=YC.c
 have Ti:Q.1.aL=A.aL:=by
  have c1:=wY (gH x.op.toNat (mP (stepT l x))) (cI (cT x.op.toNat (mP (stepT l x))) (j2 l x A))
  have d1:=lE (cT x.op.toNat (mP (stepT l x))) (j2 l x A)
  exact c1.1.trans d1.1
 have hvb:=hx.nv
 have cK:d≠S2.aa:=by rw[u2.aa,u1.aa];exact Child.ne hS hb.fd
 have hcV:(bN (Q.2,fO Q.2)).cells.all AV.dU=true:=rfl
 obtain⟨F2,g',T2,c2,kb,ap⟩:=sC G X (S:=S2) (j:=j) (k:=1) (o:=0+0+2) (q:=1) (bytes:=24) (es:=Q.1.aL.map bN) (new:=[bN (Q.2,fO Q.2)]) (g:=gv) (g2:=.exact) YC.fd cK c T (by simp [Q]) (by simp [e8]) (by simp) (by rw[cw,Ti];simp;omega) (by simpa using hcV) (fun a e=>by cases e)
 have jq:(S2.bz d F2).cC d=F2:=cj YC.fd F2
 have ev:Q.1.aL.map bN ++ [bN (Q.2,fO Q.2)]=(oe l x A).aL.map bN:=by
  show _=(Q.1.aL ++ [(Q.2,fO Q.2)]).map bN
  rw[List.map_append];rfl
 have el:(oe l x A).aL.length=Q.1.aL.length+1:=by
  show(Q.1.aL ++ [(Q.2,fO Q.2)]).length=_
  rw[dp];rfl
 rw[ev] at c2
 rw[cw] at T2
 have hB:BS d j (S2.bz d F2) (oe l x A) axY m2:=⟨YC.fd.put _ _,⟨gi,g',gr,gn,gq,by rw[jq];exact c2,by rw[jq,el];exact T2⟩,YC.l,YC.b⟩
 have u3:eT d j S2 (S2.bz d F2):=⟨⟨F2,rfl⟩,by rw[jq];exact kb⟩
 obtain⟨s',CP,_,us,bs⟩:=eT.child hb hS ((u1.trans u2).trans u3) hB
 refine⟨s',?_,⟨axY,m2,bs⟩,us⟩
 have e2':aJ T1 G X 82 [.ref (.g d j) 0,I x.op, .bool (mP ts)] S1= .ok (gp Q.2 (fO Q.2)) S2:=by rw[hn];exact e2
 rw[WT _ (aA _ _ _)]
 refine(dJ e1 u1.aa).trans ?_
 refine(ap0 G X ts gt _ S1 (by omega)).trans ?_
 rw[ix,fa1,mO]
 refine(dJ e2' u2.aa).trans ?_
 rw[aU,aC,aC]
 refine(hZ YC.fd c (o:=0+0+2) (c:=.sl 1 (Q.1.aL.map bN) gv) rfl).trans ?_
 refine(DB G X (Q.2,fO Q.2) (TM _)).trans ?_
 refine(ap _).trans ?_
 exact apZ G X CP
end
section
variable(l:List aS)(g:Gr)(hg:∀a,g≠.bJ a)(hl:l.length < 9223372036854775806)(ct:∀o,o∈l→sp o)(wX:fB l=0)
include hg hl ct wX
theorem axw{d j:Nat}{s:St}{A:cm}(x:aS)(i:Nat)(hi:l[i]? =some x)(hx:mF l x A)(hr:uU l x A)(h:BX d j s A):
  ∃s',aJ T1 G X 47 [.ref (.g d j) 0,bQ l g,In i] s= .ok (.cS []) s'∧BX d j s' (oe l x A)∧eT d j s s':=by
 obtain⟨src,n,hb⟩:=h
 have h0:BX d j s.ai A:=⟨src,n,hb.ai⟩
 obtain⟨S1,⟨aIX,n1,h1b⟩,u1,e1⟩:=h0.head G X (bQ l g) (In i)
 obtain⟨s1,LI,ho,GJ,hs1⟩:=eT.child hb (Child.ai s) u1 h1b
 obtain⟨S2,g8,gt,e2,hS2⟩:=Yy G X l g hg hl ct wX x i hi hx.vr (by have:=hx.al;omega) hx.args x.args [] s1 S1 .nil .nil rfl ⟨_,_,hs1⟩ LI ⟨.nil, .nil,fun t e=>by cases e⟩
 rw[ah1] at e2
 obtain⟨nJ,Yz,e3⟩:=YA G X l g x i hi hx hr g8 gt S2 (d:=d) (j:=j)
 obtain⟨s',e4,h4,u4⟩:=YB G X l g x i hi hx hr nJ Yz ⟨_,_,hs1⟩ hS2
 exact⟨s',by rw[aho,e1];exact e2.trans (e3.trans e4),h4,GJ.trans u4⟩
end
theorem ah2{l pre rest:List aS}{x:aS}{A:cm}(hl:l=pre ++ x :: rest)(hw:lC [] l=true)(hI:Inv l pre A):uU l x A:=by
 have L7:=vJ pre [] x rest (by rw[←hl];exact hw)
 rw[List.nil_append] at L7
 unfold wf at L7
 simp only[bD,jV] at L7
 obtain⟨⟨⟨q1,q2⟩,q3⟩,q4,q5⟩:=L7
 have Am:∀(k:Nat) (a:Int),x.args[k]? =some a→∃w,(jC x.op)[k]? =some w∧∃o,o∈pre∧jU l a=(dQ o.op).toNat∧acc w (dQ o.op)=true:=by
  intro k a hk
  have sr:k < (jC x.op).length:=by rw[q2];exact(bZ.1 hk).1
  have ct:=uR pre _ _ k _ a q4 (d8 sr) hk
  unfold Bb at ct
  simp only[bD,jV] at ct
  obtain⟨⟨b1,b2⟩,b3⟩:=ct
  obtain⟨o,c1,c2,c3⟩:=apB hl b1 b2
  rw[c1] at b3
  exact⟨_,d8 sr,o,c3,c2,b3⟩
 have kJ:∀o∈pre,(dQ o.op).toNat=1∨(dQ o.op).toNat=2∨(dQ o.op).toNat=3:=fun o ho=>by
  have h1:=Ty hl hw o ho
  rcases sB o.op with h | h | h | h
  ·exact absurd h h1
  ·rw[h];exact .inl rfl
  ·rw[h];exact .inr (.inl rfl)
  ·rw[h];exact .inr (.inr rfl)
 refine⟨?_,fun h5=>?_,fun v hv=>?_⟩
 ·have:∀t∈x.args.map (jU l),t=1∨t=2∨t=3:=fun t ht=>by
   simp only[List.mem_map] at ht
   obtain⟨a,ha,rfl⟩:=ht
   obtain⟨k,hk⟩:=List.getElem?_of_mem ha
   obtain⟨w,_,o,c2,c3,c4⟩:=Am k a hk
   rw[c3]
   exact kJ o c2
  intro t ht
  unfold stepT at ht
  split at ht
  ·rw[List.mem_append] at ht
   rcases ht with ht | ht
   ·exact this t ht
   ·simp at ht;exact .inl ht
  ·exact this t ht
 ·have hW:jC x.op=[1,1]:=by rw[h5];rfl
  rw[hW] at q2 Am
  have one:∀(k:Nat) (a:Int),x.args[k]? =some a→jU l a=1:=fun k a hk=>by
   obtain⟨w,hwk,o,c2,c3,c4⟩:=Am k a hk
   have hw1:w=1:=by
    match k,hwk with
    | 0,h=>injection h with h;exact h.symm
    | 1,h=>injection h with h;exact h.symm
    | n+2,h=>simp at h
   subst hw1
   rw[c3]
   rcases sB o.op with h | h | h | h
   ·rw[h] at c4;exact absurd c4 (by decide)
   ·rw[h];rfl
   ·rw[h] at c4;exact absurd c4 (by decide)
   ·rw[h] at c4;exact absurd c4 (by decide)
  match hxa:x.args,q2 with
  | [a,b],_=>simp [one 0 a (by rw[hxa];rfl),one 1 b (by rw[hxa];rfl)]
 ·obtain⟨k,hk⟩:=List.getElem?_of_mem hv
  have sr:=(bZ.1 hk).1
  rw[hI.nv] at sr
  have:=hI.len k pre[k] v (d8 sr) hk
  rw[this]
  rcases kJ pre[k] (nd sr) with h | h | h <;> rw[h] <;> decide
theorem YD{l:List aS}(hw:lC [] l=true)(vV:l.length≤40)(p q:List aS)(x:aS)(hl:l=p ++ x :: q):uU l x (nK l p nL):=by
 have:=An hw vV p [] (x :: q) nL (by rw[hl];rfl) (apG l)
 rw[List.nil_append] at this
 exact ah2 hl hw this
section
variable(l:List aS)(g:Gr)(hg:∀a,g≠.bJ a)(hl:l.length < 9223372036854775806)(ct:∀o,o∈l→sp o)(wX:fB l=0)
include hg hl ct wX
theorem YE{d j:Nat}(v2:AV):∀(rest pre:List aS) (S:St) (A:cm),d=S.aa→l=pre ++ rest→BX d j S A→(∀(p q:List aS) (x:aS),rest=p ++ x :: q→mF l x (nK l p A)∧uU l x (nK l p A))→
  ∃S',Dq (PP T1 G X) (bQ l g) v2 (.ref (.l j) 0) (In pre.length) S=Lm (PP T1 G X) v2 (.ref (.l j) 0) S'∧BX d j S' (nK l rest A)∧eT d j S S':=by
 intro rest
 induction rest with
 | nil=>
  intro pre S A hd hp h fD
  rw[List.append_nil] at hp
  subst hp
  refine⟨S,?_,h,?_⟩
  ·rw[Gb _ (aA _ _ _),bt,cw,bb,aT (by omega),bf]
  ·obtain⟨_,_,h⟩:=h
   exact .refl h.fd
 | cons x rest ih=>
  intro pre S A hd hp h fD
  have tG:pre.length < l.length:=by rw[hp];simp
  obtain⟨hx,hr⟩:=fD [] rest x rfl
  have a1:=fun(S:St) (k:K1)=>gD G X S k pre.length (by omega)
  obtain⟨S1,e1,h1,u1⟩:=axw G X l g hg hl ct wX x pre.length (by rw[hp];simp) hx hr h
  obtain⟨S2,e2,h2,u2⟩:=ih (pre ++ [x]) S1 (oe l x A) (by rw[u1.aa];exact hd) (by rw[hp];simp) h1 (fun p q y hq=>fD (x :: p) q y (by rw[hq];rfl))
  refine⟨S2,?_,h2,u1.trans u2⟩
  subst hd
  rw[Gb _ (aA _ _ _),bt,cw,bb,a9 (by omega),be,WL _ (aA _ _ _),fk l hg]
  refine(dJ e1 u1.aa).trans ?_
  rw[WK _ (aA _ _ _),a1,←e2,dp]
  rfl
end
theorem Hm{S:St}{F:List bg}{sz:Nat}{es:List AV}{g:Gr}(hg:cH F S.aa g es.length)(hr:AV.ba es=true):dE S (.sl sz es g)=some (.sl sz es (fO es)):=by
 rcases hg with⟨rfl,h⟩ | ⟨t,rfl,hn,h⟩
 ·have:es=[]:=List.eq_nil_of_length_eq_zero h
  subst this;rfl
 ·cases es with
  | nil=>simp at hn
  | cons e es=>
   show(if S.aa < S.aa then _ else if AV.ba (e :: es)=true then some (AV.sl sz (e :: es) .any) else none)=_
   rw[if_neg (Nat.lt_irrefl _),if_pos hr]
   rfl
theorem Jj:∀l:List gG,AV.ba (l.map gG.enc)=true
 | []=>rfl
 | i :: l=>by
  show((gG.enc i).bo && AV.ba (l.map gG.enc))=true
  rw[Jj l];rfl
def YF(A:cm):AV:=Yp A (fO A.ins) (fO A.aL) (fO A.roots)
theorem Jk{l:List aS}(h0:fB l=0):Inv l l (rJ l):=by
 obtain⟨hw,vV⟩:=vK h0
 have:=An hw vV l [] [] nL (by simp) (apG l)
 rw[List.nil_append] at this
 exact this
theorem axx(l:List aS)(g:Gr)(hg:∀a,g≠.bJ a)(hl:l.length < 9223372036854775806)(ct:∀o,o∈l→sp o)(S:St):
  aJ T1 G X 12 [bQ l g] S= .ok (.cS [if fB l=0 then YF (rJ l) else .agg gN,I (fB l)]) S:=by
 let S1:St:=S.ai.new (.cells gN)
 have hp:=fk l hg S1.aa
 have c:=agh G X l g hg S1 hl ct
 by_cases h0:fB l=0
 ·obtain⟨hw,vV⟩:=vK h0
  let d:=S1.aa
  let F:List bg:=[.cells gN] ++ [.cells (e8 nL .nil .nil .nil .nil .nil [] 0)]
  let S2:St:={S1 with own:=F}
  have hd2:S2.aa=d:=rfl
  have fd2:fE S2 d:=⟨by have:=S2.sv;omega,Nat.le_refl _⟩
  have jq:S2.cC d=F:=qI S2
  have nb:∀(p:Gr×Nat),p=(.nil,0)→cH F d p.1 p.2:=fun p e=>by subst e;exact .inl ⟨rfl,rfl⟩
  have axZ:∀(k:Nat) (p:Gr×Nat),([(.nil,0),(.nil,0),(.nil,0),(.nil,0),(.nil,0)]:List (Gr×Nat))[k]? =some p→p=(.nil,0):=fun k p hk=>by
   match k,hk with
   | 0,h=>injection h with h;exact h.symm
   | 1,h=>injection h with h;exact h.symm
   | 2,h=>injection h with h;exact h.symm
   | 3,h=>injection h with h;exact h.symm
   | 4,h=>injection h with h;exact h.symm
   | n+5,h=>simp at h
  have hB:BX d 1 S2 nL:=⟨[],0,fd2,⟨.nil, .nil, .nil, .nil, .nil,by rw[jq];rfl,by rw[jq];exact⟨fun k p hk=>nb p (axZ k p hk),fun a b p p' rI hp mb u e e2=>by rw[axZ a p hp] at e;cases e⟩⟩,Nat.le_refl _,by decide⟩
  obtain⟨S3,e1,h3,u3⟩:=YE G X l g hg hl ct h0 (d:=d) (j:=1) (.ref (.l 0) 0) l [] S2 nL hd2.symm rfl hB (fun p q x hpq=>⟨Ji hw vV p q x hpq,YD hw vV p q x hpq⟩)
  let A:=rJ l
  have hI:=Jk h0
  obtain⟨F3,rfl⟩:=u3.st
  have hS3:S2.bz d F3= {S1 with own:=F3}:=by unfold St.bz;rw[if_pos hd2.symm]
  have kb:=u3.kb
  rw[cj fd2,jq] at kb
  obtain⟨src,n,h3⟩:=h3
  obtain⟨gi,gv,gr,gn,gq,c3,T⟩:=h3.c
  rw[cj fd2] at c3 T
  have z3:F3[0]? =some (.cells gN):=kb.aK 0 gN rfl (by decide)
  have h1l:=(bZ.1 c3).1
  let tu:List AV:=(e8 A gi gv gr gn gq src n).set 0 (I A.dx)
  let F4:=F3.set 1 (.cells tu)
  have c4:F4[1]? =some (.cells tu):=by simp [F4,h1l]
  have z4:F4[0]? =some (.cells gN):=by
   rw[eM (by omega)];exact z3
  let F5:=F4.set 0 (.cells (tu.take 4))
  have z5:F5[0]? =some (.cells (tu.take 4)):=by
   have:0 < F4.length:=(bZ.1 z4).1
   simp [F5,this]
  have ld8:=fun(k:K1)=>lT G X (S:={S1 with own:=F3}) (k:=k) (i:=1) (o:=0+8) (c:=I A.dx) c3 rfl
  have st0:=fun(k:K1)=>Aj G X (S:={S1 with own:=F3}) (k:=k) (i:=1) (o:=0+0+0) (cs:=e8 A gi gv gr gn gq src n) (v:=I A.dx) c3 (by simp [e8]) rfl rfl rfl
  have GV:=fun(k:K1)=>Ao G X (S:={S1 with own:=F4}) (k:=k) (i:=1) (n:=4) c4 (by simp [tu,e8])
  have st4:=fun(k:K1)=>se (T:=T1) (G:=G) (X:=X) (S:={S1 with own:=F4}) (k:=k) (j:=0) (n:=4) (cs:=gN) (vs:=tu.take 4) z4 rfl rfl rfl
  have k7:=mM (S:={S1 with own:=F5}) (n:=4) z5 rfl
  have TS:Ab.freeze {S1 with own:=F5} (.agg (tu.take 4))=some (YF A):=by
   have f1:=Hm (S:={S1 with own:=F5}) (F:=F3) (sz:=3) (es:=A.ins.map gG.enc) (g:=gi) (by rw[cw];exact T.gr 0 _ rfl) (Jj _)
   have f2:=Hm (S:={S1 with own:=F5}) (F:=F3) (sz:=1) (es:=A.aL.map bN) (g:=gv) (by rw[cw];exact T.gr 1 _ rfl) (qL _ hI.vr)
   have f3:=Hm (S:={S1 with own:=F5}) (F:=F3) (sz:=1) (es:=A.roots.map I) (g:=gr) (by rw[cw];exact T.gr 2 _ rfl) (nI _)
   rw[pX] at f1 f2 f3
   show(iT (dE {S1 with own:=F5}) [I A.dx, .sl 3 (A.ins.map gG.enc) gi, .sl 1 (A.aL.map bN) gv, .sl 1 (A.roots.map I) gr]).map AV.agg=_
   simp only[iT,f1,f2,f3,jc,e9,show dE {S1 with own:=F5} (I A.dx)=some (I A.dx) from rfl]
   rfl
  have hch:Child S {S1 with own:=F5}:=⟨rfl,rfl⟩
  rw[I4,afu,jR]
  show(PP T1 G X).aB S1 _ 14 [AV.av S1.aa (bQ l g)]=_
  rw[hp]
  refine(aN c).trans ?_
  rw[eO,aT (by simp [h0]),bf,WN _ (aA _ _ _)]
  have b9:∀k:K1,(PP T1 G X).dh [.int .i64 0, .sl 3 [] .nil, .sl 1 [] .nil, .sl 1 [] .nil, .sl 1 [] .nil, .sl 1 [] .nil, .str [], .int .i64 0, .int .i64 0] [] S1 k=k (.agg (e8 nL .nil .nil .nil .nil .nil [] 0)) S1:=fun k=>rfl
  have bm:∀k:K1,(PP T1 G X).mZ (.agg (e8 nL .nil .nil .nil .nil .nil [] 0)) S1 k=k (.ref (.l 1) 0) S2:=fun k=>by
   rw[IS _ rfl]
   rfl
  rw[b9,bm]
  rw[hS3] at e1
  refine(show _=_ from e1).trans ?_
  rw[WM _ (aA _ _ _),aU,aC]
  refine(ld8 _).trans ?_
  rw[aU,aC,aC]
  refine(st0 _).trans ?_
  rw[aU,aC]
  refine(GV _).trans ?_
  refine(st4 _).trans ?_
  show(PP T1 G X).aI false [gB {S1 with own:=F5} (.ref (.l 0) 0) (some 4),some (.int .i64 0)] {S1 with own:=F5}=_
  rw[k7,if_pos h0,h0]
  exact iB hch _ (I 0) _ (I 0) TS rfl
 ·have stz:=fun(k:K1)=>qz (T:=T1) (G:=G) (X:=X) (s:=S.ai) (k:=k) 4 gN gN rfl rfl rfl
  have apH:S1.own[0]? =some (.cells gN):=rfl
  have k7:=mM (S:=S1) (n:=4) apH rfl
  rw[I4,afu,jR]
  show(PP T1 G X).aB S1 _ 14 [AV.av S1.aa (bQ l g)]=_
  rw[hp]
  refine(aN c).trans ?_
  rw[eO,a9 h0,be]
  have b4:∀k:K1,(PP T1 G X).dh [.int .i64 0, .sl 3 [] .nil, .sl 1 [] .nil, .sl 1 [] .nil] [] S1 k=k (.agg gN) S1:=fun k=>rfl
  rw[b4]
  refine(stz _).trans ?_
  show(PP T1 G X).aI false [gB S1 (.ref (.l 0) 0) (some 4),some (I (fB l))] S1=_
  rw[k7,if_neg h0]
  exact iB (s:=S) (S:=S1) ⟨rfl,rfl⟩ (.agg gN) (I (fB l)) (.agg gN) (I (fB l)) rfl rfl
end Go.jY
end
