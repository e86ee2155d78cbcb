/- A part of the proof: no condition. -/
import Derived.Test.YtnafklimohmfkaaGreatDoorA1
import Derived.Orders
import Derived.Scope
import Derived.KernelRfl
import Derived.IntWalk
import Derived.WideKeyArgs
import Derived.ChangeArms
import Derived.ChangeSame
import Derived.ChangeOld
import Derived.OpenShut
set_option linter.unusedSectionVars false
set_option linter.unusedVariables false
section
namespace Go.Ab
theorem kJ:∀(d n:Nat) (v:ai) (k:ey→ao) (aC:ey) (r:ao),ey.jj d n v k aC=r→r≠.fail→∃eW,k eW=r∧∀m,eW.get m=if m=n then v else aC.get m
 |0,n,v,k,aC,r,h,bq=>absurd h.symm bq
 |d+1,n,v,k,aC,r,h,bq=>by
  have J:∀m,Nat.beq (m%2) 1=true→∃q,m=2*q+1:=fun m h=>⟨m/2,by have:=c2 h;omega⟩
  have even:∀m,Nat.beq (m%2) 1=false→Nat.beq m 0=false→∃q,m=2*q+2:=fun m h K=>⟨(m-2)/2,by
   have aD:m%2≠1:=fun e=>by rw[e] at h;simp at h
   have aG:m≠0:=fun e=>by rw[e] at K;simp at K
   omega⟩
  have u:∀(l:ey) (x:ai) (r:ey) (q:Nat),(ey.n l x r).get (2*q+1)=l.get q:=fun l x r q=>by
   have aD:Nat.beq (2*q+1) 0=false:=by rfl
   have aG:Nat.beq ((2*q+1)%2) 1=true:=by rw[show(2*q+1)%2=1 by omega];rfl
   simp only[ey.get,aD,aG,cond_false,cb];congr 1;omega
  have y:∀(l:ey) (x:ai) (r:ey) (q:Nat),(ey.n l x r).get (2*q+2)=r.get q:=fun l x r q=>by
   have aD:Nat.beq (2*q+2) 0=false:=by rfl
   have aG:Nat.beq ((2*q+2)%2) 1=false:=by rw[show(2*q+2)%2=0 by omega];rfl
   simp only[ey.get,aD,aG,cond_false];congr 1;omega
  have I:∀(l:ey) (x:ai) (r:ey),(ey.n l x r).get 0=x:=fun l x r=>rfl
  have H:∀m,m=0∨(∃q,m=2*q+1)∨∃q,m=2*q+2:=fun m=>by
   by_cases cL:m=0
   ·exact .inl cL
   ·by_cases aD:m%2=1
    ·exact .inr (.inl ⟨m/2,by omega⟩)
    ·exact .inr (.inr ⟨(m-2)/2,by omega⟩)
  cases aC with
  |e=>
   simp only[ey.jj] at h;cases cL:Nat.beq n 0 with
   |true=>
    rw[cL,cb] at h
    have:=c2 cL;subst this;refine⟨_,h,fun m=>?_⟩;rcases H m with rfl |⟨q,rfl⟩|⟨q,rfl⟩
    ·simp [I]
    ·rw[u];simp [ey.get]
    ·rw[y];simp [ey.get]
   |false=>
    rw[cL,cond_false] at h;cases aD:Nat.beq (n%2) 1 with
    |true=>
     rw[aD,cb] at h;obtain⟨p,rfl⟩:=J n aD;obtain⟨l',e,br⟩:=kJ d _ v _ _ r h bq;refine⟨_,e,fun m=>?_⟩;rcases H m with rfl |⟨q,rfl⟩|⟨q,rfl⟩
     ·simp [ey.get]
     ·rw[u,br q];have bU:(2*p+1-1)/2=p:=by omega
      have B:2*q+1=2*p+1↔q=p:=by omega
      simp only[bU,B];simp [ey.get]
     ·rw[y,if_neg (by omega)];simp [ey.get]
    |false=>
     rw[aD,cond_false] at h;obtain⟨p,rfl⟩:=even n aD cL;obtain⟨l',e,br⟩:=kJ d _ v _ _ r h bq;refine⟨_,e,fun m=>?_⟩;rcases H m with rfl |⟨q,rfl⟩|⟨q,rfl⟩
     ·simp [ey.get]
     ·rw[u,if_neg (by omega)];simp [ey.get]
     ·rw[y,br q];have bU:(2*p+2-1)/2=p:=by omega
      have B:2*q+2=2*p+2↔q=p:=by omega
      simp only[bU,B];simp [ey.get]
  |n l x L=>
   simp only[ey.jj] at h;cases cL:Nat.beq n 0 with
   |true=>
    rw[cL,cb] at h
    have:=c2 cL;subst this;refine⟨_,h,fun m=>?_⟩;rcases H m with rfl |⟨q,rfl⟩|⟨q,rfl⟩
    ·simp [I]
    ·rw[u,u];simp
    ·rw[y,y];simp
   |false=>
    rw[cL,cond_false] at h;cases aD:Nat.beq (n%2) 1 with
    |true=>
     rw[aD,cb] at h;obtain⟨p,rfl⟩:=J n aD;obtain⟨l',e,br⟩:=kJ d _ v _ _ r h bq;refine⟨_,e,fun m=>?_⟩;rcases H m with rfl |⟨q,rfl⟩|⟨q,rfl⟩
     ·simp [I]
     ·rw[u,u,br q];have bU:(2*p+1-1)/2=p:=by omega
      have B:2*q+1=2*p+1↔q=p:=by omega
      simp only[bU,B]
     ·rw[y,y,if_neg (by omega)]
    |false=>
     rw[aD,cond_false] at h;obtain⟨p,rfl⟩:=even n aD cL;obtain⟨l',e,br⟩:=kJ d _ v _ _ r h bq;refine⟨_,e,fun m=>?_⟩;rcases H m with rfl |⟨q,rfl⟩|⟨q,rfl⟩
     ·simp [I]
     ·rw[u,u,if_neg (by omega)]
     ·rw[y,y,br q];have bU:(2*p+2-1)/2=p:=by omega
      have B:2*q+2=2*p+2↔q=p:=by omega
      simp only[bU,B]
def u5(iA:Nat):Option Nat→Option Nat→Bool
 |none,none=>true
 |some a,some b=>Nat.beq a b&&Nat.blt a iA
 |_,_=>false
def pQ(ops:Array Oper):Option (Nat×Bool)→Option (Nat×Bool)→Bool
 |none,none=>true
 |some (t,w),some (j,w')=>
  match (ops[j]?).bind (·.dst) with
  |some d=>Nat.beq d t&&w==w'
  |none=>false
 |_,_=>false
def sq(T:mQ)(iA:Nat)(ops:Array Oper)(e:cN)(o:Oper):Bool:=u5 iA e.dst o.dst&&pQ ops e.guard o.guard&&eK T e.op o.op
structure j1 (κ:b9) (s:aq) (w:World) (g:Nat→ai) (a:Act) (iA:Nat) (G:Nat→ai):Prop where
 Dw:dw κ s w
 aC:Cg κ s g a
 defers:a.defers=[]
 size:a.tmps.size=iA
 aS:ly κ G
theorem vQ{aC:ey}{d:Option Nat}{v:ai}{k:ey→ao}{r:ao}(aQ:kW aC d v k=r)(bq:r≠.fail):∃eW,k eW=r∧eW.get=hq aC.get d v:=by
 cases d with
 |none=>exact⟨aC,aQ,rfl⟩
 |some n=>obtain⟨eW,aD,aG⟩:=kJ 12 n v k aC r aQ bq;exact⟨eW,aD,funext aG⟩
theorem yK{g:Option (Nat×Bool)}{aC:ey}{k:Bool→ao}{r:ao}(aQ:m2 g aC k=r)(bq:r≠.fail):∃b,hr g aC.get=some b∧k b=r:=by
 cases g with
 |none=>exact⟨true,rfl,aQ⟩
 |some p=>obtain⟨t,w⟩:=p;simp only[m2] at aQ;simp only[hr];cases bG:aC.get t<;> rw[bG] at aQ<;> simp only at aQ<;> first|exact absurd aQ.symm bq|exact⟨_,rfl,aQ⟩
theorem abq{E:Env}(bX:∀f args s v s',E.call f args s≠.panic v s'){g:Nat→ai}{s:aq}{k kp e:ai→aq→ao}(op:gx):bB E g s k kp op=bB E g s k e op:=by
 have a9:∀f args,cV E s k kp f args=cV E s k e f args:=fun f args=>by
  unfold cV;cases h:E.call f args s with
  |panic v s'=>exact absurd h (bX _ _ _ _ _)
  |_=>rfl
 have lx:∀(k:ai→aq→ao) f args,cV E s k kp f args=cV E s k e f args:=fun k f args=>by
  unfold cV;cases h:E.call f args s with
  |panic v s'=>exact absurd h (bX _ _ _ _ _)
  |_=>rfl
 cases op<;> simp only[bB]
 case call=>simp only[a9]
 case cV=>unfold lK;simp only[a9]
 case jk=>simp only[hC];congr;funext args;exact lx _ _ _
 case jI=>unfold kY hC;congr;funext f ep;congr;funext args;exact lx _ _ _
theorem BY{E:Env}(bo:E.F=.not)(bX:∀f args s v s',E.call f args s≠.panic v s'){g:Nat→ai}{s s':aq}{v:ai}(op:gx):bB E g s .ok .panic op≠.panic v s':=fun h=>by have aD:=jM bo g s .ok .panic op;have aG:=jM bo g s .ok (fun _ _=>.fail) op;rw[h] at aG;rw[←abq bX (kp:=.panic) op,h] at aG;cases aG
theorem mA{E:Env}(bo:E.F=.not)(bX:∀f args s v s',E.call f args s≠.panic v s'){fin:ey→aq→ao}{I:ai→ey→aq→ao}{r:ao}(bq:r≠.fail):∀(H:List cN) {aC:ey} {s:aq},fe E H aC s fin I=r→∃eW s',mm E H aC.get s=some (eW.get,s')∧fin eW s'=r
 |[],aC,s,h=>⟨aC,s,rfl,h⟩
 |o::os,aC,s,h=>by
  simp only[fe] at h;obtain⟨b,aD,aG⟩:=yK h bq;cases b with
  |false=>simp only[cond_false] at aG;obtain⟨eW,bz,cz⟩:=vQ aG bq;obtain⟨u,s',y,B⟩:=mA bo bX bq os bz;exact⟨u,s',by simp only[mm,lB,aD,hk,←cz,y],B⟩
  |true=>
   simp only[cb] at aG;rw[jM bo] at aG;cases e:bB E aC.get s .ok .panic o.op with
   |fail=>rw[e] at aG;exact absurd aG.symm bq
   |panic v s'=>exact absurd e (BY bo bX o.op)
   |ok v s'=>rw[e] at aG;simp only[ao.bind] at aG;obtain⟨eW,bz,cz⟩:=vQ aG bq;obtain⟨u,J,y,B⟩:=mA bo bX bq os bz;exact⟨u,J,by simp only[mm,lB,aD,e,hk,←cz,y],B⟩
section
variable{P:Program}{κ:b9}{s:aq}{w:World}{g:Nat→ai}{a:Act}{iA:Nat}{G:Nat→ai}
theorem j1.put(h:j1 κ s w g a iA G){κ':b9}{s':aq}{w':World}(he:gi κ s w κ' s' w')(bl:dw κ' s' w'){v:ai}{x:Value}(aT:c8 κ' (s.aa+1) (v.ak s.aa) x){d ga:Option Nat}(bI:u5 iA d ga=true):j1 κ' s' w' (hq g d v) (a.put ga x) iA G:=by
 have b7:=h.aC.ext he;cases d with
 |none=>
  cases ga with
  |none=>exact⟨bl,b7,h.defers,h.size,h.aS.mono he.k⟩
  |some b=>simp [u5] at bI
 |some n=>
  cases ga with
  |none=>simp [u5] at bI
  |some b=>
   simp only[u5,bL] at bI;have e:=c2 bI.1;subst e;have bX:n<a.tmps.size:=by rw[h.size];have:=bI.2;rw[Nat.blt_eq] at this;exact this
   refine⟨bl,fun t=>?_,h.defers,?_,h.aS.mono he.k⟩
   ·simp only[hq];by_cases cB:t=n
    ·subst cB;rw[if_pos rfl,he.aa];simp only[Act.put,Array.getD_eq_getD_getElem?,Array.getElem?_setIfInBounds_self_of_lt bX,Option.getD_some];exact aT
    ·rw[if_neg cB]
     have:=b7 t;simp only[Act.put,Array.getD_eq_getD_getElem?,Array.getElem?_setIfInBounds_ne (Ne.symm cB)] at this ⊢;exact this
   ·simp [Act.put,h.size]
theorem j1.skip(h:j1 κ s w g a iA G){d ga:Option Nat}(bI:u5 iA d ga=true):j1 κ s w (hq g d (.cT [])) (a.put ga undef) iA G:=
 h.put (.refl _ _ _) h.Dw (v:=.cT []) (x:=undef) (.cT [] [] rfl (fun j c x a9=>by simp at a9)) bI
theorem j1.wanted(h:j1 κ s w g a iA G){ops:Array Oper}{I:Option (Nat×Bool)}{o:Oper}(bD:pQ ops I o.guard=true){b:Bool}(u:hr I g=some b):Region.wanted o (yielded ops a.tmps)=b:=by
 unfold Region.wanted;cases I with
 |none=>
  cases B:o.guard with
  |none=>simpa [hr] using u
  |some p=>rw[B] at bD;simp [pQ] at bD
 |some p=>
  obtain⟨t,want⟩:=p;cases B:o.guard with
  |none=>rw[B] at bD;simp [pQ] at bD
  |some q=>
   obtain⟨j,J⟩:=q;rw[B] at bD;simp only[pQ] at bD;split at bD
   ·rename_i d bI;simp only[bL,beq_iff_eq] at bD;have e:=c2 bD.1;subst e;obtain rfl:=bD.2;have aT:=h.aC d;simp only[hr] at u;simp only[yielded,bI,hk];cases bG:g d<;> rw[bG] at u aT<;> simp only[bV,reduceCtorEq] at u
    ·rename_i H;have r:=c8.hg (b:=H) aT
     have:a.tmps[d]? =some (.bool H):=by
      rw[Array.getD_eq_getD_getElem?] at r;cases dQ:a.tmps[d]? with
      |none=>rw[dQ] at r;cases r
      |some y=>rw[dQ] at r;simp only[Option.getD_some] at r;rw[r]
     rw[this];simpa using u
    ·rename_i vs;obtain⟨xs,r,_⟩:=c8.yi (cs:=vs) aT
     have:∀b,a.tmps[d]?≠some (.bool b):=fun b dQ=>by rw[Array.getD_eq_getD_getElem?,dQ] at r;cases r
     split
     ·rename_i H dQ;exact absurd dQ (this H)
     ·simpa using u
   ·cases bD
variable{T:mQ}(fF:T.uO P){E:Env}(bo:E.F=.not)(ku:o1 P E)
include fF bo ku
theorem vR(h:j1 κ s w g a iA E.aS){ops:Array Oper}{r:cN}{i:Nat}{o:Oper}(bk:ops[i]? =some o)(b6:sq T iA ops r o=true){v:ai}{s':aq}(aQ:lB E r g s=some (v,s'))
  {K:Act→World→Prop}{Q:Exit→Act→World→Prop}(u:∀κ' w' iE,gi κ s w κ' s' w'→j1 κ' s' w' (hq g r.dst v) iE iA E.aS→K iE w'):wpOp P ops Q i K a w:=by
 unfold wpOp;simp only[bk];simp only[sq,bL] at b6;unfold lB at aQ;cases hw:hr r.guard g with
 |none=>rw[hw] at aQ;cases aQ
 |some b=>
  rw[hw] at aQ;rw[h.wanted b6.1.2 hw];cases b with
  |false=>simp only[bV,e8] at aQ;obtain⟨rfl,rfl⟩:=aQ;simp only[co,↓reduceIte];exact u κ w _ (.refl _ _ _) (h.skip b6.1.1)
  |true=>
   simp only at aQ;simp only[↓reduceIte];refine .inl ?_;cases y:bB E g s .ok .panic r.op with
   |fail=>rw[y] at aQ;cases aQ
   |panic v s'=>rw[y] at aQ;cases aQ
   |ok fX I=>
    rw[y] at aQ;simp only[bV,e8] at aQ;obtain⟨rfl,rfl⟩:=aQ;obtain⟨v1,s1,cg,bI⟩:=F1 (ty:=o.type) fF h.Dw bo ku h.aC h.aS (by simp) b6.2 y;simp only[ao.ok.injEq] at cg;obtain⟨rfl,rfl⟩:=cg;have H:∀(R:Result Next),(∀dst pos after guard,(execOp a.eval ⟨dst,o.op,o.type,pos,after,guard⟩).run P w=R)→(execOp a.eval o).run P w=R:=fun R h=>h o.dst o.pos o.after o.guard
    unfold Oper.wp;rcases bI with⟨x,κ',w',aT|⟨aT,rfl⟩,he,B,bG⟩|⟨f,xs,aT,a9⟩
    ·rw[H _ aT,Oper.upon_value];exact u κ' w' _ he (h.put he B bG b6.1.1)
    ·rw[H _ aT,Oper.upon_skip];exact u κ' w' _ he (h.put he B bG b6.1.1)
    ·rw[H _ aT,Oper.upon_enter];refine a9.mono fun e w' ⟨x,hex,κ',he,B,bG⟩=>?_
     subst hex;exact u κ' w' _ he (h.put he B bG b6.1.1)
theorem yL{ops:Array Oper}{Q:Exit→Act→World→Prop}{g':Nat→ai}{s':aq}:∀(l:List Nat) (r:List cN) {κ:b9} {s:aq} {w:World} {g:Nat→ai} {a:Act},l.length=r.length→
  (∀(j i:Nat) (e:cN),l[j]? =some i→r[j]? =some e→∃o,ops[i]? =some o∧sq T iA ops e o=true)→j1 κ s w g a iA E.aS→mm E r g s=some (g',s')→
  (∀κ' w' iE,gi κ s w κ' s' w'→j1 κ' s' w' g' iE iA E.aS→Q .normal iE w')→wpOps P ops Q l a w
 |[],[],κ,s,w,g,a,_,_,h,aQ,u=>by simp only[mm,bV,e8] at aQ;obtain⟨rfl,rfl⟩:=aQ;exact u κ w a (.refl _ _ _) h
 |[],_::_,_,_,_,_,_,br,_,_,_,_=>by simp at br
 |_::_,[],_,_,_,_,_,br,_,_,_,_=>by simp at br
 |i::l,e::r,κ,s,w,g,a,br,b6,h,aQ,u=>by
  obtain⟨o,bk,y⟩:=b6 0 i e rfl rfl;rw[wpOps_cons];simp only[mm] at aQ;cases he:lB E e g s with
  |none=>rw[he] at aQ;cases aQ
  |some p=>
   rw[he] at aQ;refine vR fF bo ku h bk y he fun κ' w' iE B H=>?_
   exact yL l r (by simpa using br) (fun j i e aD aG=>b6 (j+1) i e (by simpa using aD) (by simpa using aG)) H aQ
    fun I J K L M=>u I J K (B.trans L) M
end
def o6(o:Oper):List Nat:=(o.after.toList.filter (Region.binds .any)).map (·.on)
def nL(acc:List Nat):List Nat→Nat
 |[]=>0
 |e::es=>nL acc es ||| ((1 <<< e) ||| acc.getD e 0)
def rA:List Nat→List Oper→List Nat
 |acc,[]=>acc
 |acc,o::os=>rA (acc++[nL acc (o6 o)]) os
def Dx(bits:Nat)(b:cN):Nat→List cN→Bool
 |_,[]=>true
 |m,a::as=>(bits.testBit m||indep a b)&&Dx bits b (m+1) as
def sr:List cN→List Nat→List cN→Bool
 |_,_,[]=>true
 |pre,m::FU,b::eB=>Dx m b 0 pre&&sr (pre++[b]) FU eB
 |_,[],_::_=>false
def Dy:Nat→List Oper→Bool
 |_,[]=>true
 |i,o::os=>(o6 o).all (fun e=>Nat.blt e i)&&Dy (i+1) os
def l1(T:mQ)(iA:Nat)(ops:Array Oper):List cN→List Oper→Bool
 |[],[]=>true
 |a::as,o::os=>sq T iA ops a o&&l1 T iA ops as os
 |_,_=>false
def ss(T:mQ)(iA:Nat)(ops:Array Oper)(e:List cN):Bool:=l1 T iA ops e ops.toList&&Dy 0 ops.toList&&sr [] (rA [] ops.toList) e
theorem k4{T:mQ}{iA:Nat}{ops:Array Oper}:∀{as:List cN} {os:List Oper},l1 T iA ops as os=true→as.length=os.length∧∀(i:Nat) (a:cN) (o:Oper),as[i]? =some a→os[i]? =some o→sq T iA ops a o=true
 |[],[],_=>⟨rfl,fun i a o h=>by simp at h⟩
 |[],_::_,h=>by simp [l1] at h
 |_::_,[],h=>by simp [l1] at h
 |a::as,o::os,h=>by
  simp only[l1,bL] at h;obtain⟨aD,aG⟩:=k4 h.2;refine⟨by simp [aD],fun i iE o' e r=>?_⟩;cases i with
  |zero=>simp at e r;subst e;subst r;exact h.1
  |succ i=>exact aG i iE o' (by simpa using e) (by simpa using r)
theorem st:∀{i:Nat} {os:List Oper},Dy i os=true→∀(j:Nat) (o:Oper),os[j]? =some o→∀e,e∈o6 o→e<i+j
 |i,[],_,j,o,h=>by simp at h
 |i,o'::os,h,j,o,r=>by
  simp only[Dy,bL,List.all_eq_true] at h;cases j with
  |zero=>
   simp at r;subst r;intro e he
   have:=h.1 e he;rw[Nat.blt_eq] at this;omega
  |succ j=>
   intro e he
   have:=st h.2 j o (by simpa using r) e he;omega
theorem su{bits:Nat}{b:cN}:∀{m:Nat} {as:List cN},Dx bits b m as=true→∀(j:Nat) (a:cN),as[j]? =some a→bits.testBit (m+j)=true∨indep a b=true
 |m,[],_,j,a,h=>by simp at h
 |m,iE::as,h,j,a,e=>by
  simp only[Dx,bL,Bool.or_eq_true] at h;cases j with
  |zero=>simp at e;subst e;exact h.1
  |succ j=>have:=su h.2 j a (by simpa using e);rw[show m+(j+1)=m+1+j by omega];exact this
theorem rl:∀{pre:List cN} {FU:List Nat} {rest:List cN},sr pre FU rest=true→∀(i m:Nat) (a b:cN),pre.length≤i→m<i→(pre++rest)[m]? =some a→(pre++rest)[i]? =some b→(FU.getD (i-pre.length) 0).testBit m=true∨indep a b=true
 |pre,FU,[],_,i,m,a,b,bk,hm,u,r=>by
  rw[gf] at r
  have:=(bZ.1 r).1;omega
 |pre,[],y::eB,h,i,m,a,b,bk,hm,u,r=>by simp [sr] at h
 |pre,H::FU,y::eB,h,i,m,a,b,bk,hm,u,r=>by
  simp only[sr,bL] at h;by_cases he:i=pre.length
  ·subst he;rw[Nat.sub_self];have B:b=y:=by simpa using r.symm
   subst B
   have:=su h.1 m a (by rw[ev hm] at u;exact u);simpa using this
  ·have:=rl (pre:=pre++[y]) h.2 i m a b (by simp;omega) hm (by simpa using u) (by simpa using r);have e:i-pre.length=(i-(pre++[y]).length)+1:=by simp;omega
   rw[e];simpa using this
theorem pv(acc:List Nat)(m:Nat):∀(es:List Nat),(nL acc es).testBit m=true→∃e,e∈es∧(m=e∨(acc.getD e 0).testBit m=true)
 |[],h=>by simp [nL] at h
 |e::es,h=>by
  simp only[nL,Nat.testBit_or,Bool.or_eq_true] at h;rcases h with h|h|h
  ·obtain⟨hN,aD,aG⟩:=pv acc m es h;exact⟨hN,List.mem_cons_of_mem _ aD,aG⟩
  ·refine⟨e,List.mem_cons_self,.inl ?_⟩;rw[Nat.one_shiftLeft,Nat.testBit_two_pow] at h;simpa using (of_decide_eq_true h).symm
  ·exact⟨e,List.mem_cons_self,.inr h⟩
def abr(M:List Nat)(os:List Oper):Prop:=M.length=os.length∧∀i m,(M.getD i 0).testBit m=true→∃o e,os[i]? =some o∧e∈o6 o∧(m=e∨(M.getD e 0).testBit m=true)
theorem sv:∀(os:List Oper) (acc:List Nat) (pre:List Oper),abr acc pre→abr (rA acc os) (pre++os)
 |[],acc,pre,h=>by simpa [rA] using h
 |o::os,acc,pre,h=>by
  have:=sv os (acc++[nL acc (o6 o)]) (pre++[o]) ?_
  ·simpa [rA] using this
  refine⟨by simp [h.1],fun i m hm=>?_⟩;have up:∀e,(acc.getD e 0).testBit m=true→((acc++[nL acc (o6 o)]).getD e 0).testBit m=true:=fun e he=>by
   have r:e<acc.length:=by
    rcases Nat.lt_or_ge e acc.length with q|q
    ·exact q
    ·rw[List.getD_eq_getElem?_getD,List.getElem?_eq_none q] at he;simp at he
   rw[List.getD_eq_getElem?_getD,ev r,←List.getD_eq_getElem?_getD];exact he
  rcases Nat.lt_trichotomy i acc.length with q|q|q
  ·rw[List.getD_eq_getElem?_getD,ev q,←List.getD_eq_getElem?_getD] at hm;obtain⟨o',e,aD,aG,bz⟩:=h.2 i m hm;refine⟨o',e,?_,aG,bz.imp id (up e)⟩;rw[ev (by rw[←h.1];exact q)];exact aD
  ·subst q;have u:(nL acc (o6 o)).testBit m=true:=by simpa using hm
   obtain⟨e,aD,aG⟩:=pv acc m _ u;refine⟨o,e,?_,aD,aG.imp id (up e)⟩;rw[h.1];simp
  ·rw[List.getD_eq_getElem?_getD,List.getElem?_eq_none (by simp;omega)] at hm;simp at hm
section
variable{P:Program}{iA:Nat}{T:mQ}(fF:T.uO P){E:Env}(bo:E.F=.not)(ku:o1 P E)
include fF bo ku
theorem Nc{ops:Array Oper}{r:List cN}(b6:ss T iA ops r=true){Q:Exit→Act→World→Prop}{g':Nat→ai}{s':aq}:∀(fuel:Nat) (L:List Nat) (listed:Array Bool) {κ:b9} {s:aq} {w:World} {g:Nat→ai} {a:Act},
  L.length=fuel→L.Pairwise (· < ·)→listed.size=ops.size→(∀i,i∈L↔i<ops.size∧listed.getD i true=false)→
  (∀i m,listed.getD i false=true→((rA [] ops.toList).getD i 0).testBit m=true→listed.getD m false=true)→j1 κ s w g a iA E.aS→mm E (L.map (r.getD · default)) g s=some (g',s')→
  (∀κ' w' iE,gi κ s w κ' s' w'→j1 κ' s' w' g' iE iA E.aS→Q .normal iE w')→wpAny P .any ops Q fuel listed a w:=by
 simp only[ss,bL] at b6;obtain⟨⟨aa,ab⟩,ac⟩:=b6;obtain⟨hlen,ad⟩:=k4 aa;have ae:=st ab;have af:=rl ac;have ag:=sv ops.toList [] [] ⟨rfl,fun i m h=>by simp at h⟩;have ah:∀(o:Oper) (e:Edge),e∈o.after→Region.binds .any e=true→e.on∈o6 o:=fun o e he K=>List.mem_map.2 ⟨e,List.mem_filter.2 ⟨by simpa using he,K⟩,rfl⟩
 have aj:∀(o:Oper) (n:Nat),n∈o6 o→∃e,e∈o.after∧Region.binds .any e=true∧e.on=n:=fun o n bX=>by obtain⟨e,he,ak⟩:=List.mem_map.1 bX;obtain⟨aD,aG⟩:=List.mem_filter.1 he;exact⟨e,by simpa using aD,aG,ak⟩
 have U:∀(listed:Array Bool) (i:Nat),i<listed.size→listed.getD i true=listed.getD i false:=fun listed i h=>by simp [Array.getD_eq_getD_getElem?,h]
 intro fuel
 induction fuel with
 |zero=>
  intro L listed κ s w g a I aU dY hV M h aQ N
  have:L=[]:=kU I;subst this;refine⟨?_,?_⟩
  ·cases O:Region.ready .any ops listed with
   |nil=>rfl
   |cons i l=>
    have bk:i∈Region.ready .any ops listed:=by rw[O];exact List.mem_cons_self
    obtain⟨aD,o,aG,_⟩:=mem_ready.1 bk
    have:=(hV i).2 ⟨(Array.getElem?_eq_some_iff.1 aG).1,aD⟩;cases this
  ·simp only[List.map_nil,mm,bV,e8] at aQ;obtain⟨rfl,rfl⟩:=aQ;exact N κ w a (.refl _ _ _) h
 |succ fuel al=>
  intro L listed κ s w g a I aU dY hV M h aQ N;refine⟨fun O=>?_,fun i bk=>?_⟩
  ·cases L with
   |nil=>simp at I
   |cons i0 l=>
    obtain⟨aD,aG⟩:=(hV i0).1 List.mem_cons_self
    have:i0∈Region.ready .any ops listed:=by
     refine mem_ready.2 ⟨aG,ops[i0],Array.getElem?_eq_getElem aD,fun e he K=>?_⟩;have am:=ae i0 ops[i0] (by simp [aD]) e.on (ah _ _ he K);rw[cf] at am;rw[←U listed e.on (by omega)];cases dQ:listed.getD e.on true with
     |true=>rfl
     |false=>
      have:=(hV e.on).2 ⟨by omega,dQ⟩;rcases List.mem_cons.1 this with q|q
      ·omega
      ·have:=List.rel_of_pairwise_cons aU q;omega
    rw[O] at this;cases this
  ·obtain⟨aD,o,aG,bz⟩:=mem_ready.1 bk;have J:i<ops.size:=(Array.getElem?_eq_some_iff.1 aG).1;have an:=(hV i).2 ⟨J,aD⟩;have V:∀m,((rA [] ops.toList).getD i 0).testBit m=true→listed.getD m false=true:=fun m hm=>by
    obtain⟨o',e,ao,ap,B⟩:=ag.2 i m hm
    have:o'=o:=by
     have Y:ops[i]? =some o':=by simpa using ao
     rw[aG] at Y;exact(Option.some.inj Y).symm
    subst this;obtain⟨hN,hG,oY,ar⟩:=aj _ _ ap;have br:=bz hN hG oY;rw[ar] at br;rcases B with B|B
    ·rw[B];exact br
    ·exact M e m br B
   obtain⟨pre,post,rfl⟩:=List.append_of_mem an;have H:=List.pairwise_append.1 aU;have Z:∀m,m∈pre→m<i:=fun m hm=>H.2.2 m hm i List.mem_cons_self
   have as:∀m,m∈post→i<m:=fun m hm=>List.rel_of_pairwise_cons H.2.1 hm
   have R:∀m,m<ops.size→r[m]? =some (r.getD m default):=fun m hm=>by
    have:m<r.length:=by rw[hlen];simpa using hm
    simp [List.getD_eq_getElem?_getD,this]
   have au:∀x,x∈pre.map (r.getD · default)→indep x (r.getD i default)=true:=fun x aT=>by
    obtain⟨m,hm,rfl⟩:=List.mem_map.1 aT;have av:=Z m hm;obtain⟨aw,kw⟩:=(hV m).1 (List.mem_append_left _ hm);rcases af i m _ _ (Nat.zero_le _) av (R m aw) (R i J) with q|q
    ·have:=V m (by simpa using q);rw[U listed m (by omega),this] at kw;cases kw
    ·exact q
   rw[List.map_append,fU] at aQ;have hF:=yJ bo _ au aQ;rw[←List.map_append] at hF;simp only[mm] at hF;cases he:lB E (r.getD i default) g s with
   |none=>rw[he] at hF;cases hF
   |some p=>
    obtain⟨v,s1⟩:=p;rw[he] at hF;simp only[hk] at hF;refine vR fF bo ku h aG (ad i _ o (R i J) (by simpa using aG)) he fun κ' w' iE ax ay=>?_
    refine al (pre++post) _ (by simp at I ⊢;omega) (List.pairwise_append.2 ⟨H.1,H.2.1.of_cons,fun x aT y dX=>H.2.2 x aT y (List.mem_cons_of_mem _ dX)⟩) (by simp [dY]) (fun j=>?_) (fun j m cp hm=>?_) ay hF
     (fun az aA aB aC aE=>N az aA aB (ax.trans aC) aE)
    ·by_cases u:j=i
     ·subst u;constructor
      ·intro hm;rcases List.mem_append.1 hm with q|q
       ·exact absurd (Z j q) (Nat.lt_irrefl _)
       ·exact absurd (as j q) (Nat.lt_irrefl _)
      ·intro hm
       have:=hm.2;simp [Array.getD_eq_getD_getElem?,dY,J] at this
     ·rw[getD_set_ne true (Ne.symm u),←hV j];simp only[List.mem_append,List.mem_cons];constructor
      ·rintro (q|q)
       ·exact .inl q
       ·exact .inr (.inr q)
      ·rintro (q|q|q)
       ·exact .inl q
       ·exact absurd q u
       ·exact .inr q
    ·by_cases u:j=i
     ·subst u;exact getD_set_true (V m hm)
     ·rw[getD_set_ne false (Ne.symm u)] at cp;exact getD_set_true (M j m cp hm)
theorem BZ{κ:b9}{s:aq}{w:World}{aC:ey}{a:Act}{ops:Array Oper}{e:List cN}(b6:l1 T iA ops e ops.toList=true)(h:j1 κ s w aC.get a iA E.aS){fin:ey→aq→ao}{B:ai→ey→aq→ao}{r:ao}(bq:r≠.fail)(aQ:fe E e aC s fin B=r){Q:Exit→Act→World→Prop}
  (H:∀κ' s' w' eW iE,gi κ s w κ' s' w'→j1 κ' s' w' eW.get iE iA E.aS→fin eW s'=r→Q .normal iE w')(id:Nat):(Code.region id ops false).wp P Q a w:=by
 obtain⟨eW,s',aD,aG⟩:=mA bo ku.ov bq e aQ;obtain⟨hlen,I⟩:=k4 b6;refine wp_region (yL fF bo ku (List.range ops.size) e (by rw[hlen];simp) (fun j i J cp K=>?_) h aD (fun κ' w' iE he L=>H κ' s' w' eW iE he L aG));obtain⟨M,u⟩:=bZ.1 cp;rw[List.getElem_range] at u;subst u;have y:j<ops.size:=by simpa using M
 exact⟨ops[j],Array.getElem?_eq_getElem y,I j J _ K (by simp [y])⟩
theorem j1.drawn{κ:b9}{s:aq}{w:World}{g:Nat→ai}{a:Act}(h:j1 κ s w g a iA E.aS):j1 κ s {w with drawn:=w.drawn+1} g a iA E.aS∧gi κ s w κ s {w with drawn:=w.drawn+1}:=
 ⟨⟨h.Dw.world (.refl _ _) rfl rfl (fun a v e=>h.Dw.jq a v e) (fun _ _=>⟨rfl,fun _=>rfl⟩),h.aC,h.defers,h.size,h.aS⟩,
  ⟨.refl _ _,rfl,aX _,rfl,rfl,rfl,fun _ _ _=>rfl,fun _ _ h=>h,fun _ h=>.inl h⟩⟩
theorem F9{κ:b9}{s:aq}{w:World}{aC:ey}{a:Act}{ops:Array Oper}{e:List cN}(hm:P.follows .mixedOrders=true)(b6:ss T iA ops e=true)(h:j1 κ s w aC.get a iA E.aS){fin:ey→aq→ao}{y:ai→ey→aq→ao}{r:ao}(bq:r≠.fail)(aQ:fe E e aC s fin y=r){Q:Exit→Act→World→Prop}
  (B:∀κ' s' w' eW iE,gi κ s w κ' s' w'→j1 κ' s' w' eW.get iE iA E.aS→fin eW s'=r→Q .normal iE w')(id:Nat):(Code.region id ops true).wp P Q a w:=by
 obtain⟨eW,s',aD,aG⟩:=mA bo ku.ov bq e aQ;have hlen:=(k4 (by simp only[ss,bL] at b6;exact b6.1.1)).1;obtain⟨bI,H⟩:=h.drawn fF bo ku;refine wp_region_any hm (Nc fF bo ku b6 ops.size (List.range ops.size) _ (by simp) List.pairwise_lt_range (by simp) (fun i=>?_) (fun i m bk=>?_) bI ?_ (fun κ' w' iE he I=>B κ' s' w' eW iE (H.trans he) I aG))
 ·rw[List.mem_range];constructor
  ·intro bk;exact⟨bk,by simp [Array.getD_eq_getD_getElem?,bk]⟩
  ·exact fun bk=>bk.1
 ·by_cases u:i<ops.size
  ·simp [Array.getD_eq_getD_getElem?,u] at bk
  ·simp [Array.getD_eq_getD_getElem?,u] at bk
 ·have:(List.range ops.size).map (e.getD · default)=e:=by
   apply List.ext_getElem
   ·rw[hlen];simp
   ·intro i K J;simp [List.getD_eq_getElem?_getD,J]
  rw[this];exact aD
end
def ft(T:mQ)(iA:Nat):ad→Code→Bool
 |.skip,.skip=>true
 |.skip,.label _=>true
 |.region none e,.region _ ops false=>l1 T iA ops e ops.toList
 |.region (some []) e,.region _ ops true=>ss T iA ops e
 |.seq a b,.seq x y=>ft T iA a x&&ft T iA b y
 |.mask _ a,c=>ft T iA a c
 |.cond c a b,.cond og x y=>cr c og&&ft T iA a x&&ft T iA b y
 |.block i a,.block j x=>Nat.beq i j&&ft T iA a x
 |.loop _ a,.loop x=>ft T iA a x
 |.exit i,.exit j=>Nat.beq i j
 |.scope a,.scope x=>ft T iA a x
 |.ret,.ret=>true
 |_,_=>false
inductive awr:avw→Exit→Prop
 |norm:awr .norm .normal
 |exit (i:Nat):awr (.exit i) (.exit i)
 |ret:awr .ret .ret
theorem hZ:∀(m:dp) (k:ey→ao) (aC:ey),∃eW,ey.jZ m k aC=k eW∧∀t,eW.get t=aC.get t∨eW.get t=.dead
 |.e,k,aC=>⟨.e,by cases aC<;> rfl,fun t=>.inr rfl⟩
 |.n B b u,k,.e=>by
  obtain⟨l',bU,aD⟩:=hZ B (fun l=>ey.jZ u (fun r=>k (.n l .dead r)) .e) .e;obtain⟨y,H,aG⟩:=hZ u (fun r=>k (.n l' .dead r)) .e;refine⟨.n l' .dead y,by simp only[ey.jZ];rw[bU];exact H,fun t=>.inr ?_⟩;have I:∀t,l'.get t=.dead:=fun t=>(aD t).elim (fun h=>h) id
  have J:∀t,y.get t=.dead:=fun t=>(aG t).elim (fun h=>h) id
  simp only[ey.get,I,J];cases Nat.beq t 0<;> cases Nat.beq (t%2) 1<;> rfl
 |.n B b u,k,.n l v r=>by
  obtain⟨l',bU,aD⟩:=hZ B (fun l=>ey.jZ u (fun r=>k (.n l (bif b then v else .dead) r)) r) l;obtain⟨y,H,aG⟩:=hZ u (fun r=>k (.n l' (bif b then v else .dead) r)) r;refine⟨.n l' (bif b then v else .dead) y,by simp only[ey.jZ];rw[bU];exact H,fun t=>?_⟩;simp only[ey.get];cases Nat.beq t 0 with
  |true=>cases b<;> simp
  |false=>
   simp only[cond_false];cases Nat.beq (t%2) 1 with
   |true=>exact aD _
   |false=>exact aG _
theorem rB{m:dp}{k:ey→ao}{aC:ey}{r:ao}(h:ey.jZ m k aC=r):∃eW,k eW=r∧∀t,eW.get t=aC.get t∨eW.get t=.dead:=by obtain⟨eW,e,bD⟩:=hZ m k aC;exact⟨eW,e.symm.trans h,bD⟩
theorem Z3{P:Program}{c:Code}{Q:Exit→Act→World→Prop}(J:Nat→Act→World→Prop)(round:∀n a w,J n a w→c.wp P (Exit.then (fun iE w'=>∃m,m<n∧J m iE w') Q) a w){n:Nat}{a:Act}{w:World}(h:J n a w):(Code.loop c).wp P Q a w:=by
 intro b k cs;have key:∀n a w,J n a w→∃e iE w',Q e iE w'∧Arrives P (lone (b.at a (.code c:: .inLoop c::k)) cs w) b k cs e iE w':=by
  intro n
  induction n using Nat.strongRecOn with
  |_ n B=>
   intro a w H;obtain⟨e,u,y,dQ,r⟩:=round n a w H b (.inLoop c::k) cs;cases e with
   |normal=>obtain⟨m,I,K⟩:=dQ;obtain⟨L,M,N,O,R⟩:=B m I u y K;exact⟨L,M,N,O,.of_steps (Steps.trans r (.one step_inLoop)) R⟩
   |exit id=>exact⟨_,u,y,dQ,.pass (x:=.inLoop c) rfl (fun _ _=>.inl (by simp)) r⟩
   |goto l=>exact⟨_,u,y,dQ,.pass (x:=.inLoop c) rfl (fun _ _=>.inl (by simp)) r⟩
   |ret=>exact⟨_,u,y,dQ,.pass (x:=.inLoop c) rfl (fun _ _=>.inl (by simp)) r⟩
   |panic U=>exact⟨_,u,y,dQ,.pass (x:=.inLoop c) rfl (fun _ _=>.inl (by simp)) r⟩
   |outgrown=>exact⟨_,u,y,dQ,.pass (x:=.inLoop c) rfl (fun _ _=>.inl (by simp)) r⟩
 obtain⟨e,iE,w',dQ,r⟩:=key n a w h;exact⟨e,iE,w',dQ,.of_steps (.one step_loop) r⟩
def qE(κ:b9)(s:aq)(w:World)(iA:Nat)(G:Nat→ai)(k:avw→ey→aq→ao)(r:ao):Exit→Act→World→Prop:=fun e iE w'=>∃x κ' s' eW,awr x e∧gi κ s w κ' s' w'∧j1 κ' s' w' eW.get iE iA G∧k x eW s'=r
theorem qE.trans{κ κ':b9}{s s':aq}{w w':World}{iA:Nat}{G:Nat→ai}{k:avw→ey→aq→ao}{r:ao}(he:gi κ s w κ' s' w'){e:Exit}{a:Act}{u:World}(h:qE κ' s' w' iA G k r e a u):qE κ s w iA G k r e a u:=by obtain⟨x,y,B,eW,aD,aG,bz,cz⟩:=h;exact⟨x,y,B,eW,aD,he.trans aG,bz,cz⟩
section
variable{P:Program}(hm:P.follows .mixedOrders=true){iA:Nat}{T:mQ}(fF:T.uO P){E:Env}(bo:E.F=.not)(ku:o1 P E)
include hm fF bo ku
theorem vS:∀(c:ad) (code:Code),ft T iA c code=true→∀{κ:b9} {s:aq} {w:World} {aC:ey} {a:Act} {k:avw→ey→aq→ao} {r:ao},r≠.fail→j1 κ s w aC.get a iA E.aS→exec E c aC s k=r→code.wp P (qE κ s w iA E.aS k r) a w:=by
 intro c
 induction c with
 |skip=>
  intro code b6 κ s w aC a k r bq h aQ;cases code<;> simp only[ft,co] at b6
  ·exact wp_skip ⟨.norm,κ,s,aC,.norm,.refl _ _ _,h,aQ⟩
  ·exact wp_label ⟨.norm,κ,s,aC,.norm,.refl _ _ _,h,aQ⟩
 |region nW ai=>
  intro code b6 κ s w aC a k r bq h aQ;cases code with
  |region id ops d=>
   cases nW with
   |none=>
    cases d with
    |true=>simp [ft] at b6
    |false=>simp only[ft] at b6;simp only[exec] at aQ;exact BZ fF bo ku b6 h bq aQ (fun κ' s' w' eW iE he u cg=>⟨.norm,κ',s',eW,.norm,he,u,cg⟩) id
   |some nW=>
    cases nW with
    |cons x l=>simp [ft] at b6
    |nil=>
     cases d with
     |false=>simp [ft] at b6
     |true=>simp only[ft] at b6;simp only[exec,List.all_nil,cb] at aQ;exact F9 fF bo ku hm b6 h bq aQ (fun κ' s' w' eW iE he u cg=>⟨.norm,κ',s',eW,.norm,he,u,cg⟩) id
  |_=>cases nW<;> simp [ft] at b6
 |seq x y I J=>
  intro code b6 κ s w aC a k r bq h aQ;cases code<;> simp only[ft,co,bL] at b6;simp only[exec] at aQ;refine wp_seq (wp_mono (I _ b6.1 bq h aQ) fun e iE w' aU=>?_);obtain⟨z,κ',s',eW,io,he,u,cg⟩:=aU;cases io with
  |norm=>exact wp_mono (J _ b6.2 bq u cg) fun e V Y aU=>aU.trans he
  |exit i=>exact⟨.exit i,κ',s',eW,.exit i,he,u,cg⟩
  |ret=>exact⟨.ret,κ',s',eW,.ret,he,u,cg⟩
 |mask m x B=>
  intro code b6 κ s w aC a k r bq h aQ;have Z:ft T iA x code=true:=by simpa only[ft] using b6
  simp only[exec] at aQ;obtain⟨H,br,K⟩:=rB aQ;have aa:j1 κ s w H.get a iA E.aS:=⟨h.Dw,fun t=>by
   rcases K t with q|q
   ·rw[q];exact h.aC t
   ·rw[q];exact .dead _,h.defers,h.size,h.aS⟩
  exact B code Z bq aa br
 |cond c x y I J=>
  intro code b6 κ s w aC a k r bq h aQ;cases code<;> simp only[ft,co,bL] at b6;simp only[exec] at aQ;have a9:=bS h.aC h.aS b6.1.1;cases bG:aL E.aS aC.get c<;> rw[bG] at aQ a9<;> simp only at aQ<;> first|exact absurd aQ.symm bq|skip
  rename_i b;cases b with
  |true=>exact wp_cond_true (c8.hg (b:=true) a9) (I _ b6.1.2 bq h aQ)
  |false=>exact wp_cond_false (c8.hg (b:=false) a9) (J _ b6.2 bq h aQ)
 |block id c B=>
  intro code b6 κ s w aC a k r bq h aQ;cases code<;> simp only[ft,co,bL] at b6;have e:=c2 b6.1;subst e;simp only[exec] at aQ;refine wp_block (wp_mono (B _ b6.2 bq h aQ) fun e iE w' aU=>?_);obtain⟨z,κ',s',eW,io,he,u,cg⟩:=aU;cases io with
  |norm=>exact⟨.norm,κ',s',eW,.norm,he,u,cg⟩
  |exit i=>
   simp only[Exit.inBlock];simp only[bw] at cg;split
   ·rename_i bk;rw[bk,fE,cb] at cg;exact⟨.norm,κ',s',eW,.norm,he,u,cg⟩
   ·rename_i bk;rw[show Nat.beq i id=false from by cases ab:Nat.beq i id with
     |false=>rfl
     |true=>exact absurd (c2 ab) bk,cond_false] at cg
    exact⟨.exit i,κ',s',eW,.exit i,he,u,cg⟩
  |ret=>exact⟨.ret,κ',s',eW,.ret,he,u,cg⟩
 |loop bf c B=>
  intro code b6 κ s w aC a k r bq h aQ;cases code<;> simp only[ft,co] at b6;simp only[exec] at aQ;have masked:∀{κ':b9} {s':aq} {w':World} {eW H:ey} {iE:Act},j1 κ' s' w' eW.get iE iA E.aS→(∀t,H.get t=eW.get t∨H.get t=.dead)→j1 κ' s' w' H.get iE iA E.aS:=fun u K=>⟨u.Dw,fun t=>by
   rcases K t with q|q
   ·rw[q];exact u.aC t
   ·rw[q];exact .dead _,u.defers,u.size,u.aS⟩
  obtain⟨ac,R,ae⟩:=rB aQ;obtain⟨N,pE⟩:=ku.loop;rw[pE] at R;refine Z3 (fun n iE w'=>∃κ' s' eW,gi κ s w κ' s' w'∧j1 κ' s' w' eW.get iE iA E.aS∧da (exec E c) bf n eW s' k=r) (fun n iE w' af=>?_) ⟨κ,s,ac,.refl _ _ _,masked h ae,R⟩;obtain⟨κ',s',eW,he,u,br⟩:=af;cases n with
  |zero=>exact absurd br.symm bq
  |succ n=>
   simp only[da] at br;refine wp_mono (B _ b6 bq u br) fun e V Y aU=>?_
   obtain⟨z,L,M,U,io,O,Q,cg⟩:=aU;cases io with
   |norm=>simp only[cx] at cg;obtain⟨H,ag,ah⟩:=rB cg;exact⟨n,Nat.lt_succ_self n,L,M,H,he.trans O,masked Q ah,ag⟩
   |exit i=>exact⟨.exit i,L,M,U,.exit i,he.trans O,Q,cg⟩
   |ret=>exact⟨.ret,L,M,U,.ret,he.trans O,Q,cg⟩
 |exit id=>intro code b6 κ s w aC a k r bq h aQ;cases code<;> simp only[ft,co] at b6;have e:=c2 b6;subst e;exact wp_exit ⟨.exit id,κ,s,aC,.exit id,.refl _ _ _,h,aQ⟩
 |scope c B=>
  intro code b6 κ s w aC a k r bq h aQ;cases code<;> simp only[ft,co] at b6;simp only[exec] at aQ;refine wp_scope_straight (wp_mono (B _ b6 bq h aQ) fun e iE w' aU=>?_);obtain⟨z,κ',s',eW,io,he,u,cg⟩:=aU;cases io with
  |norm=>exact⟨.norm,κ',s',eW,.norm,he,u,cg⟩
  |exit i=>exact⟨.exit i,κ',s',eW,.exit i,he,u,cg⟩
  |ret=>exact⟨.ret,κ',s',eW,.ret,he,u,cg⟩
 |ret=>intro code b6 κ s w aC a k r bq h aQ;cases code<;> simp only[ft,co] at b6;exact wp_ret ⟨.ret,κ,s,aC,.ret,.refl _ _ _,h,aQ⟩
end
def li(r:ao):Prop:=∀v s,r≠.panic v s
theorem li.bind{r:ao}{k kp:ai→aq→ao}(aD:∀v s,li (k v s))(aG:∀v s,li (kp v s)):li (ao.bind r k kp):=by
 cases r with
 |fail=>intro v s h;cases h
 |ok v s=>exact aD v s
 |panic v s=>exact aG v s
theorem li.fail:li .fail:=fun _ _ h=>by cases h
theorem li.jj:∀(d n:Nat) (v:ai) (k:ey→ao) (aC:ey),(∀aC,li (k aC))→li (ey.jj d n v k aC)
 |0,n,v,k,aC,h=>li.fail
 |d+1,n,v,k,.e,h=>by
  simp only[ey.jj];cases Nat.beq n 0
  ·cases Nat.beq (n%2) 1
   ·exact li.jj d _ v _ _ (fun _=>h _)
   ·exact li.jj d _ v _ _ (fun _=>h _)
  ·exact h _
 |d+1,n,v,k,.n l x r,h=>by
  simp only[ey.jj];cases Nat.beq n 0
  ·cases Nat.beq (n%2) 1
   ·exact li.jj d _ v _ _ (fun _=>h _)
   ·exact li.jj d _ v _ _ (fun _=>h _)
  ·exact h _
theorem li.kW{aC:ey}{d:Option Nat}{v:ai}{k:ey→ao}(h:∀aC,li (k aC)):li (kW aC d v k):=by
 cases d with
 |none=>exact h aC
 |some n=>exact li.jj 12 n v k aC h
theorem li.fe{E:Env}(bo:E.F=.not):∀(r:List cN) {aC:ey} {s:aq} {fin:ey→aq→ao} {e:ai→ey→aq→ao},(∀aC s,li (fin aC s))→(∀v aC s,li (e v aC s))→li (fe E r aC s fin e)
 |[],_,_,_,_,h,_=>h _ _
 |o::os,aC,s,fin,e,h,aU=>by
  simp only[Ab.fe];have key:∀w:Bool,li (bif w then bB E aC.get s (fun v s=>Ab.kW aC o.dst v fun aC=>Ab.fe E os aC s fin e) (fun v s=>e v aC s) o.op else Ab.kW aC o.dst (.cT []) fun aC=>Ab.fe E os aC s fin e):=fun w=>by
   cases w with
   |false=>exact li.kW (fun aC=>li.fe bo os h aU)
   |true=>simp only[cb];rw[jM bo];exact li.bind (fun v s=>li.kW (fun aC=>li.fe bo os h aU)) (fun v s=>aU _ _ _)
  unfold m2;split
  ·exact key _
  ·split
   ·exact key _
   ·exact key _
   ·exact li.fail
theorem li.exec{E:Env}(bo:E.F=.not)(B:∃n,∀step bf aC s k,E.loop step bf aC s k=da step bf n aC s k):∀(c:ad) {aC:ey} {s:aq} {k:avw→ey→aq→ao},(∀x aC s,li (k x aC s))→li (exec E c aC s k):=by
 intro c
 induction c with
 |skip=>exact fun h=>h _ _ _
 |region nW ops=>
  intro aC s k h;cases nW with
  |none=>exact li.fe bo ops (fun _ _=>h _ _ _) (fun _ _ _=>li.fail)
  |some nW=>
   simp only[Ab.exec];cases nW.all (rX E.aS aC.get)
   ·exact li.fail
   ·exact li.fe bo ops (fun _ _=>h _ _ _) (fun _ _ _=>li.fail)
 |seq a b u y=>
  intro aC s k h;simp only[Ab.exec];refine u fun x aC s=>?_
  cases x with
  |norm=>exact y h
  |_=>exact h _ _ _
 |mask m a r=>intro aC s k h;simp only[Ab.exec];obtain⟨eW,e,_⟩:=hZ m (fun aC=>Ab.exec E a aC s k) aC;rw[e];exact r h
 |cond c a b u y=>
  intro aC s k h;simp only[Ab.exec];split
  ·rename_i t _;cases t
   ·exact y h
   ·exact u h
  ·exact li.fail
 |block id c r=>
  intro aC s k h;simp only[Ab.exec];refine r fun x aC s=>?_
  cases x with
  |exit j=>simp only[bw];cases Nat.beq j id<;> exact h _ _ _
  |_=>exact h _ _ _
 |loop bf c r=>
  intro aC s k h;simp only[Ab.exec];obtain⟨n,bX⟩:=B;obtain⟨eW,e,aT⟩:=hZ bf (fun aC=>E.loop (Ab.exec E c) bf aC s k) aC;rw[e];simp only[bX];clear bX e aT
  induction n generalizing eW s with
  |zero=>exact li.fail
  |succ n H=>
   simp only[da];refine r fun x aC s=>?_
   cases x with
   |norm=>simp only[cx];obtain⟨eW,e,_⟩:=hZ bf (fun aC=>da (Ab.exec E c) bf n aC s k) aC;rw[e];exact H (s:=s) (eW:=eW)
   |_=>exact h _ _ _
 |exit id=>exact fun h=>h _ _ _
 |scope c r=>intro aC s k h;simp only[Ab.exec];exact r h
 |ret=>exact fun h=>h _ _ _
theorem li.aV:∀(vs:List ai) (i:Nat) (aC:ey) (k:ey→ao),(∀aC,li (k aC))→li (aV vs i aC k)
 |[],_,aC,_,h=>h aC
 |v::vs,i,aC,k,h=>li.jj 12 i v _ aC (fun aC=>li.aV vs (i+1) aC k h)
theorem li.finish{fn:bY}{aC:ey}{s:aq}:li (finish .not fn aC s):=by
 intro v s' h;simp only[Ab.finish,bb.not] at h;split at h
 ·split at h
  ·cases h
  ·split at h
   ·split at h<;> cases h
   ·cases h
 ·cases h
theorem li.call{T:Nat→Option bY}{G:Nat→ai}{X:Nat→List ai→aq→ao}(mP:∀f args s,li (X f args s)):∀(n f:Nat) (args:List ai) (s:aq),li (call .not T G X n f args s)
 |0,_,_,_=>li.fail
 |n+1,f,args,s=>by
  simp only[Ab.call];split
  ·exact mP _ _ _
  ·cases Nat.beq _ _
   ·exact li.fail
   ·refine li.aV _ _ _ _ fun aC=>li.exec rfl ⟨_,fun _ _ _ _ _=>rfl⟩ _ fun x aC s=>?_
    cases x with
    |norm=>exact li.finish
    |ret=>exact li.finish
    |_=>exact li.fail
theorem o7{k:ey→ao}{r:ao}(bq:r≠.fail):∀(vs:List ai) (i:Nat) (aC:ey),aV vs i aC k=r→∃eW,k eW=r∧∀t,eW.get t=if i≤t∧t<i+vs.length then vs.getD (t-i) .dead else aC.get t
 |[],i,aC,h=>⟨aC,h,fun t=>by rw[if_neg (by rw[ek];omega)]⟩
 |v::vs,i,aC,h=>by
  obtain⟨A,aD,aG⟩:=kJ 12 i v _ aC r h bq;obtain⟨eW,bz,cz⟩:=o7 bq vs (i+1) A aD;refine⟨eW,bz,fun t=>?_⟩;rw[cz t];by_cases cB:t=i
  ·subst cB;rw[if_neg (by omega),aG,if_pos rfl,if_pos (by simp)];simp
  ·by_cases a9:i+1≤t∧t<i+1+vs.length
   ·rw[if_pos a9,if_pos (by simp;omega),show t-i=(t-(i+1))+1 by omega];simp
   ·rw[if_neg a9,aG,if_neg cB,if_neg (by simp;omega)]
theorem qF{α β:Type}{f:α→Option β}:∀{xs:List α} {e:List β},ha f xs=some e→e.length=xs.length∧∀(j:Nat) (y:β),e[j]? =some y→∃x,xs[j]? =some x∧f x=some y
 |[],e,h=>by simp only[ha,bV] at h;subst h;exact⟨rfl,fun j y cp=>by simp at cp⟩
 |x::xs,e,h=>by
  simp only[ha] at h;cases aT:f x with
  |none=>rw[aT] at h;cases h
  |some y=>
   rw[aT] at h;simp only[hk] at h;cases hm:ha f xs with
   |none=>rw[hm] at h;cases h
   |some l=>
    rw[hm] at h;simp only[eU,bV] at h;subst h;obtain⟨aD,aG⟩:=qF hm;refine⟨by simp [aD],fun j z cp=>?_⟩;cases j with
    |zero=>simp at cp;subst cp;exact⟨x,rfl,aT⟩
    |succ j=>simpa using aG j z (by simpa using cp)
theorem pR{P:Program}{w:World}{α β:Type}(f:α→Sem β):∀(e:List α) (xs:List β),xs.length=e.length→(∀(j:Nat) (r:α) (x:β),e[j]? =some r→xs[j]? =some x→(f r).run P w=.ok x w)→(e.mapM f).run P w=.ok xs w
 |[],[],_,_=>by simp
 |[],_::_,h,_=>by simp at h
 |_::_,[],h,_=>by simp at h
 |r::e,x::xs,h,cp=>by have aD:=cp 0 r x rfl rfl;have aG:=pR f e xs (by simpa using h) (fun j r x aQ aT=>cp (j+1) r x (by simpa using aQ) (by simpa using aT));simp [List.mapM_cons,aD,aG]
section
variable{P:Program}{κ:b9}{s:aq}{w:World}
theorem dw.iF(bl:dw κ s w):∀n,n≤s.own.length→∃κ' s',dw κ' s' w∧gi κ s w κ' s' w∧s'.up=s.up∧s'.ro=s.ro∧s'.own.length=s.own.length∧(∀i,n≤i→s'.own[i]? =s.own[i]?)∧κ'.loc=κ.loc∧
  ∀i cs,i<n→s.own[i]? =some (.cells cs)→∃C:Array Value,(∀j (h:j<C.size),κ'.F ⟨κ.loc s.aa i,j,none⟩=some C[j])∧ea κ' (s.aa+1) cs (C.toList.take cs.length)
 |0,_=>⟨κ,s,bl,.refl _ _ _,rfl,rfl,rfl,fun _ _=>rfl,rfl,fun i cs h=>absurd h (Nat.not_lt_zero i)⟩
 |n+1,bX=>by
  obtain⟨κ',s',aD,aG,bz,cz,K,B,H,L⟩:=bl.iF n (by omega);have bI:s'.aa=s.aa:=aG.aa;by_cases a9:∃cs,s.own[n]? =some (.cells cs)
  ·obtain⟨cs,M⟩:=a9;have bD:s'.get (.g s'.aa n)=some (.cells cs):=by
    simp only[aq.get,↓reduceIte];rw[B n (aX _),M]
   obtain⟨C,e,lv,Q,I,N,u⟩:=aD.yd (s':={s' with own:=s'.own.set n .gone}) bD (by simp [aq.set]);refine⟨_,_,N,aG.trans u,bz,cz,by simp [K],fun i bk=>?_,H,fun i y bk r=>?_⟩
   ·simp only;rw[ew (by omega),B i (by omega)]
   ·by_cases J:i=n
    ·subst J;rw[M] at r;simp only[bV,bd.cells.injEq] at r;subst r;refine⟨C,fun j cp=>?_,?_⟩
     ·rw[←H,←bI];exact oX (Nat.zero_le _) cp
     ·rw[bI] at I;exact⟨I.1,fun j c x a9 aT=>(I.2 j c x a9 aT).mono (u.k.low (by omega))⟩
    ·obtain⟨O,hG,oY⟩:=L i y (by omega) r;exact⟨O,fun j cp=>u.k.F _ _ (hG j cp),oY.1,fun j c x a9 aT=>(oY.2 j c x a9 aT).mono (u.k.low (by omega))⟩
  ·refine⟨κ',s',aD,aG,bz,cz,K,fun i bk=>B i (by omega),H,fun i y bk r=>?_⟩;by_cases J:i=n
   ·subst J;exact absurd ⟨y,r⟩ a9
   ·exact L i y (by omega) r
theorem B0{D off len cap sz b:Nat}{cs:List ai}{C:Array Value}(kQ:∀j (h:j<C.size),κ.F ⟨b,j,none⟩=some C[j])(bG:ea κ D cs (C.toList.take cs.length)){mN:Nat}(w2:len≤mN)(hi:len=cap→mN=cap)(aD:ai.bj (chunk sz len (cs.drop off))=true)(aG:off+len*sz≤cs.length)(io:sz≠0)(u:Nat):
  c8 κ u (.aW sz (chunk sz len (cs.drop off)) (if len=cap then .exact else .any)) (.slice (some ⟨b,off,none⟩) len mN):=by
 obtain⟨B,H⟩:=k2 sz io len (cs.drop off) (by simp;omega);have br:cs.length≤C.size:=by have:=bG.1;simp at this;omega
 have key:c8 κ D (.aW sz (chunk sz len (cs.drop off)) (if len=cap then cd.exact else cd.any)) (.slice (some ⟨b,off,none⟩) (chunk sz len (cs.drop off)).length mN):=by
  refine .aW sz _ _ _ _ (fun j=>C.getD (off+j) undef) ?_ (by rw[fA];exact w2) (fun _=>rfl) H (.inl fun e he=>eh.1 aD e he) (fun j cp=>?_) (fun j c a9=>?_)
  ·by_cases h:len=cap
   ·simp [h,iP,fA,hi h]
   ·simp [h,iP]
  ·rw[B] at cp;simp at cp;have r:off+j<C.size:=by omega
   rw[fN rfl];show κ.F ⟨b,off+j,none⟩=_;rw[kQ _ r];simp [Array.getD,r]
  ·rw[B,List.getElem?_take] at a9;split at a9
   ·rw[List.getElem?_drop] at a9;obtain⟨y,dX,I⟩:=bG.get a9;have r:off+j<cs.length:=(bZ.1 a9).1
    have:C.getD (off+j) undef=y:=by
     rw[List.getElem?_take,if_pos r] at dX;have J:C[off+j]? =some y:=by simpa using dX
     simp [Array.getD_eq_getD_getElem?,J]
    rw[this];exact I
   ·cases a9
 rw[fA] at key;refine key.bp ?_ u (fun _ _ h=>h);split<;> rfl
theorem pS{κ':b9}(cg:hJ κ κ' (s.aa+1))(M:∀i cs,s.own[i]? =some (.cells cs)→∃C:Array Value,(∀j (h:j<C.size),κ'.F ⟨κ.loc s.aa i,j,none⟩=some C[j])∧ea κ' (s.aa+1) cs (C.toList.take cs.length)){v fX:ai}{x:Value}(bG:c8 κ (s.aa+1) (v.ak s.aa) x)(h:dT s v=some fX):c8 κ' s.aa fX x:=by
 have own:∀{i off len cap sz:Nat},c8 κ (s.aa+1) (.cw (.g s.aa i) off len cap sz) x→iF s i off len cap sz=some fX→c8 κ' s.aa fX x:=fun {i off len cap sz} bG h=>by
  obtain⟨mN,e,bI,bk,w2,yu⟩:=bG.k0;unfold Ab.iF at h;split at h
  ·rename_i cs N;simp only at h;split at h
   ·rename_i y;simp only[bL,Bool.not_eq_true'] at y;simp only[bV] at h;subst h;obtain⟨C,hG,oY⟩:=M i cs N;rw[e];exact B0 hG oY w2 (fun h=>by rcases yu with aD|⟨aD,aG,_⟩<;> omega) y.1.1 (dW y.1.2) (fun cL=>by rw[cL] at y;simp at y) _
   ·cases h
  ·cases h
 have any:∀{sz:Nat} {es:List ai} {l:Loc},ai.bj es=true→c8 κ (s.aa+1) (ai.ak s.aa (.aW sz es (.bQ l))) x→c8 κ' s.aa (.aW sz es .any) x:=fun {sz es l} B bG=>by
  have L:=eh.1 B;simp only[ai.ak] at bG;rcases bG.ie with⟨_,aG,_⟩|⟨a,cap,aF,rfl,bD,bX,J,cz,u,K,H⟩
  ·simp [cd.ak] at aG
  ·refine .aW _ _ _ _ _ aF trivial bX J cz (.inl L) (fun j cp=>cg.F _ _ (K j cp)) (fun j c a9=>(H j c a9).bp ?_ _ cg.F);obtain⟨e,he,I⟩:=List.mem_flatMap.1 (List.mem_of_getElem? a9);exact il (L e he) I
 unfold dT at h;split at h
 ·exact own bG h
 ·split at h
  ·rename_i bI;subst bI;exact own bG h
  ·split at h
   ·rename_i r;simp only[bV] at h;subst h;obtain⟨mN,e,bI,bk,w2,yu⟩:=c8.k0 bG;rw[e,←cg.loc _ _ bI bk];exact .cw _ _ _ _ _ _ _ r (gm bk (cg.n _ bI)) w2 (yu.imp id fun⟨aD,aG,bz,cz⟩=>⟨aD,aG,bz,by rw[cg.loc _ _ bI bk];exact cg.nB _ _ _ _ bI bk cz⟩)
   ·cases h
 ·split at h
  ·rename_i r;simp only[bV] at h;subst h;obtain⟨e,bI,bk⟩:=c8.na bG;rw[e,←cg.loc _ _ bI bk];exact .ref _ _ _ r (gm bk (cg.n _ bI))
  ·cases h
 ·split at h
  ·rename_i B;simp only[bV] at h;subst h;exact any B bG
  ·cases h
 ·split at h
  ·rename_i r;simp only[bV] at h;subst h;have bG:c8 κ (s.aa+1) (.aW _ _ (.bQ (.g _ _))) x:=bG;rcases bG.ie with⟨_,aG,_⟩|⟨a,cap,aF,rfl,bD,bX,J,cz,u,K,H⟩
   ·cases aG
   ·refine .aW _ _ _ _ _ aF ⟨r,(bD.mono cg).2⟩ bX J cz u (fun j cp=>cg.F _ _ (K j cp)) (fun j c a9=>?_);obtain⟨e,he,I⟩:=List.mem_flatMap.1 (List.mem_of_getElem? a9);rcases u with u|⟨ga,kf,hN,u⟩
    ·exact(H j c a9).bp (il (u e he) I) _ cg.F
    ·cases hN;exact(((H j c a9).mono cg).lower (ya (u e he) I)).up r
  ·split at h
   ·rename_i B;simp only[bV] at h;subst h;exact any B bG
   ·cases h
 ·split at h
  ·rename_i r;simp only[bV] at h;subst h;have bG:c8 κ (s.aa+1) (.map (.g _ _)) x:=bG;cases bG;rename_i bI bk;rw[←cg.loc _ _ bI bk];exact .map _ _ r (gm bk (cg.n _ bI))
  ·cases h
 ·split at h
  ·rename_i aQ;simp only[bV] at h;subst h;rw[jK aQ] at bG;exact bG.bp aQ _ cg.F
  ·cases h
theorem B1{κ':b9}(cg:hJ κ κ' (s.aa+1))(e:∀i cs,s.own[i]? =some (.cells cs)→∃C:Array Value,(∀j (h:j<C.size),κ'.F ⟨κ.loc s.aa i,j,none⟩=some C[j])∧ea κ' (s.aa+1) cs (C.toList.take cs.length)){v fX:ai}{x:Value}(bG:c8 κ (s.aa+1) (v.ak s.aa) x)(h:freeze s v=some fX):c8 κ' s.aa fX x:=by
 unfold freeze at h;split at h
 ·rename_i cs;cases hm:ha (dT s) cs with
  |none=>rw[hm] at h;cases h
  |some l=>
   rw[hm] at h;simp only[eU,bV] at h;subst h;obtain⟨xs,rfl,br,aT⟩:=c8.pK (cs:=cs) bG;obtain⟨aD,aG⟩:=qF hm;refine .agg l xs (by rw[br,aD]) (fun j c y a9 dX=>?_);obtain⟨r,u,B⟩:=aG j c a9
   have:=aT j r y u dX;exact pS cg e (by rw[this.nJ];exact this) B
 ·exact pS cg e bG h
def rC(T:mQ):vA→ResultVar→Bool
 |.t n,.tmp m=>Nat.beq n m
 |.cell a n,.cell b ty=>Nat.beq a b&&T.load ty n
 |_,_=>false
def mB(T:mQ):List vA→List ResultVar→Bool
 |[],[]=>true
 |a::as,b::eB=>rC T a b&&mB T as eB
 |_,_=>false
theorem rm{T:mQ}:∀{as:List vA} {eB:List ResultVar},mB T as eB=true→as.length=eB.length∧∀(j:Nat) (a:vA) (b:ResultVar),as[j]? =some a→eB[j]? =some b→rC T a b=true
 |[],[],_=>⟨rfl,fun j a b h=>by simp at h⟩
 |[],_::_,h=>by simp [mB] at h
 |_::_,[],h=>by simp [mB] at h
 |a::as,b::eB,h=>by
  simp only[mB,bL] at h;obtain⟨aD,aG⟩:=rm h.2;refine⟨by simp [aD],fun j iE u e r=>?_⟩;cases j with
  |zero=>simp at e r;subst e;subst r;exact h.1
  |succ j=>exact aG j iE u (by simpa using e) (by simpa using r)
theorem Nd{T:mQ}(fF:T.uO P){iA:Nat}{G:Nat→ai}{aC:ey}{a:Act}(h:j1 κ s w aC.get a iA G){r:vA}{b:ResultVar}(b6:rC T r b=true){v:ai}(bG:rZ aC s r=some v):
  ∃x,(∀f:ResultVar→Sem Value,(∀t,f (.tmp t)=Pure.pure (a.tmps.getD t undef))→(∀t ty,f (.cell t ty)=(do loadVar ty (←asAddr (a.tmps.getD t undef)):Sem Value))→(f b).run P w=.ok x w)∧c8 κ (s.aa+1) (v.ak s.aa) x:=by
 cases r with
 |t n=>
  cases b with
  |cell t ty=>simp [rC] at b6
  |tmp m=>
   simp only[rC] at b6
   have:=c2 b6;subst this;simp only[rZ,bV] at bG;subst bG;exact⟨_,fun f aD _=>by rw[aD];simp,h.aC n⟩
 |cell t n=>
  cases b with
  |tmp m=>simp [rC] at b6
  |cell m ty=>
   simp only[rC,bL] at b6
   have:=c2 b6.1;subst this;have aT:=h.aC t;simp only[rZ] at bG;split at bG
   ·rename_i Dj off jw;rw[jw] at aT;simp only[ai.ak] at aT;rw[←aq.hU] at bG;cases aU:Dj.ak s.aa with
    |l i=>cases Dj<;> simp [Loc.ak] at aU
    |g d i=>
     rw[aU] at aT bG;obtain⟨e,bI,bk⟩:=aT.na;have key:∀cs,s.get (.g d i)=some (.cells cs)→fc {F:=.not,aS:=G,call:=fun _ _ _=>.fail,loop:=fun _ _ _ _ _=>.fail} s .ok n (cs.drop off)=.ok v s→∃x,(∀f:ResultVar→Sem Value,(∀t,f (.tmp t)=Pure.pure (a.tmps.getD t undef))→(∀t ty,f (.cell t ty)=(do loadVar ty (←asAddr (a.tmps.getD t undef)):Sem Value))→(f (.cell t ty)).run P w=.ok x w)∧c8 κ (s.aa+1) (v.ak s.aa) x:=fun cs bD br=>by obtain⟨v1,x,u,H,y⟩:=uY (P:=P) (uV (o0 h.Dw bD off) (show d+1≤s.aa+1 by omega)) (fF.load b6.2) rfl br (by simp);simp only[ao.ok.injEq] at u;obtain⟨rfl,_⟩:=u;refine⟨x,fun f _ aG=>?_,by rw[y.nJ];exact y⟩;rw[aG,e];simp [asAddr,H]
     split at bG
     ·rename_i cs bD;refine key cs bD ?_;simp only[fc,bb.not];cases B:cs.drop off with
      |nil=>
       have:(cs.drop off)[0]? =some v:=by rw[List.getElem?_drop];simpa using bG
       rw[B] at this;cases this
      |cons c l=>
       have:(cs.drop off)[0]? =some v:=by rw[List.getElem?_drop];simpa using bG
       rw[B] at this;simp only[List.getElem?_cons_zero,bV] at this;subst this;rfl
     ·rename_i cs m bD;split at bG
      ·rename_i hle;simp only[bV] at bG;subst bG;refine key cs bD ?_
       have:=dW hle;have I:Nat.ble m (cs.drop off).length=true:=by rw[Nat.ble_eq];simp;omega
       simp only[fc,bb.not,I,cb]
      ·cases bG
     ·cases bG
   ·cases bG
end
def yM(T:mQ)(e:bY)(fn:Func):Bool:=
 match fn.body with
 |some c=> !(fn.name== "runtime.NumGoroutine")&&Nat.beq e.iA fn.ntmps&&Nat.ble e.avv fn.ntmps&&mB T e.results fn.results.toList&&ft T e.iA e.body c
 |none=>false
def Nf(P:Program)(T:mQ)(sw:Nat→Option bY):Prop:=∀f e,sw f=some e→∃fn,P.funcs[f]? =some fn∧yM T e fn=true
structure aqW (P:Program) (sw:Nat→Option bY) (G:Nat→ai) (X:Nat→List ai→aq→ao):Prop where
 ov:∀f args s,li (X f args s)
 ok:∀f args s v s' κ w xs,sw f=none→X f args s=.ok v s'→dw κ s w→ly κ G→ea κ (s.aa+1) args xs→
  (∃x w',(callFunc f xs.toArray).run P w=.ok (.value x) w'∧nc κ s w v s' x w')∨
  ((callFunc f xs.toArray).run P w=.ok (.enter f xs.toArray) w∧Calls P f xs.toArray w fun e w'=>∃x,e=.returned x∧nc κ s w v s' x w')
section
variable{P:Program}{κ:b9}{s:aq}{w:World}
theorem yN{κ:b9}{D:Nat}{vs:List ai}{xs:List Value}(h:ea κ D vs xs):c8 κ D (q7 vs) (if h:xs.toArray.size=1 then xs.toArray[0] else .tuple xs.toArray):=by
 match vs,xs,h with
 |[v],[x],h=>exact h.2 0 v x rfl rfl
 |[],xs,h=>have:xs=[]:=kU h.1;subst this;exact .cT [] [] rfl (fun j c x a9=>by simp at a9)
 |v::v2::vs,xs,h=>
  have br:xs.length=vs.length+2:=by rw[h.1];rfl
  rw[dif_neg (by simp;omega)];exact .cT _ xs h.1 h.2
 |[v],[],h=>exact absurd h.1 (by simp)
 |[v],_::_::_,h=>exact absurd h.1 (by simp)
theorem rn{T:mQ}(fF:T.uO P){iA:Nat}{G:Nat→ai}{aC:ey}{a:Act}(h:j1 κ s w aC.get a iA G){y:bY}{fn:Func}(b6:mB T y.results fn.results.toList=true){vs:List ai}(M:ha (rZ aC s) y.results=some vs):
  ∃xs:List Value,(results fn a.tmps).run P w=.ok (if h:xs.toArray.size=1 then xs.toArray[0] else .tuple xs.toArray) w∧ea κ (s.aa+1) (vs.map (ai.ak s.aa)) xs:=by
 obtain⟨I,N⟩:=qF M;obtain⟨J,O⟩:=rm b6;have K:∀(j:Nat) (b:ResultVar),fn.results.toList[j]? =some b→∃x,(∀f:ResultVar→Sem Value,(∀t,f (.tmp t)=Pure.pure (a.tmps.getD t undef))→(∀t ty,f (.cell t ty)=(do loadVar ty (←asAddr (a.tmps.getD t undef)):Sem Value))→(f b).run P w=.ok x w)∧∀v,vs[j]? =some v→c8 κ (s.aa+1) (v.ak s.aa) x:=fun j b e=>by
  have cp:=(bZ.1 e).1;have Q:j<y.results.length:=by rw[J];exact cp
  have L:j<vs.length:=by rw[I];exact Q
  obtain⟨R,bU,U⟩:=N j vs[j] (dM L);obtain⟨x,V,Y⟩:=Nd fF h (O j R b bU e) U;refine⟨x,V,fun v bG=>?_⟩;rw[dM L] at bG;simp only[bV] at bG;subst bG;exact Y
 have gB:∃xs:List Value,xs.length=fn.results.toList.length∧∀(j:Nat) (b:ResultVar) (x:Value),fn.results.toList[j]? =some b→xs[j]? =some x→(∀f:ResultVar→Sem Value,(∀t,f (.tmp t)=Pure.pure (a.tmps.getD t undef))→(∀t ty,f (.cell t ty)=(do loadVar ty (←asAddr (a.tmps.getD t undef)):Sem Value))→(f b).run P w=.ok x w)∧∀v,vs[j]? =some v→c8 κ (s.aa+1) (v.ak s.aa) x:=by
  refine⟨(List.range fn.results.toList.length).map fun j=>if cp:j<fn.results.toList.length then Classical.choose (K j _ (dM cp)) else undef,by simp,fun j b x e aT=>?_⟩;have cp:=(bZ.1 e).1;have Z:fn.results.toList[j]=b:=(bZ.1 e).2;simp only[fw,List.getElem?_range cp,eU,bV] at aT;rw[dif_pos cp] at aT
  have:=Classical.choose_spec (K j _ (dM cp));rw[aT,Z] at this;exact this
 obtain⟨xs,B,aT⟩:=gB;refine⟨xs,?_,by rw[B,b2,I,J],fun j c x a9 u=>?_⟩
 ·unfold results;rw[Array.mapM_eq_mapM_toList]
  have:=fun f aD aG=>pR (P:=P) (w:=w) f fn.results.toList xs B (fun j r x aQ u=>(aT j r x aQ u).1 f aD aG)
  rw[map_eq_pure_bind,Sem.run_bind,Sem.run_bind,this]
  ·rfl
  ·intro t;rfl
  ·intro t ty;rfl
 ·have cp:j<fn.results.toList.length:=by rw[←B];exact(bZ.1 u).1
  rw[fw] at a9;cases H:vs[j]? with
  |none=>rw[H] at a9;cases a9
  |some v=>rw[H] at a9;simp only[eU,bV] at a9;subst a9;exact(aT j _ x (dM cp) u).2 v H
theorem B2{T:mQ}(fF:T.uO P){iA:Nat}{G:Nat→ai}{aC:ey}{a:Act}(h:j1 κ s w aC.get a iA G){r:bY}{fn:Func}(cg:r.bf=false)(b6:mB T r.results fn.results.toList=true){v:ai}{s':aq}(bq:finish .not r aC s=.ok v s'):
  ∃x κ' e own,(results fn a.tmps).run P w=.ok x w∧s.up=own::s'.up∧s'= {own,up:=s'.up,ro:=s.ro}∧e.up=s.up∧e.ro=s.ro∧gi κ s w κ' e w∧dw κ' e w∧c8 κ' s.aa v x:=by
 simp only[finish,cg,bb.not,co,↓reduceIte] at bq;cases u:ha (rZ aC s) r.results with
 |none=>rw[u] at bq;cases bq
 |some vs=>
  rw[u] at bq;simp only at bq;cases y:ha (freeze s) vs with
  |none=>rw[y] at bq;cases bq
  |some j7=>
   rw[y] at bq;simp only at bq;cases B:s.up with
   |nil=>rw[B] at bq;cases bq
   |cons own up=>
    rw[B] at bq;simp only[ao.ok.injEq] at bq;obtain⟨rfl,rfl⟩:=bq;obtain⟨I,J⟩:=qF y;obtain⟨κ',e,K,H,L,M,V,Y,Z,N⟩:=h.Dw.iF s.own.length (aX _);have O:∀i cs,s.own[i]? =some (.cells cs)→∃C:Array Value,(∀j (h:j<C.size),κ'.F ⟨κ.loc s.aa i,j,none⟩=some C[j])∧ea κ' (s.aa+1) cs (C.toList.take cs.length):=fun i cs bk=>N i cs (bZ.1 bk).1 bk
    obtain⟨xs,Q,aT⟩:=rn fF h b6 u;refine⟨_,κ',e,own,Q,rfl,rfl,by rw[L,B],M,H,K,?_⟩;refine yN ⟨by rw[aT.1,b2,I],fun j c x a9 R=>?_⟩;obtain⟨gH,bU,U⟩:=J j c a9;exact B1 H.k O (aT.2 j _ x (by rw[fw,bU];rfl) R) U
theorem Dz{T:mQ}(fF:T.uO P){iA:Nat}{G:Nat→ai}{aC:ey}{a:Act}(h:j1 κ s w aC.get a iA G){e:bY}{fn:Func}(cg:e.bf=true)(b6:mB T e.results fn.results.toList=true){v:ai}{s':aq}(bq:finish .not e aC s=.ok v s'):
  ∃x,(results fn a.tmps).run P w=.ok x w∧s'=s∧c8 κ (s.aa+1) (v.ak s.aa) x:=by
 simp only[finish,cg,bb.not,↓reduceIte] at bq;cases r:ha (rZ aC s) e.results with
 |none=>rw[r] at bq;cases bq
 |some vs=>
  rw[r] at bq;simp only[ao.ok.injEq] at bq;obtain⟨rfl,rfl⟩:=bq;obtain⟨xs,u,aT⟩:=rn fF h b6 r;refine⟨_,u,rfl,?_⟩
  have:=yN aT;rw[this.nJ];exact this
variable(hm:P.follows .mixedOrders=true){T:mQ}(fF:T.uO P){sw:Nat→Option bY}(Co:Nf P T sw){G:Nat→ai}{X:Nat→List ai→aq→ao}(mP:aqW P sw G X)
include hm fF Co mP
theorem yO:∀n m,o1 P {F:=.not,aS:=G,call:=call .not sw G X n,loop:=fun step bf aC s k=>da step bf m aC s k}
 |0,m=>⟨⟨m,fun _ _ _ _ _=>rfl⟩,fun f args s v s' h=>(by simp [call] at h),fun f args s v s' κ w xs h=>(by simp [call] at h)⟩
 |n+1,m=>by
  refine⟨⟨m,fun _ _ _ _ _=>rfl⟩,fun f args s=>li.call mP.ov (n+1) f args s,fun f args s v s' κ w xs h bl dL u=>?_⟩;simp only at h dL;simp only[call] at h;cases bq:sw f with
  |none=>rw[bq] at h;exact mP.ok f args s v s' κ w xs bq h bl dL u
  |some r=>
   rw[bq] at h;simp only at h;obtain⟨fn,N,b6⟩:=Co f r bq;unfold yM at b6;cases B:fn.body with
   |none=>rw[B] at b6;cases b6
   |some c=>
    rw[B] at b6;simp only[bL,Bool.not_eq_true'] at b6;obtain⟨⟨⟨⟨al,am⟩,an⟩,ac⟩,ad⟩:=b6;have ae:r.iA=fn.ntmps:=c2 am;have az:=dW an;obtain⟨hlen,h⟩:=cF h (by simp);have hlen:=c2 hlen;have ao:¬fn.name= "runtime.NumGoroutine" :=by simpa using al
    refine .inr ⟨by simp [callFunc,N,ao,B],?_⟩;cases J:r.bf with
    |true=>
     rw[J] at h;simp only[↓reduceIte] at h;obtain⟨aC,hex,O⟩:=o7 (by simp) _ _ _ h;have ku:=yO n n;have ap:xs.length=args.length:=u.1;have Q:j1 κ s w aC.get {tmps:=xs.toArray++Array.replicate (fn.ntmps-xs.toArray.size) undef,defers:=[]} r.iA G:=by
      refine⟨bl,fun t=>?_,rfl,?_,dL⟩
      ·rw[O t];split
       ·rename_i cB;have R:t<args.length:=by omega
        have bU:args[t]? =some args[t]:=dM R;have H:xs[t]? =some xs[t]:=dM (by omega);have bG:=u.2 t _ _ bU H;have U:(xs.toArray++Array.replicate (fn.ntmps-xs.toArray.size) undef).getD t undef=xs[t]:=by rw[Array.getD_eq_getD_getElem?,Array.getElem?_append_left (by simp;omega)];simp [H]
        rw[U,Nat.sub_zero,List.getD_eq_getElem?_getD,bU,Option.getD_some,bG.nJ];exact bG
       ·exact .dead _
      ·simp;omega
     refine calls_of_wp N B (wp_mono (vS hm fF rfl ku r.body c (ae ▸ ad) (by simp) Q hex) fun e iE w' aU=>?_);obtain⟨x,af,K,eW,aT,he,aQ,cg⟩:=aU;have key:finish .not r eW K=.ok v s'→iE.defers=[]∧∃y,(results fn iE.tmps).run P w'=.ok y w'∧∃x,Ending.returned y=.returned x∧nc κ s w v s' x w':=fun cg=>by refine⟨aQ.defers,?_⟩;obtain⟨y,hG,oY,I⟩:=Dz fF aQ J ac cg;subst oY;refine⟨y,hG,y,rfl,af,he,aQ.Dw,?_⟩;rw[he.aa] at I;exact I
     cases aT with
     |norm=>exact key cg
     |exit i=>cases cg
     |ret=>exact key cg
    |false=>
     rw[J] at h;simp only[co,↓reduceIte] at h;obtain⟨aC,hex,O⟩:=o7 (by simp) _ _ _ h;obtain⟨ag,ar,V,as,ah⟩:=bl.push;have ku:=yO n n;have ap:xs.length=args.length:=u.1;have Q:j1 ag s.push w aC.get {tmps:=xs.toArray++Array.replicate (fn.ntmps-xs.toArray.size) undef,defers:=[]} r.iA G:=by
      refine⟨ar,fun t=>?_,rfl,?_,dL.mono V⟩
      ·rw[O t];split
       ·rename_i cB;have R:t<args.length:=by omega
        have bU:args[t]? =some args[t]:=dM R;have H:xs[t]? =some xs[t]:=dM (by omega);have bG:=u.2 t _ _ bU H;have U:(xs.toArray++Array.replicate (fn.ntmps-xs.toArray.size) undef).getD t undef=xs[t]:=by rw[Array.getD_eq_getD_getElem?,Array.getElem?_append_left (by simp;omega)];simp [H]
        rw[U,Nat.sub_zero,List.getD_eq_getElem?_getD,bU,Option.getD_some,bG.nJ];exact(bG.mono V).up (by rw[aq.lZ];omega)
       ·exact .dead _
      ·simp;omega
     refine calls_of_wp N B (wp_mono (vS hm fF rfl ku r.body c (ae ▸ ad) (by simp) Q hex) fun e iE w' aU=>?_);obtain⟨x,af,K,eW,aT,he,aQ,cg⟩:=aU;have key:finish .not r eW K=.ok v s'→iE.defers=[]∧∃y,(results fn iE.tmps).run P w'=.ok y w'∧∃x,Ending.returned y=.returned x∧nc κ s w v s' x w':=fun cg=>by
      refine⟨aQ.defers,?_⟩;obtain⟨y,au,L,own,hG,oY,I,ai,aj,av,aw,Y⟩:=B2 fF aQ J ac cg;refine⟨y,hG,y,rfl,au,?_,?_,?_⟩
      ·
       have bo:=he.trans av;have M:s'= {own,up:=s'.up,ro:=L.ro}:=by rw[aj];exact I
       have ak:L.up=own::s'.up:=by rw[ai,oY]
       have bI:s'.aa=s.aa:=by
        have aD:=bo.aa;rw[aq.lZ] at aD;have aG:L.aa=s'.aa+1:=by rw[M];simp only[aq.aa,ak,c0];omega
        omega
       have Z:∀b,Live ag s.push b↔Live κ s b:=fun b=>by
        constructor
        ·rintro ⟨d,i,o,g1,g2⟩
         rw[aq.ol] at g1;exact⟨d,i,o,g1,by rw[←ah d i o g1];exact g2⟩
        ·rintro ⟨d,i,o,g1,g2⟩
         exact⟨d,i,o,by rw[aq.ol];exact g1,by rw[ah d i o g1];exact g2⟩
       refine⟨V.trans (bo.k.low (by rw[aq.lZ];omega)),bI,bo.size,bo.os,bo.tape,bo.output,fun b ab br=>bo.ZT b ab (fun ax=>br ((Z b).1 ax)),fun b ab br=>?_,fun a ay=>?_⟩
       ·refine(Z b).1 (bo.live b ab ?_);obtain⟨d,i,o,g1,g2⟩:=br;rw[M] at g1;exact⟨d,i,o,aq.r7 ak g1,g2⟩
       ·rcases bo.C4 a ay with q|q|q
        ·rw[as] at q;exact .inl q
        ·exact .inr (.inl q)
        ·exact .inr (.inr ((Z _).1 q))
      ·have M:s'= {own,up:=s'.up,ro:=L.ro}:=by rw[aj];exact I
       rw[M];exact aw.pop (by rw[ai,oY])
      ·have bI:K.aa=s.aa+1:=by rw[he.aa,aq.lZ]
       rw[bI] at Y;rw[Y.nJ];exact Y
     cases aT with
     |norm=>exact key cg
     |exit i=>cases cg
     |ret=>exact key cg
end
end Go.Ab
end
section
namespace Go.Ab
open Classical
def ai9(a b:ao):Prop:=a=.fail∨a=b
theorem ai9.refl(a:ao):ai9 a a:=.inr rfl
theorem ai9.eq{a b r:ao}(h:ai9 a b)(e:a=r)(aQ:r≠.fail):b=r:=by
 rcases h with h|h
 ·exact absurd (e.symm.trans h) aQ
 ·exact h ▸ e
def hK(a:Nat→ao)(b:ao):Prop:=(∀n,ai9 (a n) b)∧(b≠.fail→∃N,∀n,N≤n→a n=b)
theorem hK.const(a:ao):hK (fun _=>a) a:=⟨fun _=>.refl _,fun _=>⟨0,fun _ _=>rfl⟩⟩
theorem hK.of_eq{a:Nat→ao}{b:ao}(h:∀n,a n=b):hK a b:=⟨fun n=>.inr (h n),fun _=>⟨0,fun n _=>h n⟩⟩
theorem hK.fail:hK (fun _=>.fail) .fail:=.const _
theorem hK.bind{a:Nat→ao}{b:ao}(h:hK a b){k kp:Nat→ai→aq→ao}{l B:ai→aq→ao}(cg:∀v s,hK (fun n=>k n v s) (l v s))(aU:∀v s,hK (fun n=>kp n v s) (B v s)):hK (fun n=>ao.bind (a n) (k n) (kp n)) (ao.bind b l B):=by
 refine⟨fun n=>?_,fun r=>?_⟩
 ·rcases h.1 n with e|e
  ·left;simp only[e];rfl
  ·simp only[e];cases b with
   |fail=>exact .refl _
   |ok v s=>exact(cg v s).1 n
   |panic v s=>exact(aU v s).1 n
 ·cases u:b with
  |fail=>rw[u] at r;exact absurd rfl r
  |ok v s=>rw[u] at r h;obtain⟨N,pE⟩:=h.2 (by simp);obtain⟨M,y⟩:=(cg v s).2 r;exact⟨max N M,fun n bX=>by show ao.bind (a n) _ _=_;rw[pE n (by omega)];exact y n (by omega)⟩
  |panic v s=>rw[u] at r h;obtain⟨N,pE⟩:=h.2 (by simp);obtain⟨M,y⟩:=(aU v s).2 r;exact⟨max N M,fun n bX=>by show ao.bind (a n) _ _=_;rw[pE n (by omega)];exact y n (by omega)⟩
def RS(k:Nat→cP)(l:cP):Prop:=∀x aC s,hK (fun n=>k n x aC s) (l x aC s)
def l2(ez:Nat→nC)(e:nC):Prop:=∀aC s k l,RS k l→hK (fun n=>ez n aC s (k n)) (e aC s l)
def mS(ez:nC):Prop:=∀aC s k l,(∀x aC s,ai9 (k x aC s) (l x aC s))→ai9 (ez aC s k) (ez aC s l)
theorem l2.mono{ez:nC}(h:l2 (fun _=>ez) ez):mS ez:=fun aC s k l cg=>by
 have:=h aC s (fun n=>if n=0 then k else l) l (fun x aC s=>⟨fun n=>by
  simp only;split
  ·exact cg x aC s
  ·exact .refl _,fun _=>⟨1,fun n bX=>by simp [show n≠0 by omega]⟩⟩)
 simpa using this.1 0
def ey.mask:dp→ey→ey
 |.e,_=>.e
 |.n h _ u,.e=>.n (ey.mask h .e) .dead (ey.mask u .e)
 |.n h b u,.n l v r=>.n (ey.mask h l) (bif b then v else .dead) (ey.mask u r)
theorem ir:∀(m:dp) (k:ey→ao) (aC:ey),ey.jZ m k aC=k (ey.mask m aC)
 |.e,k,aC=>by cases aC<;> rfl
 |.n h b u,k,.e=>by simp only[ey.jZ,ey.mask,ir h,ir u]
 |.n h b u,k,.n l v r=>by simp only[ey.jZ,ey.mask,ir h,ir u]
theorem jx(ez:nC)(bf:dp)(n:Nat)(aC:ey)(s:aq)(k:cP):da ez bf (n+1) aC s k=ez aC s (cx bf (da ez bf n) k):=rfl
theorem gC{ez:Nat→nC}{e:nC}(h:l2 ez e){k:Nat→cP}{l:cP}(cg:RS k l)(bf:dp):∀(m:Nat) (aC:ey) (s:aq),hK (fun n=>da (ez n) bf m aC s (k n)) (da e bf m aC s l)
 |0,_,_=>.fail
 |m+1,aC,s=>by
  simp only[jx];refine h _ _ _ _ (fun x aC s=>?_);cases x with
  |norm=>simp only[cx,ir];exact gC h cg bf m _ s
  |_=>exact cg _ _ _
theorem sx{ez:nC}(h:mS ez)(bf:dp)(k:cP):∀(m:Nat) (aC:ey) (s:aq),ai9 (da ez bf m aC s k) (da ez bf (m+1) aC s k)
 |0,_,_=>.inl rfl
 |m+1,aC,s=>by
  rw[jx,jx];refine h _ _ _ _ (fun x aC s=>?_);cases x with
  |norm=>simp only[cx,ir];exact sx h bf k m _ s
  |_=>exact .refl _
theorem jN{ez:nC}(h:mS ez){bf:dp}{k:cP}{m:Nat}{aC:ey}{s:aq}{r:ao}(aQ:r≠.fail)(e:da ez bf m aC s k=r):∀u,m≤u→da ez bf u aC s k=r:=by
 intro u hm
 induction hm with
 |refl=>exact e
 |step _ y=>exact(sx h bf k _ aC s).eq y aQ
noncomputable def bO(ez:nC)(bf:dp)(aC:ey)(s:aq)(k:cP):ao:=if h:∃n,da ez bf n aC s k≠.fail then da ez bf h.choose aC s k else .fail
theorem nd{ez:nC}(h:mS ez){bf:dp}{k:cP}{m:Nat}{aC:ey}{s:aq}{r:ao}(aQ:r≠.fail)(e:da ez bf m aC s k=r):bO ez bf aC s k=r:=by have aT:∃n,da ez bf n aC s k≠.fail:=⟨m,by rw[e];exact aQ⟩;unfold bO;rw[dif_pos aT];have aD:=aT.choose_spec;have aG:=jN h aD rfl (max aT.choose m) (by omega);have bz:=jN h aQ e (max aT.choose m) (by omega);exact aG.symm.trans bz
theorem l3{ez:nC}{bf:dp}{k:cP}{aC:ey}{s:aq}{r:ao}(aQ:r≠.fail)(e:bO ez bf aC s k=r):∃m,da ez bf m aC s k=r:=by
 unfold bO at e;split at e
 ·exact⟨_,e⟩
 ·exact absurd e.symm aQ
def iu(a:Nat→nC→dp→nC)(b:nC→dp→nC):Prop:=∀(ez:Nat→nC) (e:nC) bf aC s k l,(∀n,mS (ez n))→mS e→l2 ez e→RS k l→hK (fun n=>a n (ez n) bf aC s (k n)) (b e bf aC s l)
theorem nM:iu (fun _=>bO) bO:=fun ez r bf aC s k l aD aG bz cz=>by
 refine⟨fun n=>?_,fun h=>?_⟩
 ·by_cases bq:bO (ez n) bf aC s (k n)=.fail
  ·exact .inl bq
  ·obtain⟨m,e⟩:=l3 bq rfl;exact .inr (nd aG bq (((gC bz cz bf m aC s).1 n).eq e bq)).symm
 ·obtain⟨m,e⟩:=l3 h rfl;obtain⟨N,pE⟩:=(gC bz cz bf m aC s).2 (by rw[e];exact h);exact⟨N,fun n bX=>nd (aD n) h ((pE n bX).trans e)⟩
theorem yP:iu (fun n ez bf aC s k=>da ez bf n aC s k) bO:=fun ez r bf aC s k l aD aG bz cz=>by
 refine⟨fun n=>?_,fun h=>?_⟩
 ·by_cases bq:da (ez n) bf n aC s (k n)=.fail
  ·exact .inl bq
  ·exact .inr (nd aG bq (((gC bz cz bf n aC s).1 n).eq rfl bq)).symm
 ·obtain⟨m,e⟩:=l3 h rfl;obtain⟨N,pE⟩:=(gC bz cz bf m aC s).2 (by rw[e];exact h);exact⟨max N m,fun n bX=>jN (aD n) h ((pE n (by omega)).trans e) n (by omega)⟩
theorem B3(m:Nat):iu (fun i ez bf aC s k=>da ez bf (if i=0 then m else m+1) aC s k) (fun ez bf aC s k=>da ez bf (m+1) aC s k):=fun ez h bf aC s k l aD aG bz cz=>by
 refine⟨fun n=>?_,fun e=>?_⟩
 ·simp only;split
  ·by_cases bq:da (ez n) bf m aC s (k n)=.fail
   ·exact .inl bq
   ·exact .inr ((jN aG bq (((gC bz cz bf m aC s).1 n).eq rfl bq) (m+1) (by omega)).symm)
  ·exact(gC bz cz bf (m+1) aC s).1 n
 ·obtain⟨N,pE⟩:=(gC bz cz bf (m+1) aC s).2 e;exact⟨max N 1,fun n bX=>by simp only[show n≠0 by omega,↓reduceIte];exact pE n (by omega)⟩
def gk(G:Nat→ai)(c:Nat→List ai→aq→ao)(l:nC→dp→nC):Env:={F:=.not,aS:=G,call:=c,loop:=l}
section
variable{G:Nat→ai}{c:Nat→Nat→List ai→aq→ao}{cu:Nat→List ai→aq→ao}{l:Nat→nC→dp→nC}{lu:nC→dp→nC}(a9:∀f args s,hK (fun n=>c n f args s) (cu f args s))
include a9
theorem yQ(s:aq)(f:Nat)(args:List ai):hK (fun n=>cV (gk G (c n) (l n)) s .ok .panic f args) (cV (gk G cu lu) s .ok .panic f args):=by
 have e:∀E:Env,cV E s .ok .panic f args=ao.bind (E.call f args s) (fun v s'=>bif Nat.beq s'.aa s.aa then .ok v s' else .fail) .panic:=fun E=>by unfold cV;cases E.call f args s<;> rfl
 simp only[e];exact(a9 f args s).bind (fun _ _=>.const _) (fun _ _=>.const _)
theorem vT(s:aq)(f:Nat)(args:List ai):hK (fun n=>hD (gk G (c n) (l n)) s .ok f args) (hD (gk G cu lu) s .ok f args):=by
 have e:∀E:Env,hD E s .ok f args=bif ai.bj args then ao.bind (E.call f args {own:=[],up:=[],ro:=[]}) (fun v _=>bif v.bp then .ok v s else .fail) (fun _ _=>.fail) else .fail:=fun E=>by
  unfold hD;cases ai.bj args<;> try rfl
  cases E.call f args _<;> rfl
 simp only[e];cases ai.bj args
 ·exact .fail
 ·exact(a9 f args _).bind (fun _ _=>.const _) (fun _ _=>.const _)
theorem vU(s:aq)(xs:List (Option Nat×ai))(f:Nat)(args:List ai):hK (fun n=>hC (gk G (c n) (l n)) s .ok .panic xs f args) (hC (gk G cu lu) s .ok .panic xs f args):=by
 have e:∀E:Env,hC E s .ok .panic xs f args=ao.bind (E.call f args s) (fun v s'=>bif Nat.beq s'.aa s.aa then(bif xs.all fun x=>nX (dH s x.1 x.2) (dH s' x.1 x.2) then .ok v s' else .fail) else .fail) .panic:=fun E=>by unfold hC cV;cases E.call f args s<;> rfl
 simp only[e];exact(a9 f args s).bind (fun _ _=>.const _) (fun _ _=>.const _)
theorem Ga(aC:Nat→ai)(s:aq)(op:gx):hK (fun n=>bB (gk G (c n) (l n)) aC s .ok .panic op) (bB (gk G cu lu) aC s .ok .panic op):=by
 cases op with
 |call f args=>show hK (fun n=>cV (gk G (c n) (l n)) s .ok .panic f (args.map fun x=>(aL G aC x).ak s.aa)) (cV (gk G cu lu) s .ok .panic f (args.map fun x=>(aL G aC x).ak s.aa));exact yQ a9 s f _
 |jk ia f args=>show hK (fun n=>hC (gk G (c n) (l n)) s .ok .panic (ia.map fun x=>(x.1,aL G aC x.2)) f (args.map fun x=>(aL G aC x).ak s.aa)) (hC (gk G cu lu) s .ok .panic (ia.map fun x=>(x.1,aL G aC x.2)) f (args.map fun x=>(aL G aC x).ak s.aa));exact vU a9 s _ f _
 |jI ia f args=>
  show hK (fun n=>kY (gk G (c n) (l n)) s .ok .panic (ia.map fun x=>(x.1,aL G aC x.2)) (aL G aC f) (args.map fun x=>(aL G aC x).ak s.aa)) (kY (gk G cu lu) s .ok .panic (ia.map fun x=>(x.1,aL G aC x.2)) (aL G aC f) (args.map fun x=>(aL G aC x).ak s.aa));cases aL G aC f with
  |fn g ep=>exact vU a9 s _ g _
  |_=>exact .fail
 |gR f args=>show hK (fun n=>hD (gk G (c n) (l n)) s .ok f (args.map fun x=>(aL G aC x).ak s.aa)) (hD (gk G cu lu) s .ok f (args.map fun x=>(aL G aC x).ak s.aa));exact vT a9 s f _
 |cV f args=>
  show hK (fun n=>lK (gk G (c n) (l n)) s .ok .panic (aL G aC f) (args.map fun x=>(aL G aC x).ak s.aa)) (lK (gk G cu lu) s .ok .panic (aL G aC f) (args.map fun x=>(aL G aC x).ak s.aa));cases aL G aC f with
  |fn g ep=>exact yQ a9 s g _
  |_=>exact .fail
 |mo f args=>
  show hK (fun n=>kc (gk G (c n) (l n)) s .ok (aL G aC f) (args.map fun x=>(aL G aC x).ak s.aa)) (kc (gk G cu lu) s .ok (aL G aC f) (args.map fun x=>(aL G aC x).ak s.aa));cases aL G aC f with
  |fn g ep=>exact vT a9 s g _
  |_=>exact .fail
 |_=>exact .of_eq (fun n=>rfl)
theorem DA(aC:Nat→ai)(s:aq)(op:gx){k kp:Nat→ai→aq→ao}{m mp:ai→aq→ao}(cg:∀v s,hK (fun n=>k n v s) (m v s))(aU:∀v s,hK (fun n=>kp n v s) (mp v s)):
  hK (fun n=>bB (gk G (c n) (l n)) aC s (k n) (kp n) op) (bB (gk G cu lu) aC s m mp op):=by
 have e:∀n,bB (gk G (c n) (l n)) aC s (k n) (kp n) op=ao.bind (bB (gk G (c n) (l n)) aC s .ok .panic op) (k n) (kp n):=fun n=>jM rfl _ _ _ _ _
 rw[jM (E:=gk G cu lu) rfl];simp only[e];exact(Ga a9 aC s op).bind cg aU
theorem mT:∀(d i:Nat) (v:ai) {k:Nat→ey→ao} {m:ey→ao} (_:∀aC,hK (fun n=>k n aC) (m aC)) (aC:ey),hK (fun n=>aC.jj d i v (k n)) (aC.jj d i v m)
 |0,_,_,_,_,_,_=>.fail
 |d+1,i,v,k,m,h,.e=>by
  simp only[ey.jj];cases Nat.beq i 0 with
  |true=>exact h _
  |false=>
   cases Nat.beq (i%2) 1 with
   |true=>exact mT d _ v (fun l=>h _) _
   |false=>exact mT d _ v (fun l=>h _) _
 |d+1,i,v,k,m,h,.n a x b=>by
  simp only[ey.jj];cases Nat.beq i 0 with
  |true=>exact h _
  |false=>
   cases Nat.beq (i%2) 1 with
   |true=>exact mT d _ v (fun l=>h _) _
   |false=>exact mT d _ v (fun l=>h _) _
theorem Cp(dst:Option Nat)(v:ai){k:Nat→ey→ao}{m:ey→ao}(h:∀aC,hK (fun n=>k n aC) (m aC))(aC:ey):hK (fun n=>kW aC dst v (k n)) (kW aC dst v m):=by
 cases dst with
 |none=>exact h aC
 |some i=>exact mT a9 12 i v h aC
theorem nN:∀(os:List cN) (aC:ey) (s:aq) {k:Nat→ey→aq→ao} {m:ey→aq→ao} {kp:Nat→ai→ey→aq→ao} {mp:ai→ey→aq→ao} (_:∀aC s,hK (fun n=>k n aC s) (m aC s)) (_:∀v aC s,hK (fun n=>kp n v aC s) (mp v aC s)),
  hK (fun n=>fe (gk G (c n) (l n)) os aC s (k n) (kp n)) (fe (gk G cu lu) os aC s m mp)
 |[],aC,s,k,m,kp,mp,h,aU=>h aC s
 |o::os,aC,s,k,m,kp,mp,h,aU=>by
  simp only[fe];have key:∀w:Bool,hK (fun n=>bif w then bB (gk G (c n) (l n)) aC.get s (fun v s=>kW aC o.dst v fun aC=>fe (gk G (c n) (l n)) os aC s (k n) (kp n)) (fun v s=>kp n v aC s) o.op else kW aC o.dst (.cT []) fun aC=>fe (gk G (c n) (l n)) os aC s (k n) (kp n))
    (bif w then bB (gk G cu lu) aC.get s (fun v s=>kW aC o.dst v fun aC=>fe (gk G cu lu) os aC s m mp) (fun v s=>mp v aC s) o.op else kW aC o.dst (.cT []) fun aC=>fe (gk G cu lu) os aC s m mp):=fun w=>by
   cases w with
   |true=>exact DA a9 aC.get s o.op (fun v s=>Cp a9 o.dst v (fun aC=>nN os aC s h aU) aC) (fun v s=>aU v aC s)
   |false=>exact Cp a9 o.dst _ (fun aC=>nN os aC s h aU) aC
  unfold m2;split
  ·exact key _
  ·split
   ·exact key _
   ·exact key _
   ·exact .fail
variable(br:iu l lu)(hm:∀n,iu (fun _=>l n) (l n))(kw:iu (fun _=>lu) lu)
include br hm kw
theorem yR:∀(code:ad),l2 (fun n=>exec (gk G (c n) (l n)) code) (exec (gk G cu lu) code)∧(∀n,l2 (fun _=>exec (gk G (c n) (l n)) code) (exec (gk G (c n) (l n)) code))∧l2 (fun _=>exec (gk G cu lu) code) (exec (gk G cu lu) code):=by
 have h:∀(code:ad) (c:Nat→Nat→List ai→aq→ao) (cu:Nat→List ai→aq→ao) (l:Nat→nC→dp→nC) (lu:nC→dp→nC),(∀f args s,hK (fun n=>c n f args s) (cu f args s))→iu l lu→(∀n,iu (fun _=>l n) (l n))→iu (fun _=>lu) lu→l2 (fun n=>exec (gk G (c n) (l n)) code) (exec (gk G cu lu) code):=by
  intro code
  induction code with
  |skip=>intro c cu l lu a9 br hm kw aC s k m cg;exact cg _ _ _
  |region nW ops=>
   intro c cu l lu a9 br hm kw aC s k m cg;cases nW with
   |none=>exact nN a9 ops aC s (fun aC s=>cg _ _ _) (fun v aC s=>.fail)
   |some nW=>
    simp only[exec];show hK (fun n=>bif nW.all (rX G aC.get) then _ else _) (bif nW.all (rX G aC.get) then _ else _);cases nW.all (rX G aC.get)
    ·exact .fail
    ·exact nN a9 ops aC s (fun aC s=>cg _ _ _) (fun v aC s=>.fail)
  |seq a b r u=>
   intro c cu l lu a9 br hm kw aC s k m cg;simp only[exec];refine r c cu l lu a9 br hm kw aC s _ _ (fun x aC s=>?_);cases x with
   |norm=>exact u c cu l lu a9 br hm kw aC s k m cg
   |_=>exact cg _ _ _
  |cond x a b r u=>
   intro c cu l lu a9 br hm kw aC s k m cg;simp only[exec];show hK (fun n=>match aL G aC.get x with |.bool t=>bif t then exec (gk G (c n) (l n)) a aC s (k n) else exec (gk G (c n) (l n)) b aC s (k n)|_=>.fail) (match aL G aC.get x with |.bool t=>bif t then exec (gk G cu lu) a aC s m else exec (gk G cu lu) b aC s m|_=>.fail);cases aL G aC.get x with
   |bool t=>cases t with
    |true=>exact r c cu l lu a9 br hm kw aC s k m cg
    |false=>exact u c cu l lu a9 br hm kw aC s k m cg
   |_=>exact .fail
  |mask y a e=>intro c cu l lu a9 br hm kw aC s k m cg;simp only[exec,ir];exact e c cu l lu a9 br hm kw _ s k m cg
  |block id a e=>
   intro c cu l lu a9 br hm kw aC s k m cg;simp only[exec];refine e c cu l lu a9 br hm kw aC s _ _ (fun x aC s=>?_);cases x with
   |exit j=>
    simp only[bw];cases Nat.beq j id
    ·exact cg _ _ _
    ·exact cg _ _ _
   |_=>exact cg _ _ _
  |loop bf a e=>
   intro c cu l lu a9 br hm kw aC s k m cg;simp only[exec,ir];refine br _ _ bf _ s k m (fun n=>?_) ?_ (e c cu l lu a9 br hm kw) cg
   ·exact(e (fun _=>c n) (c n) (fun _=>l n) (l n) (fun _ _ _=>.const _) (hm n) (fun _=>hm n) (hm n)).mono
   ·exact(e (fun _=>cu) cu (fun _=>lu) lu (fun _ _ _=>.const _) kw (fun _=>kw) kw).mono
  |exit id=>intro c cu l lu a9 br hm kw aC s k m cg;exact cg _ _ _
  |scope a e=>intro c cu l lu a9 br hm kw aC s k m cg;simp only[exec];exact e c cu l lu a9 br hm kw aC s k m cg
  |ret=>intro c cu l lu a9 br hm kw aC s k m cg;exact cg _ _ _
 intro code;exact⟨h code c cu l lu a9 br hm kw,fun n=>h code (fun _=>c n) (c n) (fun _=>l n) (l n) (fun _ _ _=>.const _) (hm n) (fun _=>hm n) (hm n),h code (fun _=>cu) cu (fun _=>lu) lu (fun _ _ _=>.const _) kw (fun _=>kw) kw⟩
end
theorem mf(m:Nat):iu (fun _ ez bf aC s k=>da ez bf m aC s k) (fun ez bf aC s k=>da ez bf m aC s k):=fun _ _ bf aC s _ _ _ _ bz cz=>gC bz cz bf m aC s
theorem sy:∀(vs:List ai) (i:Nat) (aC:ey) {k:Nat→ey→ao} {m:ey→ao} (_:∀aC,hK (fun n=>k n aC) (m aC)),hK (fun n=>aV vs i aC (k n)) (aV vs i aC m)
 |[],_,aC,_,_,h=>h aC
 |v::vs,i,aC,k,m,h=>mT (c:=fun _ _ _ _=>.fail) (cu:=fun _ _ _=>.fail) (fun _ _ _=>.fail) 12 i v (fun aC=>sy vs (i+1) aC h) aC
def body(T:Nat→Option bY)(G:Nat→ai)(X:Nat→List ai→aq→ao)(c:Nat→List ai→aq→ao)(l:nC→dp→nC)(f:Nat)(args:List ai)(s:aq):ao:=
 match T f with
 |none=>X f args s
 |some fn=>
  bif Nat.beq args.length fn.avv then
   aV args 0 .e fun aC=>exec (gk G c l) fn.body aC (if fn.bf then s else {own:=[],up:=s.own::s.up,ro:=s.ro}) (abi .not fn)
  else .fail
theorem Cq{T:Nat→Option bY}{G:Nat→ai}{X:Nat→List ai→aq→ao}{c:Nat→Nat→List ai→aq→ao}{cu:Nat→List ai→aq→ao}{l:Nat→nC→dp→nC}{lu:nC→dp→nC}(a9:∀f args s,hK (fun n=>c n f args s) (cu f args s))(br:iu l lu)(hm:∀n,iu (fun _=>l n) (l n))(kw:iu (fun _=>lu) lu)(f:Nat)(args:List ai)(s:aq):
  hK (fun n=>body T G X (c n) (l n) f args s) (body T G X cu lu f args s):=by
 unfold body;cases T f with
 |none=>exact .const _
 |some fn=>
  simp only;cases Nat.beq args.length fn.avv with
  |false=>exact .fail
  |true=>simp only[cb];refine sy args 0 .e (fun aC=>(yR a9 br hm kw fn.body).1 aC _ _ _ (fun x aC s=>?_));cases x<;> exact .const _
theorem o8(T:Nat→Option bY)(G:Nat→ai)(X:Nat→List ai→aq→ao)(n f:Nat)(args:List ai)(s:aq):call .not T G X (n+1) f args s=body T G X (call .not T G X n) (fun ez bf aC s k=>da ez bf n aC s k) f args s:=rfl
section
variable(T:Nat→Option bY)(G:Nat→ai)(X:Nat→List ai→aq→ao)
theorem Gb:∀(n f:Nat) (args:List ai) (s:aq),ai9 (call .not T G X n f args s) (call .not T G X (n+1) f args s)
 |0,f,args,s=>.inl rfl
 |n+1,f,args,s=>by
  have h:=Cq (T:=T) (G:=G) (X:=X) (c:=fun i=>call .not T G X (if i=0 then n else n+1)) (cu:=call .not T G X (n+1)) (fun f args s=>⟨fun i=>by
    simp only;split
    ·exact Gb n f args s
    ·exact .refl _,fun _=>⟨1,fun i bk=>by simp [show i≠0 by omega]⟩⟩) (B3 n) (fun i=>by by_cases bk:i=0<;> simp only[bk,↓reduceIte]<;> exact mf _) (mf (n+1)) f args s
  have:=h.1 0;simp only[↓reduceIte] at this;rw[o8,o8];exact this
theorem sA{n f:Nat}{args:List ai}{s:aq}{r:ao}(aQ:r≠.fail)(e:call .not T G X n f args s=r):∀m,n≤m→call .not T G X m f args s=r:=by
 intro m hm
 induction hm with
 |refl=>exact e
 |step _ h=>exact(Gb T G X _ f args s).eq h aQ
noncomputable def az(f:Nat)(args:List ai)(s:aq):ao:=if h:∃n,call .not T G X n f args s≠.fail then call .not T G X h.choose f args s else .fail
theorem lC{n f:Nat}{args:List ai}{s:aq}{r:ao}(aQ:r≠.fail)(e:call .not T G X n f args s=r):az T G X f args s=r:=by have aT:∃n,call .not T G X n f args s≠.fail:=⟨n,by rw[e];exact aQ⟩;unfold az;rw[dif_pos aT];have aD:=aT.choose_spec;exact(sA T G X aD rfl (max aT.choose n) (by omega)).symm.trans (sA T G X aQ e (max aT.choose n) (by omega))
theorem pT{f:Nat}{args:List ai}{s:aq}{r:ao}(aQ:r≠.fail)(e:az T G X f args s=r):∃n,call .not T G X n f args s=r:=by
 unfold az at e;split at e
 ·exact⟨_,e⟩
 ·exact absurd e.symm aQ
theorem Gc(f:Nat)(args:List ai)(s:aq):hK (fun n=>call .not T G X n f args s) (az T G X f args s):=by
 refine⟨fun n=>?_,fun h=>?_⟩
 ·by_cases bq:call .not T G X n f args s=.fail
  ·exact .inl bq
  ·exact .inr (lC T G X bq rfl).symm
 ·obtain⟨n,e⟩:=pT T G X h rfl;exact⟨n,fun m hm=>sA T G X h e m hm⟩
theorem DB(f:Nat)(args:List ai)(s:aq):az T G X f args s=body T G X (az T G X) bO f args s:=by
 have h:=Cq (T:=T) (G:=G) (X:=X) (Gc T G X) yP (fun n=>mf n) nM f args s;by_cases bq:body T G X (az T G X) bO f args s=.fail
 ·rw[bq];by_cases a9:az T G X f args s=.fail
  ·exact a9
  ·obtain⟨n,e⟩:=pT T G X a9 rfl
   have:=sA T G X a9 e (n+1) (by omega);rw[o8] at this;exact absurd ((h.1 n).eq this a9) (by rw[bq];exact fun q=>a9 q.symm)
 ·obtain⟨N,pE⟩:=h.2 bq;have e:=(o8 T G X N f args s).trans (pE N (aX _));exact lC T G X bq e
end
theorem DC{G:Nat→ai}{cu:Nat→List ai→aq→ao}(code:ad)(bf:dp)(aC:ey)(s:aq)(k:cP):bO (exec (gk G cu bO) code) bf aC s k=exec (gk G cu bO) code aC s (cx bf (bO (exec (gk G cu bO) code) bf) k):=by
 have u:=(yR (G:=G) (c:=fun _=>cu) (cu:=cu) (l:=fun _=>bO) (lu:=bO) (fun _ _ _=>.const _) nM (fun _=>nM) nM code).1;have r:=u.mono;have cg:RS (fun n=>cx bf (da (exec (gk G cu bO) code) bf n) k) (cx bf (bO (exec (gk G cu bO) code) bf) k):=fun x aC s=>by
  cases x with
  |norm=>
   simp only[cx,ir];generalize ey.mask bf aC=aC;refine⟨fun n=>?_,fun y=>?_⟩
   ·by_cases bq:da (exec (gk G cu bO) code) bf n aC s k=.fail
    ·exact .inl bq
    ·exact .inr (nd r bq rfl).symm
   ·obtain⟨n,e⟩:=l3 y rfl;exact⟨n,fun m hm=>jN r y e m hm⟩
  |_=>exact .const _
 have h:=u aC s _ _ cg;generalize B:exec (gk G cu bO) code aC s (cx bf (bO (exec (gk G cu bO) code) bf) k)=R at h ⊢;by_cases bq:R=.fail
 ·rw[bq];by_cases a9:bO (exec (gk G cu bO) code) bf aC s k=.fail
  ·exact a9
  ·obtain⟨n,e⟩:=l3 a9 rfl
   have:=(jx _ _ _ _ _ _).symm.trans (jN r a9 e (n+1) (by omega));exact absurd ((h.1 n).eq this a9) (by rw[bq];exact fun q=>a9 q.symm)
 ·obtain⟨N,pE⟩:=h.2 bq;exact nd r bq ((jx _ _ _ _ _ _).trans (pE N (aX _)))
end Go.Ab
end
section
namespace Go.Ab
def aja(x:ai)(s:aq)(k:ai→aq→ao):ao:=bif x.fo then k (.bM (x.ak s.aa).cells) s else .fail
def yS(x:ai)(s:aq)(k:ai→aq→ao):ao:=bif x.fo then k (.ref (.l s.own.length) 0) (s.new (.cells (x.ak s.aa).cells)) else .fail
def DD(d:Nat):List ai→List (Nat×Nat×ai)→Option (List ai)
 |cs,[]=>some cs
 |cs,(off,sz,x)::fk=>
  let v:=x.ak d
  bif v.fo&&Nat.beq v.cells.length sz&&Nat.ble (off+sz) cs.length then DD d (dq cs off v.cells) fk else none
def RT(zero:List ai)(fk:List (Nat×Nat×ai))(s:aq)(k:ai→aq→ao):ao:=
 match (DD s.aa zero fk).map .agg with
 |some v=>k v s
 |none=>.fail
def pB(o:Option ai)(d:Nat):Option Nat:=
 match o with
 |none=>some d
 |some x=>eE x
def hSub(x:ai)(eQ bk:Option ai)(s:aq)(k:ai→aq→ao):ao:=
 match x with
 |.str eB=>
  match pB eQ 0,pB bk eB.length with
  |some l,some h=>bif Nat.ble l h&&Nat.ble h eB.length then k (.str ((eB.drop l).take (h-l))) s else .fail
  |_,_=>.fail
 |_=>.fail
def lM(z:Nat)(x:ai)(eQ bk iU:Option ai)(s:aq)(k:ai→aq→ao):ao:=
 match x with
 |.aW sz es g=>
  match pB eQ 0,pB bk es.length with
  |some l,some h=>
   match iU with
   |none=>
    bif Nat.beq z sz&&Nat.ble l h&&Nat.ble h es.length&&qC g l h es then
     k (.aW sz ((es.drop l).take (h-l)) (match g with
      |.nil=>.nil
      |.exact=>if h=es.length then .exact else .any
      |.bQ a=>if l=0∧h=es.length then .bQ a else .any
      |.any=>.any)) s
    else .fail
   |some x=>
    match eE x,g with
    |_,.nil=>.fail
    |some m,_=>bif Nat.beq z sz&&Nat.ble l h&&Nat.ble h m&&Nat.ble m es.length&&pH g es then k (.aW sz ((es.drop l).take (h-l)) (if h=m then .exact else .any)) s else .fail
    |_,_=>.fail
  |_,_=>.fail
 |.cw a off len cap sz=>
  match pB eQ 0,pB bk len,pB iU cap with
  |some l,some h,some m=>bif Nat.beq z sz&&Nat.ble l h&&Nat.ble h m&&Nat.ble m cap&&Nat.ble len cap then k (.cw a (if m=l then off else off+l*sz) (h-l) (m-l) sz) s else .fail
  |_,_,_=>.fail
 |_=>.fail
def Gd(z n:Nat)(x:ai)(eQ bk iU:Option ai)(s:aq)(k:ai→aq→ao):ao:=
 match x with
 |.ref a off=>
  match pB eQ 0,pB bk n,pB iU n with
  |some l,some h,some m=>bif Nat.ble l h&&Nat.ble h m&&Nat.ble m n then k (.cw a (if m=l then off else off+l*z) (h-l) (m-l) z) s else .fail
  |_,_,_=>.fail
 |_=>.fail
def B4(v:ai):Option Loc:=
 match v with
 |.ref a _=>some a
 |.map a=>some a
 |_=>none
def DE(v:ai)(want:Bool)(op:(ai→aq→ao)→ao)(s:aq)(k:ai→aq→ao):ao:=
 match v with
 |.bool b=>bif b==want then op k else k (.cT []) s
 |.cT _=>k (.cT []) s
 |_=>.fail
def aqX(v:ai)(a b:ao):ao:=
 match v with
 |.bool t=>bif t then a else b
 |_=>.fail
def eF(s:aq)(v:ai)(n:Option Nat):Option ai:=
 match v with
 |.ref a off=>
  match s.get a,n with
  |some (.cells cs),none=>cs[off]?
  |some (.cells cs),some n=>if Nat.ble (off+n) cs.length then some (.agg ((cs.drop off).take n)) else none
  |_,_=>none
 |_=>none
def oy(bf:Bool)(e:List (Option ai))(s:aq):ao:=
 match ha (fun x=>x) e with
 |some vs=>
  bif bf then .ok (q7 (vs.map (ai.ak s.aa))) s
  else
   match ha (freeze s) vs with
   |some vs=>
    match s.up with
    |own::up=>.ok (q7 vs) {own,up,ro:=s.ro}
    |[]=>.fail
   |none=>.fail
 |none=>.fail
def aq.af(s:aq):aq:={own:=[],up:=s.own::s.up,ro:=s.ro}
abbrev a1:=ai→aq→ao
structure oz where
 bK:Nat→ai
 a0:nC→dp→nC
 aw:dp→ad→nC
 aB:Bool→List (Option ai)→aq→ao
 eX:ai→aq→a1→ao
 a2:aq→a1→ai→ai→ai→ao
 dn:ai→aq→a1→ao
 hO:ai→aq→a1→ao
 cH:List ai→List (Nat×Nat×ai)→aq→a1→ao
 av:aq→a1→Nat→List ai→ao
 Ge:aq→a1→ai→ao
 aj:aq→a1→Option Nat→ai→ao
 a6:aq→a1→Nat→ai→ai→ao
 aE:aq→a1→ai→ao
 ah:aq→a1→Option ai→ao
 bm:aq→a1→IntKind→ai→ao
 Cr:aq→a1→ai→ao
 kh:aq→a1→ai→ao
 lN:aq→a1→ai→ao
 jf:aq→a1→List ai→Nat→ai→ai→ao
 nf:ai→Option ai→Option ai→aq→a1→ao
 jy:Nat→ai→Option ai→Option ai→Option ai→aq→a1→ao
 ag:aq→a1→Nat→ai→ao
 Gf:aq→a1→Nat→Option Nat→ai→ao
 aZ:aq→a1→Nat→ai→ai→ao
 iv:aq→a1→Nat→Nat→ai→ai→ao
 db:aq→a1→ai→ai→ao
 Cs:aq→a1→Nat→Nat→Option Nat→ai→ai→ao
 bh:aq→a1→Nat→ai→ao
 ar:aq→a1→Nat→List ai→ao
 iQ:aq→a1→ai→List ai→ao
 iR:aq→a1→Nat→List ai→ao
 Ct:aq→a1→ai→List ai→ao
 ki:aq→a1→List (Option Nat×ai)→Nat→List ai→ao
 oA:aq→a1→List (Option Nat×ai)→ai→List ai→ao
 aY:aq→a1→Bool→ai→ao
 cn:aq→a1→Nat→Nat→Option Loc→ai→ai→ao
 yT:aq→a1→Nat→Nat→Option Loc→ai→ai→ao
 yU:aq→a1→Nat→Nat→Option Loc→ai→ai→ao
 pU:aq→a1→Nat→List ai→ao
 jz:aq→a1→Nat→Nat→ai→ai→ao
 Cu:Nat→Nat→ai→Option ai→Option ai→Option ai→aq→a1→ao
 sB:aq→a1→Nat→ai→ai→ao
 sC:aq→a1→(ai→ai→Option ai)→List ai→ao
 o9:aq→a1→Option Loc→ao
 kK:aq→a1→Bk→ai→ai→ai→ao
 lD:aq→a1→Bk→ai→Bool→ai→ai→ao
 ae:ai→Bool→(a1→ao)→aq→a1→ao
 ay:ai→ao→ao→ao
def mC(G:Nat→ai)(aC:Nat→ai):Option bR→Option ai
 |none=>none
 |some x=>some (aL G aC x)
def DF(G:Nat→ai)(aC:Nat→ai):Option bR→Option Loc
 |none=>some (.l 0)
 |some x=>B4 (aL G aC x)
def partsOf(G:Nat→ai)(aC:Nat→ai):List (Nat×Nat×bR)→List (Nat×Nat×ai)
 |[]=>[]
 |(off,sz,x)::fk=>(off,sz,aL G aC x)::partsOf G aC fk
def rD(P:oz)(aC:Nat→ai)(s:aq)(k:a1)(op:gx):ao:=
 match op with
 |.move x=>k (aL P.bK aC x) s
 |.pick c a b=>P.a2 s k (aL P.bK aC c) (aL P.bK aC a) (aL P.bK aC b)
 |.alloc zero=>P.eX (.ref (.l s.own.length) 0) (s.new (.cells zero)) k
 |.dz x=>P.dn (aL P.bK aC x) s k
 |.hA x=>P.hO (aL P.bK aC x) s k
 |.build zero parts=>P.cH zero (partsOf P.bK aC parts) s k
 |.buildSlice sz parts=>P.av s k sz (parts.map (aL P.bK aC))
 |.pF x=>P.Ge s k (aL P.bK aC x)
 |.load n a=>P.aj s k n (aL P.bK aC a)
 |.store n a v=>P.a6 s k n (aL P.bK aC a) ((aL P.bK aC v).ak s.aa)
 |.nilCheck x=>P.aE s k (aL P.bK aC x)
 |.bin op x y=>P.ah s k (al op (aL P.bK aC x) (aL P.bK aC y))
 |.eq neg e x y=>P.ah s k ((pA e (aL P.bK aC x) (aL P.bK aC y)).map fun b=>.bool (bif neg then !b else b))
 |.un op x=>P.ah s k (iN op (aL P.bK aC x))
 |.lX d x=>P.bm s k d (aL P.bK aC x)
 |.oT x=>P.Cr s k (aL P.bK aC x)
 |.fM x=>P.kh s k (aL P.bK aC x)
 |.hQ x=>P.lN s k (aL P.bK aC x)
 |.dA t x=>P.eX (.iface t ((aL P.bK aC x).ak s.aa)) s k
 |.hB f ep=>P.eX (.fn f (ep.map fun x=>(aL P.bK aC x).ak s.aa)) s k
 |.makeSlice zero bytes l c=>P.jf s k zero bytes (aL P.bK aC l) (aL P.bK aC c)
 |.fV x eQ bk=>P.nf (aL P.bK aC x) (mC P.bK aC eQ) (mC P.bK aC bk) s k
 |.slice z x eQ bk iU=>P.jy z (aL P.bK aC x) (mC P.bK aC eQ) (mC P.bK aC bk) (mC P.bK aC iU) s k
 |.fieldAddr off a=>P.ag s k off (aL P.bK aC a)
 |.field off n x=>P.Gf s k off n (aL P.bK aC x)
 |.fy sz x i=>P.aZ s k sz (aL P.bK aC x) (aL P.bK aC i)
 |.fW sz len x i=>P.iv s k sz len (aL P.bK aC x) (aL P.bK aC i)
 |.cZ x i=>P.db s k (aL P.bK aC x) (aL P.bK aC i)
 |.oU sz len n x i=>P.Cs s k sz len n (aL P.bK aC x) (aL P.bK aC i)
 |.extract x i=>P.bh s k i (aL P.bK aC x)
 |.call f args=>P.ar s k f (args.map fun x=>(aL P.bK aC x).ak s.aa)
 |.cV f args=>P.iQ s k (aL P.bK aC f) (args.map fun x=>(aL P.bK aC x).ak s.aa)
 |.gR f args=>P.iR s k f (args.map fun x=>(aL P.bK aC x).ak s.aa)
 |.mo f args=>P.Ct s k (aL P.bK aC f) (args.map fun x=>(aL P.bK aC x).ak s.aa)
 |.jk ia f args=>P.ki s k (ia.map fun x=>(x.1,aL P.bK aC x.2)) f (args.map fun x=>(aL P.bK aC x).ak s.aa)
 |.jI ia f args=>P.oA s k (ia.map fun x=>(x.1,aL P.bK aC x.2)) (aL P.bK aC f) (args.map fun x=>(aL P.bK aC x).ak s.aa)
 |.len b x=>P.aY s k b (aL P.bK aC x)
 |.append q bytes b x y=>P.cn s k q bytes (DF P.bK aC b) (aL P.bK aC x) (aL P.bK aC y)
 |.kV q bytes b x y=>P.yU s k q bytes (DF P.bK aC b) (aL P.bK aC x) (aL P.bK aC y)
 |.g3 sz parts=>P.pU s k sz (parts.map fun x=>(aL P.bK aC x).ak s.aa)
 |.iL q bytes x y=>P.jz s k q bytes (aL P.bK aC x) (aL P.bK aC y)
 |.j8 q bytes b x y=>P.yT s k q bytes (DF P.bK aC b) (aL P.bK aC x) (aL P.bK aC y)
 |.jd z n x eQ bk iU=>P.Cu z n (aL P.bK aC x) (mC P.bK aC eQ) (mC P.bK aC bk) (mC P.bK aC iU) s k
 |.copy q d x=>P.sB s k q (aL P.bK aC d) (aL P.bK aC x)
 |.min xs=>P.sC s k min2 (xs.map fun x=>(aL P.bK aC x).ak s.aa)
 |.max xs=>P.sC s k max2 (xs.map fun x=>(aL P.bK aC x).ak s.aa)
 |.makeMap b=>P.o9 s k (DF P.bK aC b)
 |.kn lk m x v=>P.kK s k lk (aL P.bK aC m) ((aL P.bK aC x).ak s.aa) ((aL P.bK aC v).ak s.aa)
 |.lookup lk zero ok m x=>P.lD s k lk zero ok (aL P.bK aC m) ((aL P.bK aC x).ak s.aa)
 |.rU neg x=>P.ah s k (uQ neg (aL P.bK aC x))
 |.no=>.fail
def ng(P:oz):List cN→ey→aq→(ey→aq→ao)→ao
 |[],aC,s,fin=>fin aC s
 |o::os,aC,s,fin=>
  match o.guard with
  |none=>rD P aC.get s (fun v s=>kW aC o.dst v fun aC=>ng P os aC s fin) o.op
  |some (t,want)=>P.ae (aC.get t) want (fun k=>rD P aC.get s k o.op) s (fun v s=>kW aC o.dst v fun aC=>ng P os aC s fin)
def ax(P:oz):ad→nC
 |.skip,aC,s,k=>k .norm aC s
 |.region none ops,aC,s,k=>ng P ops aC s (fun aC s=>k .norm aC s)
 |.region (some []) ops,aC,s,k=>ng P ops aC s (fun aC s=>k .norm aC s)
 |.region (some (_::_)) _,_,_,_=>.fail
 |.seq a b,aC,s,k=>ax P a aC s (cW (ax P b) k)
 |.mask m a,aC,s,k=>P.aw m a (ey.mask m aC) s k
 |.cond c a b,aC,s,k=>P.ay (aL P.bK aC.get c) (ax P a aC s k) (ax P b aC s k)
 |.block id c,aC,s,k=>ax P c aC s (bw id k)
 |.loop bf c,aC,s,k=>P.a0 (ax P c) bf (ey.mask bf aC) s k
 |.exit id,aC,s,k=>k (.exit id) aC s
 |.scope c,aC,s,k=>ax P c aC s k
 |.ret,aC,s,k=>k .ret aC s
def RU(aC:ey)(s:aq):vA→Option ai
 |.t n=>some (aC.get n)
 |.cell a n=>eF s (aC.get a) n
def aJ(P:oz)(fn:bY):cP:=fun x aC s=>
 match x with
 |.norm=>P.aB fn.bf (fn.results.map (RU aC s)) s
 |.ret=>P.aB fn.bf (fn.results.map (RU aC s)) s
 |_=>.fail
def lE:ad→Bool
 |.region (some (_::_)) _=>false
 |.seq a b|.cond _ a b=>lE a&&lE b
 |.mask _ a|.block _ a|.loop _ a|.scope a=>lE a
 |_=>true
noncomputable def nh(G:Nat→ai)(c:Nat→List ai→aq→ao):oz where
 bK:=G
 a0:=bO
 aw:=fun _ a aC s k=>exec (gk G c bO) a aC s k
 aB:=oy
 eX:=fun v s k=>k v s
 a2:=fun s k og a b=>pI (gk G c bO) s k og a b
 dn:=aja
 hO:=yS
 cH:=RT
 av:=fun s k sz es=>hT (gk G c bO) s k sz es
 Ge:=fun s k v=>nG (gk G c bO) s k v
 aj:=fun s k n v=>fq (gk G c bO) s k n v
 a6:=fun s k n a v=>hp (gk G c bO) s k n a v
 aE:=fun s k v=>jn (gk G c bO) s k v
 ah:=fun s k v=>w1 (gk G c bO) s k v
 bm:=fun s k d v=>kF (gk G c bO) s k d v
 Cr:=fun s k v=>m0 s k v
 kh:=fun s k v=>hS (gk G c bO) s k v
 lN:=fun s k v=>g4 (gk G c bO) s k v
 jf:=fun s k z b l og=>nY (gk G c bO) s k z b l og
 nf:=hSub
 jy:=lM
 ag:=fun s k off v=>hR (gk G c bO) s k off v
 Gf:=fun s k off n v=>mq (gk G c bO) s k off n v
 aZ:=fun s k sz x i=>mZ (gk G c bO) s k sz x i
 iv:=fun s k sz len x i=>jl (gk G c bO) s k sz len x i
 db:=fun s k x i=>jm (gk G c bO) s k x i
 Cs:=fun s k sz len n x i=>kX (gk G c bO) s k sz len n x i
 bh:=fun s k i v=>kE (gk G c bO) s k i v
 ar:=fun s k f args=>cV (gk G c bO) s k (fun _ _=>.fail) f args
 iQ:=fun s k f args=>lK (gk G c bO) s k (fun _ _=>.fail) f args
 iR:=fun s k f args=>hD (gk G c bO) s k f args
 Ct:=fun s k f args=>kc (gk G c bO) s k f args
 ki:=fun s k ia f args=>hC (gk G c bO) s k (fun _ _=>.fail) ia f args
 oA:=fun s k ia f args=>kY (gk G c bO) s k (fun _ _=>.fail) ia f args
 aY:=fun s k b v=>rY (gk G c bO) s k b v
 cn:=fun s k q bytes b x y=>er (gk G c bO) s k q bytes b x y
 yU:=fun s k q bytes b x y=>m1 (gk G c bO) s k q bytes b x y
 pU:=fun s k sz es=>kb (gk G c bO) s k sz es
 jz:=fun s k q bytes x y=>kD (gk G c bO) s k q bytes x y
 yT:=fun s k q bytes b x y=>lq (gk G c bO) s k q bytes b x y
 Cu:=fun z n x eQ bk iU s k=>Gd z n x eQ bk iU s k
 sB:=fun s k q d x=>mr (gk G c bO) s k q d x
 sC:=fun s k f xs=>lL (gk G c bO) s k f xs
 o9:=fun s k b=>kG (gk G c bO) s k b
 kK:=fun s k lk m x v=>kd (gk G c bO) s k lk m x v
 lD:=fun s k lk z ok m x=>ke (gk G c bO) s k lk z ok m x
 ae:=DE
 ay:=aqX
section
variable(G:Nat→ai)(c:Nat→List ai→aq→ao)
theorem Cv(d:Nat)(aC:Nat→ai):∀(fk:List (Nat×Nat×bR)) (cs:List ai),DD d cs (partsOf G aC fk)=e9 G d aC cs fk
 |[],cs=>rfl
 |(off,sz,x)::fk,cs=>by simp only[partsOf,DD,e9];rw[Cv d aC fk]
theorem DG(aC:Nat→ai)(o:Option bR)(d:Nat):pB (mC G aC o) d=cS G aC o d:=by cases o<;> rfl
theorem vV(aC:Nat→ai)(s:aq)(k:a1)(op:gx):rD (nh G c) aC s k op=bB (gk G c bO) aC s k (fun _ _=>.fail) op:=by
 cases op<;> try rfl
 case build zero parts=>
  simp only[rD,bB,nh,RT,Cv,w1];show _=match (e9 G s.aa aC zero parts).map .agg with |some v=>k v s|none=>.fail
  cases e9 G s.aa aC zero parts<;> rfl
 case fV x eQ bk=>simp only[rD,bB,nh,hSub,ka,DG];rfl
 case slice z x eQ bk iU=>
  simp only[rD,bB,nh,lM,ko,DG];show _=ko (gk G c bO) aC s k z (aL G aC x) eQ bk iU;unfold ko;cases aL G aC x<;> try rfl
  cases iU<;> rfl
 case jd z n x eQ bk iU=>simp only[rD,bB,nh,Gd,iO,DG];show _=iO (gk G c bO) aC s k z n (aL G aC x) eQ bk iU;unfold iO;cases aL G aC x<;> rfl
theorem n3:∀(os:List cN) (aC:ey) (s:aq) (fin:ey→aq→ao),ng (nh G c) os aC s fin=fe (gk G c bO) os aC s fin (fun _ _ _=>.fail)
 |[],aC,s,fin=>rfl
 |o::os,aC,s,fin=>by
  simp only[ng,fe];have key:(fun(v:ai) (s:aq)=>kW aC o.dst v fun aC=>ng (nh G c) os aC s fin)=fun v s=>kW aC o.dst v fun aC=>fe (gk G c bO) os aC s fin (fun _ _ _=>.fail):=by funext v s;congr 1;funext aC;exact n3 os aC s fin
  cases bD:o.guard with
  |none=>simp only[m2,cb];rw[key,vV]
  |some p=>obtain⟨t,want⟩:=p;simp only[m2,key,vV];rw[show(nh G c).ae=DE from rfl];unfold DE;cases aC.get t<;> rfl
theorem pV:∀(code:ad),lE code=true→ax (nh G c) code=exec (gk G c bO) code:=by
 intro code
 induction code with
 |skip=>intro _;rfl
 |region nW ops=>
  intro h;cases nW with
  |none=>funext aC s k;exact n3 G c ops aC s _
  |some nW=>
   cases nW with
   |nil=>funext aC s k;simp only[ax,exec,List.all_nil,cb];exact n3 G c ops aC s _
   |cons _ _=>simp [lE] at h
 |seq a b r u=>intro h;simp only[lE,bL] at h;funext aC s k;simp only[ax,exec,r h.1,u h.2]
 |mask m a e=>intro h;funext aC s k;simp only[ax,exec,ir];rfl
 |cond x a b r u=>intro h;simp only[lE,bL] at h;funext aC s k;simp only[ax,exec,r h.1,u h.2];rfl
 |block id a e=>intro h;funext aC s k;simp only[ax,exec,e h]
 |loop bf a e=>intro h;funext aC s k;simp only[ax,exec,e h,ir];rfl
 |exit id=>intro _;rfl
 |scope a e=>intro h;funext aC s k;simp only[ax,exec,e h]
 |ret=>intro _;rfl
theorem Cw{α β e:Type}(f:β→Option e)(g:α→β):∀l:List α,ha f (l.map g)=ha (fun x=>f (g x)) l
 |[]=>rfl
 |x::l=>by simp only[fU,ha,Cw f g l]
theorem Ng(fn:bY):aJ (nh G c) fn=abi .not fn:=by
 have key:∀aC s,oy fn.bf (fn.results.map (RU aC s)) s=finish .not fn aC s:=fun aC s=>by
  unfold oy finish;rw[Cw,show(fun x=>RU aC s x)=rZ aC s from by funext x;cases x<;> rfl];cases ha (rZ aC s) fn.results with
  |none=>rfl
  |some vs=>cases fn.bf<;> rfl
 funext x aC s;cases x with
 |norm=>exact key aC s
 |ret=>exact key aC s
 |_=>rfl
end
structure oz.uO (Z:oz):Prop where
 m:∀m a aC s k,lE a=true→Z.aw m a aC s k=ax Z a aC s k
 l:∀c bf aC s k,lE c=true→Z.a0 (ax Z c) bf aC s k=ax Z c aC s (cx bf (Z.a0 (ax Z c) bf) k)
theorem oz.uO.cI{Z:oz}(h:Z.uO){m:dp}{a:ad}{aC:ey}{s:aq}{k:cP}{R:ao}(e:lE a=true:=by kernel_rfl)(r:ax Z a aC s k=R:=by kernel_rfl):Z.aw m a aC s k=R:=(h.m m a aC s k e).trans r
theorem oz.uO.kr{Z:oz}(h:Z.uO){c:ad}{bf:dp}{aC:ey}{s:aq}{k:cP}{R:ao}(e:lE c=true:=by kernel_rfl)(r:ax Z c aC s (cx bf (Z.a0 (ax Z c) bf) k)=R:=by kernel_rfl):Z.a0 (ax Z c) bf aC s k=R:=(h.l c bf aC s k e).trans r
section
variable(T:Nat→Option bY)(G:Nat→ai)(X:Nat→List ai→aq→ao)
noncomputable def aH:oz:=nh G (az T G X)
theorem aqY:(aH T G X).uO:=by
 refine⟨fun m a aC s k h=>?_,fun c bf aC s k h=>?_⟩
 ·unfold aH;rw[pV G _ a h];rfl
 ·unfold aH;rw[pV G _ c h];exact DC c bf aC s k
theorem Z4{f:Nat}{fn:bY}{args:List ai}{s:aq}(fF:T f=some fn)(bX:Nat.beq args.length fn.avv=true)(a9:lE fn.body=true):
  az T G X f args s=aV args 0 .e fun aC=>ax (aH T G X) fn.body aC (bif fn.bf then s else s.af) (aJ (aH T G X) fn):=by
 rw[DB];unfold body;rw[fF];simp only[bX,cb,aH,pV G _ fn.body a9,Ng];congr;funext aC;cases fn.bf<;> rfl
instance:Inhabited (aH T G X).uO:=⟨aqY T G X⟩
theorem aR{f:Nat}{fn:bY}{args:List ai}{s:aq}(fF:T f=some fn:=by kernel_rfl)(bX:Nat.beq args.length fn.avv=true:=by kernel_rfl)(a9:lE fn.body=true:=by kernel_rfl):az T G X f args s=aV args 0 .e fun aC=>ax (aH T G X) fn.body aC (bif fn.bf then s else s.af) (aJ (aH T G X) fn):=Z4 T G X fF bX a9
end
end Go.Ab
end
section
namespace Go.Ab
variable{T:Nat→Option bY}{G:Nat→ai}{X:Nat→List ai→aq→ao}{s:aq}{k:a1}
theorem k5(n:Option Nat)(v:ai):(aH T G X).aj s k n v=fq (gk G (az T G X) bO) s k n v:=rfl
theorem mU(n:Nat)(a v:ai):(aH T G X).a6 s k n a v=hp (gk G (az T G X) bO) s k n a v:=rfl
theorem gI(v:ai):(aH T G X).eX v s k=k v s:=rfl
theorem n4(v:ai):(aH T G X).ah s k (some v)=k v s:=rfl
theorem DH(t:Bool)(a b:ai):(aH T G X).a2 s k (.bool t) a b=k (if t=true then a else b) s:=by cases t<;> rfl
theorem cq(t:Bool)(a b:ao):(aH T G X).ay (.bool t) a b=if t=true then a else b:=by cases t<;> rfl
theorem yV(t w:Bool)(op:a1→ao):(aH T G X).ae (.bool t) w op s k=if t=w then op k else k (.cT []) s:=by cases t<;> cases w<;> rfl
theorem eG(l:List ai)(w:Bool)(op:a1→ao):(aH T G X).ae (.cT l) w op s k=k (.cT []) s:=rfl
def yW(v:ai)(op:a1→ao)(s:aq)(k:a1):ao:=
 match v with
 |.bool b=>bif b then op k else k (.bool false) s
 |_=>.fail
def abt(v:ai)(op:a1→ao)(s:aq)(k:a1):ao:=
 match v with
 |.bool b=>bif b then k (.bool true) s else op k
 |_=>.fail
theorem g6(t:Bool)(op:a1→ao):yW (.bool t) op s k=if t=true then op k else k (.bool false) s:=by cases t<;> rfl
theorem k6(t:Bool)(op:a1→ao):abt (.bool t) op s k=if t=true then k (.bool true) s else op k:=by cases t<;> rfl
theorem RV(v:ai)(e:a1→ao)(h:ai→aq→a1→ao):(aH T G X).ae v true (e) s (fun fj s1=>(aH T G X).ae v true (h fj s1) s1 (fun r s2=>(aH T G X).a2 s2 k v r (.bool false)))=yW v (fun k=>e (fun fj s1=>h fj s1 k)) s k:=by
 cases v<;> try rfl
 rename_i b;cases b<;> rfl
theorem yX(v:ai)(e:a1→ao)(h:ai→aq→a1→ao):(aH T G X).ae v false (e) s (fun fj s1=>(aH T G X).ae v false (h fj s1) s1 (fun r s2=>(aH T G X).a2 s2 k v (.bool true) r))=abt v (fun k=>e (fun fj s1=>h fj s1 k)) s k:=by
 cases v<;> try rfl
 rename_i b;cases b<;> rfl
theorem RW(v:ai)(h:a1→ao)(r:ai→aq→a1→ao)(u:ai→aq→ai→aq→a1→ao):(aH T G X).ae v true (h) s (fun fj s1=>(aH T G X).ae v true (r fj s1) s1 (fun e s2=>(aH T G X).ae v true (u fj s1 e s2) s2 (fun y B=>(aH T G X).a2 B k v y (.bool false))))=yW v (fun k=>h (fun fj s1=>r fj s1 (fun e s2=>u fj s1 e s2 k))) s k:=by
 cases v<;> try rfl
 rename_i b;cases b<;> rfl
theorem ni(v:ai)(h:a1→ao)(r:ai→aq→a1→ao)(u:ai→aq→ai→aq→a1→ao):(aH T G X).ae v false (h) s (fun fj s1=>(aH T G X).ae v false (r fj s1) s1 (fun e s2=>(aH T G X).ae v false (u fj s1 e s2) s2 (fun y B=>(aH T G X).a2 B k v (.bool true) y)))=abt v (fun k=>h (fun fj s1=>r fj s1 (fun e s2=>u fj s1 e s2 k))) s k:=by
 cases v<;> try rfl
 rename_i b;cases b<;> rfl
theorem lO(v:ai)(u:a1→ao)(y:ai→aq→a1→ao)(B:ai→aq→ai→aq→a1→ao)(H:ai→aq→ai→aq→ai→aq→a1→ao):(aH T G X).ae v true (u) s (fun fj s1=>(aH T G X).ae v true (y fj s1) s1 (fun e s2=>(aH T G X).ae v true (B fj s1 e s2) s2 (fun r h=>(aH T G X).ae v true (H fj s1 e s2 r h) h (fun I J=>(aH T G X).a2 J k v I (.bool false)))))=yW v (fun k=>u (fun fj s1=>y fj s1 (fun e s2=>B fj s1 e s2 (fun r h=>H fj s1 e s2 r h k)))) s k:=by
 cases v<;> try rfl
 rename_i b;cases b<;> rfl
theorem yY(v:ai)(u:a1→ao)(y:ai→aq→a1→ao)(B:ai→aq→ai→aq→a1→ao)(H:ai→aq→ai→aq→ai→aq→a1→ao):(aH T G X).ae v false (u) s (fun fj s1=>(aH T G X).ae v false (y fj s1) s1 (fun e s2=>(aH T G X).ae v false (B fj s1 e s2) s2 (fun r h=>(aH T G X).ae v false (H fj s1 e s2 r h) h (fun I J=>(aH T G X).a2 J k v (.bool true) I))))=abt v (fun k=>u (fun fj s1=>y fj s1 (fun e s2=>B fj s1 e s2 (fun r h=>H fj s1 e s2 r h k)))) s k:=by
 cases v<;> try rfl
 rename_i b;cases b<;> rfl
theorem lP(v:ai)(B:a1→ao)(H:ai→aq→a1→ao)(I:ai→aq→ai→aq→a1→ao)(J:ai→aq→ai→aq→ai→aq→a1→ao)(K:ai→aq→ai→aq→ai→aq→ai→aq→a1→ao):(aH T G X).ae v true (B) s (fun fj s1=>(aH T G X).ae v true (H fj s1) s1 (fun e s2=>(aH T G X).ae v true (I fj s1 e s2) s2 (fun r h=>(aH T G X).ae v true (J fj s1 e s2 r h) h (fun y u=>(aH T G X).ae v true (K fj s1 e s2 r h y u) u (fun L M=>(aH T G X).a2 M k v L (.bool false))))))=yW v (fun k=>B (fun fj s1=>H fj s1 (fun e s2=>I fj s1 e s2 (fun r h=>J fj s1 e s2 r h (fun y u=>K fj s1 e s2 r h y u k))))) s k:=by
 cases v<;> try rfl
 rename_i b;cases b<;> rfl
theorem DI(v:ai)(I:a1→ao)(J:ai→aq→a1→ao)(K:ai→aq→ai→aq→a1→ao)(L:ai→aq→ai→aq→ai→aq→a1→ao)(M:ai→aq→ai→aq→ai→aq→ai→aq→a1→ao)(N:ai→aq→ai→aq→ai→aq→ai→aq→ai→aq→a1→ao):(aH T G X).ae v true (I) s (fun fj s1=>(aH T G X).ae v true (J fj s1) s1 (fun e s2=>(aH T G X).ae v true (K fj s1 e s2) s2 (fun r h=>(aH T G X).ae v true (L fj s1 e s2 r h) h (fun y u=>(aH T G X).ae v true (M fj s1 e s2 r h y u) u (fun H B=>(aH T G X).ae v true (N fj s1 e s2 r h y u H B) B (fun O Q=>(aH T G X).a2 Q k v O (.bool false)))))))=yW v (fun k=>I (fun fj s1=>J fj s1 (fun e s2=>K fj s1 e s2 (fun r h=>L fj s1 e s2 r h (fun y u=>M fj s1 e s2 r h y u (fun H B=>N fj s1 e s2 r h y u H B k)))))) s k:=by
 cases v<;> try rfl
 rename_i b;cases b<;> rfl
theorem RX(v:ai)(K:a1→ao)(L:ai→aq→a1→ao)(M:ai→aq→ai→aq→a1→ao)(N:ai→aq→ai→aq→ai→aq→a1→ao)(O:ai→aq→ai→aq→ai→aq→ai→aq→a1→ao)(Q:ai→aq→ai→aq→ai→aq→ai→aq→ai→aq→a1→ao)(R:ai→aq→ai→aq→ai→aq→ai→aq→ai→aq→ai→aq→a1→ao):(aH T G X).ae v true (K) s (fun fj s1=>(aH T G X).ae v true (L fj s1) s1 (fun e s2=>(aH T G X).ae v true (M fj s1 e s2) s2 (fun r h=>(aH T G X).ae v true (N fj s1 e s2 r h) h (fun y u=>(aH T G X).ae v true (O fj s1 e s2 r h y u) u (fun H B=>(aH T G X).ae v true (Q fj s1 e s2 r h y u H B) B (fun J I=>(aH T G X).ae v true (R fj s1 e s2 r h y u H B J I) I (fun U V=>(aH T G X).a2 V k v U (.bool false))))))))=yW v (fun k=>K (fun fj s1=>L fj s1 (fun e s2=>M fj s1 e s2 (fun r h=>N fj s1 e s2 r h (fun y u=>O fj s1 e s2 r h y u (fun H B=>Q fj s1 e s2 r h y u H B (fun J I=>R fj s1 e s2 r h y u H B J I k))))))) s k:=by
 cases v<;> try rfl
 rename_i b;cases b<;> rfl
theorem RY(v:ai)(R:a1→ao)(U:ai→aq→a1→ao)(V:ai→aq→ai→aq→a1→ao)(Y:ai→aq→ai→aq→ai→aq→a1→ao)(Z:ai→aq→ai→aq→ai→aq→ai→aq→a1→ao)(aa:ai→aq→ai→aq→ai→aq→ai→aq→ai→aq→a1→ao)(ab:ai→aq→ai→aq→ai→aq→ai→aq→ai→aq→ai→aq→a1→ao)(ac:ai→aq→ai→aq→ai→aq→ai→aq→ai→aq→ai→aq→ai→aq→a1→ao)(ad:ai→aq→ai→aq→ai→aq→ai→aq→ai→aq→ai→aq→ai→aq→ai→aq→a1→ao)(af:ai→aq→ai→aq→ai→aq→ai→aq→ai→aq→ai→aq→ai→aq→ai→aq→ai→aq→a1→ao):(aH T G X).ae v false (R) s (fun fj s1=>(aH T G X).ae v false (U fj s1) s1 (fun e s2=>(aH T G X).ae v false (V fj s1 e s2) s2 (fun r h=>(aH T G X).ae v false (Y fj s1 e s2 r h) h (fun y u=>(aH T G X).ae v false (Z fj s1 e s2 r h y u) u (fun H B=>(aH T G X).ae v false (aa fj s1 e s2 r h y u H B) B (fun J I=>(aH T G X).ae v false (ab fj s1 e s2 r h y u H B J I) I (fun L K=>(aH T G X).ae v false (ac fj s1 e s2 r h y u H B J I L K) K (fun N M=>(aH T G X).ae v false (ad fj s1 e s2 r h y u H B J I L K N M) M (fun Q O=>(aH T G X).ae v false (af fj s1 e s2 r h y u H B J I L K N M Q O) O (fun ag ah=>(aH T G X).a2 ah k v (.bool true) ag))))))))))=abt v (fun k=>R (fun fj s1=>U fj s1 (fun e s2=>V fj s1 e s2 (fun r h=>Y fj s1 e s2 r h (fun y u=>Z fj s1 e s2 r h y u (fun H B=>aa fj s1 e s2 r h y u H B (fun J I=>ab fj s1 e s2 r h y u H B J I (fun L K=>ac fj s1 e s2 r h y u H B J I L K (fun N M=>ad fj s1 e s2 r h y u H B J I L K N M (fun Q O=>af fj s1 e s2 r h y u H B J I L K N M Q O k)))))))))) s k:=by
 cases v<;> try rfl
 rename_i b;cases b<;> rfl
theorem qG(v:ai)(h:v.fo=true):(aH T G X).hO v s k=k (.ref (.l s.own.length) 0) (s.new (.cells (v.ak s.aa).cells)):=by show yS v s k=_;unfold yS;rw[h];rfl
section
variable(cs:List ai)(kk:IntKind)(n:Int)(b:Bool)(eB:List Nat)(a:Loc)(o sz:Nat)(es:List ai)(g:cd)(f:Nat)
theorem bx:(aH T G X).dn (.agg cs) s k=k (.bM cs) s:=rfl
end
theorem bg(sz:Nat)(es:List ai)(g:cd):(aH T G X).aY s k false (.aW sz es g)=k (.int .i64 es.length) s:=rfl
theorem jA(a:Loc)(off n c sz:Nat):(aH T G X).aY s k false (.cw a off n c sz)=k (.int .i64 n) s:=rfl
theorem ei(eB:List Nat):(aH T G X).aY s k true (.str eB)=k (.int .i64 eB.length) s:=rfl
theorem bu(c:ai)(cs:List ai):(aH T G X).aj s k none (.bM (c::cs))=k c s:=rfl
theorem ed(n:Nat)(cs:List ai)(h:n≤cs.length):(aH T G X).aj s k (some n) (.bM cs)=k (.agg (cs.take n)) s:=by show(bif Nat.ble n cs.length then _ else _)=_;rw[show Nat.ble n cs.length=true from dN h];rfl
theorem c3(off:Nat)(cs:List ai):(aH T G X).ag s k off (.bM cs)=k (.bM (cs.drop off)) s:=rfl
theorem aA(off o:Nat)(a:Loc):(aH T G X).ag s k off (.ref a o)=k (.ref a (o+off)) s:=rfl
theorem hs(kk:IntKind)(n:Nat):eE (.int kk (n:Int))=some n:=by simp [eE]
theorem iw(sz:Nat)(es:List ai)(g:cd)(kk:IntKind)(i:Nat)(e:ai)(h:es[i]? =some e):(aH T G X).aZ s k sz (.aW sz es g) (.int kk (i:Int))=k (.bM e.cells) s:=by show mZ (gk G (az T G X) bO) s k sz (.aW sz es g) (.int kk (i:Int))=_;unfold mZ;rw[hs];simp only[show Nat.beq sz sz=true from fE sz,cb,h];rfl
theorem xi(sz:Nat)(es:List ai)(g:cd)(kk:IntKind)(i:Int)(e:ai)(cL:0≤i)(h:es[i.toNat]? =some e):(aH T G X).aZ s k sz (.aW sz es g) (.int kk i)=k (.bM e.cells) s:=by
 have:=iw (T:=T) (G:=G) (X:=X) (s:=s) (k:=k) sz es g kk i.toNat e h
 rwa [Int.toNat_of_nonneg cL] at this
theorem dc{f:Nat}{args:List ai}{v:ai}{s':aq}(h:az T G X f args s=.ok v s')(bI:s'.aa=s.aa):(aH T G X).ar s k f args=k v s':=by show cV _ _ _ _ _ _=_;unfold cV;show(match az T G X f args s with |.ok v s'=>_|.panic v s'=>_|.fail=>_)=_;rw[h];simp only[bI,fE,cb]
theorem aK{f:Nat}{args:List ai}{v:ai}(h:az T G X f args s=.ok v s):(aH T G X).ar s k f args=k v s:=dc h rfl
theorem Gg{f:Nat}{ep args:List ai}:(aH T G X).iQ s k (.fn f ep) args=(aH T G X).ar s k f (args++ep):=rfl
theorem k7{f:Nat}{args:List ai}{v:ai}{s':aq}(e:ai.bj args=true)(h:az T G X f args {own:=[],up:=[],ro:=[]}=.ok v s')(bG:v.bp=true):(aH T G X).iR s k f args=k v s:=by show hD _ _ _ _ _=_;unfold hD;rw[e];simp only[cb];show(match az T G X f args _ with |.ok v _=>_|_=>_)=_;rw[h];simp only[bG,cb]
theorem gn(i:Nat)(vs:List ai)(v:ai)(h:vs[i]? =some v):(aH T G X).bh s k i (.cT vs)=k v s:=by show w1 _ _ _ _=_;rw[h];rfl
section
variable(kk:IntKind)(a b:Int)
theorem aqZ:al .add (.int kk a) (.int kk b)=some (.int kk (kk.wrap (a+b))):=by simp [al,gy]
theorem aq0:al .sub (.int kk a) (.int kk b)=some (.int kk (kk.wrap (a-b))):=by simp [al,gy]
theorem aq1:al .mul (.int kk a) (.int kk b)=some (.int kk (kk.wrap (a*b))):=by simp [al,gy]
theorem aq2(h:b≠0):al .quo (.int kk a) (.int kk b)=some (.int kk (kk.wrap (a.tdiv b))):=by simp [al,gy,h]
theorem aq3(h:b≠0):al .rem (.int kk a) (.int kk b)=some (.int kk (a.tmod b)):=by simp [al,gy,h]
theorem aq4:al .eql (.int kk a) (.int kk b)=some (.bool (decide (a=b))):=by simp only[al,gy,↓reduceIte];congr 2
theorem aq5:al .neq (.int kk a) (.int kk b)=some (.bool (decide (¬a=b))):=by simp only[al,gy,↓reduceIte,bne];congr 2;by_cases h:a=b<;> simp [h]
theorem aq6:al .lss (.int kk a) (.int kk b)=some (.bool (decide (a<b))):=by simp [al,gy]
theorem aq7:al .leq (.int kk a) (.int kk b)=some (.bool (decide (a≤b))):=by simp [al,gy]
theorem aq8:al .gtr (.int kk a) (.int kk b)=some (.bool (decide (b<a))):=by simp [al,gy]
theorem aq9:al .geq (.int kk a) (.int kk b)=some (.bool (decide (b≤a))):=by simp [al,gy]
end
section
variable(kk:IntKind)(a b:Int)
theorem pW:(aH T G X).ah s k (al .add (.int kk a) (.int kk b))=k (.int kk (kk.wrap (a+b))) s:=by rw[aqZ];rfl
theorem nj:(aH T G X).ah s k (al .sub (.int kk a) (.int kk b))=k (.int kk (kk.wrap (a-b))) s:=by rw[aq0];rfl
theorem Nh:(aH T G X).ah s k (al .mul (.int kk a) (.int kk b))=k (.int kk (kk.wrap (a*b))) s:=by rw[aq1];rfl
theorem abu(h:b≠0):(aH T G X).ah s k (al .quo (.int kk a) (.int kk b))=k (.int kk (kk.wrap (a.tdiv b))) s:=by rw[aq2 _ _ _ h];rfl
theorem abv(h:b≠0):(aH T G X).ah s k (al .rem (.int kk a) (.int kk b))=k (.int kk (a.tmod b)) s:=by rw[aq3 _ _ _ h];rfl
theorem bi:(aH T G X).ah s k (al .eql (.int kk a) (.int kk b))=k (.bool (decide (a=b))) s:=by rw[aq4];rfl
theorem dC:(aH T G X).ah s k (al .neq (.int kk a) (.int kk b))=k (.bool (decide (¬a=b))) s:=by rw[aq5];rfl
theorem be:(aH T G X).ah s k (al .lss (.int kk a) (.int kk b))=k (.bool (decide (a<b))) s:=by rw[aq6];rfl
theorem n5:(aH T G X).ah s k (al .leq (.int kk a) (.int kk b))=k (.bool (decide (a≤b))) s:=by rw[aq7];rfl
theorem ee:(aH T G X).ah s k (al .gtr (.int kk a) (.int kk b))=k (.bool (decide (b<a))) s:=by rw[aq8];rfl
theorem fG:(aH T G X).ah s k (al .geq (.int kk a) (.int kk b))=k (.bool (decide (b≤a))) s:=by rw[aq9];rfl
theorem eY(t:Bool):(aH T G X).ah s k (iN .not (.bool t))=k (.bool (!t)) s:=rfl
end
theorem gJ(a:Int)(aD: -9223372036854775808≤a)(aG:a≤9223372036854775807):IntKind.wrap .i64 a=a:=IntWalk.i64_in a ⟨aD,aG⟩
theorem Ni(n:Nat)(h:n<9223372036854775807):IntKind.wrap .i64 ((n:Int)+1)=((n+1:Nat):Int):=by rw[gJ _ (by omega) (by omega)];rfl
def ai.plain:ai→Bool
 |.int .. |.bool _|.str _|.gU|.fx|.e2|.c4=>true
 |_=>false
theorem B5{s:aq}{v:ai}(h:v.plain=true):freeze s v=some v:=by cases v<;> simp [ai.plain] at h<;> rfl
theorem b1(kk:IntKind)(n:Int):(aH T G X).aB false [some (.int kk n)] s.af=.ok (.int kk n) s:=rfl
theorem bE(b:Bool):(aH T G X).aB false [some (.bool b)] s.af=.ok (.bool b) s:=rfl
theorem nk(b:List Nat):(aH T G X).aB false [some (.str b)] s.af=.ok (.str b) s:=rfl
theorem pa(s:aq)(o:bd):(s.new o).get (.l s.own.length)=some o:=by simp [aq.get,aq.new]
theorem Nj(s:aq)(o o':bd):(s.new o).set (.l s.own.length) o'=some (s.new o'):=by simp [aq.set,aq.new]
theorem vW{α:Type}:∀(vs cs:List α),vs.length=cs.length→dq cs 0 vs=vs:=by
 intro vs cs h;apply List.ext_getElem?;intro j;rw[hc _ _ _ (by omega)];split
 ·simp
 ·rw[List.getElem?_eq_none (by omega),List.getElem?_eq_none (by omega)]
theorem kx(n:Nat)(vs cs:List ai)(aD:vs.length=n)(aG:cs.length=n)(bz:vs.all ai.dZ=true):(aH T G X).a6 (s.new (.cells cs)) k n (.ref (.l s.own.length) 0) (.agg vs)=k .dead (s.new (.cells vs)):=by
 rw[mU];unfold hp;simp only[ai.fo,ai.cells,aD,fE,eD,cb];unfold jJ;simp only[pa];have e:dq cs 0 vs=vs:=vW _ _ (by omega);have bU:Nat.ble (0+vs.length) cs.length=true:=dN (by omega);have h:(s.new (.cells cs)).ho (.l s.own.length) vs=true:=by simp [aq.ho,aq.uP]
 rw[bU,h,bz];simp only[eD,cb,e];show(match (s.new (.cells cs)).set (.l s.own.length) (.cells vs) with |some s=>k .dead s|none=>.fail)=_;rw[Nj]
theorem DJ(n:Nat)(cs:List ai)(h:n≤cs.length):(aH T G X).aj (s.new (.cells cs)) k (some n) (.ref (.l s.own.length) 0)=k (.agg (cs.take n)) (s.new (.cells cs)):=by rw[k5];simp only[fq,pa,bT,fc];rw[show Nat.ble n cs.length=true from dN h];rfl
theorem ajb(e:ai)(cs:List ai):(aH T G X).aj (s.new (.cells (e::cs))) k none (.ref (.l s.own.length) 0)=k e (s.new (.cells (e::cs))):=by rw[k5];simp only[fq,pa];rfl
structure Child (s S:aq):Prop where
 up:S.up=s.own::s.up
 ro:S.ro=s.ro
theorem Child.af(s:aq):Child s s.af:=⟨rfl,rfl⟩
theorem Child.new{s S:aq}(h:Child s S)(o:bd):Child s (S.new o):=⟨h.up,h.ro⟩
theorem gV{s S:aq}(h:Child s S)(v w:ai)(hw:freeze S v=some w):(aH T G X).aB false [some v] S=.ok w s:=by obtain⟨aD,aG⟩:=h;show oy false [some v] S=_;unfold oy;simp only[ha,hk,eU,cond_false,hw,q7,aD,aG]
theorem h0{s S:aq}(h:Child s S)(v1 v2 e r:ai)(bU:freeze S v1=some e)(u:freeze S v2=some r):(aH T G X).aB false [some v1,some v2] S=.ok (.cT [e,r]) s:=by obtain⟨aD,aG⟩:=h;show oy false [some v1,some v2] S=_;unfold oy;simp only[ha,hk,eU,cond_false,bU,u,q7,aD,aG]
theorem jB{s S:aq}(h:Child s S)(kk:IntKind)(n:Int):(aH T G X).aB false [some (.int kk n)] S=.ok (.int kk n) s:=gV h _ _ rfl
theorem eH{s S:aq}(h:Child s S)(b:Bool):(aH T G X).aB false [some (.bool b)] S=.ok (.bool b) s:=gV h _ _ rfl
theorem dd(d:Nat)(cs:List ai):ai.ak d (.agg cs)=.agg cs:=rfl
theorem cy(d:Nat)(kk:IntKind)(n:Int):ai.ak d (.int kk n)=.int kk n:=rfl
theorem oB(d:Nat)(b:Bool):ai.ak d (.bool b)=.bool b:=rfl
theorem RZ(d f:Nat)(cs:List ai):ai.ak d (.fn f cs)=.fn f cs:=rfl
theorem gS(q b:Nat)(at_:Option Loc)(x y:ai):(aH T G X).cn s k q b at_ x y=er (gk G (az T G X) bO) s k q b at_ x y:=rfl
theorem iY(sz:Nat)(es:List ai)(aD:ai.bj es=true)(aG:(es.all fun e=>e.fo&&Nat.beq e.cells.length sz)=true):(aH T G X).av s k sz es=k (.aW sz es .exact) s:=by show(bif ai.bj es&&es.all (fun e=>e.fo&&Nat.beq e.cells.length sz) then _ else _)=_;rw[aD,aG];rfl
theorem ajc(kk:IntKind)(a b:Int):(aH T G X).sC s k max2 [.int kk a,.int kk b]=k (.int kk (if b>a then b else a)) s:=rfl
inductive gW (S:aq):cd→Nat→Prop
 |nil:gW S .nil 0
 |bQ (j n:Nat) (bX:0<n) (h:S.own[j]? =some (.tok n)):gW S (.bQ (.l j)) n
theorem gW.inv{S:aq}{g:cd}{n:Nat}(h:gW S g n):(g=.nil∧n=0)∨∃j,g=.bQ (.l j)∧0<n∧S.own[j]? =some (.tok n):=by
 cases h with
 |nil=>exact .inl ⟨rfl,rfl⟩
 |bQ j n bX h=>exact .inr ⟨j,rfl,bX,h⟩
theorem gW.new{S:aq}{g:cd}{n:Nat}(h:gW S g n)(o:bd):gW (S.new o) g n:=by
 cases h with
 |nil=>exact .nil
 |bQ j n bX h=>refine .bQ j n bX ?_;have cp:=(bZ.1 h).1;simp only[aq.new];rw[ev cp];exact h
structure Grown (S b4:aq) (g:cd):Prop where
 up:b4.up=S.up
 ro:b4.ro=S.ro
 len:S.own.length≤b4.own.length
 own:∀j o,S.own[j]? =some o→g≠.bQ (.l j)→b4.own[j]? =some o
theorem Grown.child{s S b4:aq}{g:cd}(h:Grown S b4 g)(e:Child s S):Child s b4:=⟨h.up.trans e.up,h.ro.trans e.ro⟩
theorem Grown.grow{S b4:aq}{g g':cd}{n:Nat}(h:Grown S b4 g)(bD:gW S g' n)(cQ:∀j,g'=.bQ (.l j)→g≠.bQ (.l j)):gW b4 g' n:=by
 cases bD with
 |nil=>exact .nil
 |bQ j n bX e=>exact .bQ j n bX (h.own j _ e (cQ j rfl))
theorem Grown.aa{S b4:aq}{g:cd}(h:Grown S b4 g):b4.aa=S.aa:=by simp [aq.aa,h.up,h.ro]
theorem u6{R:ao}{S:aq}{es new:List ai}{g g2:cd}{q bytes:Nat}(bD:gW S g es.length)(bX:new≠[])(r:(es.length+new.length)*bytes≤1099511627776)(a9:(new.flatMap ai.cells).all ai.dZ=true)
  (cg:∀g' b4,gW b4 g' (es.length+new.length)→g'≠.nil→(g≠.nil→g'=g)→(g=.nil→g'=.bQ (.l S.own.length))→Grown S b4 g→k (.aW q (es++new) g') b4=R)(u:∀a,g2≠.bQ a:=by intro a h;cases h):
  (aH T G X).cn S k q bytes (some (.l 0)) (.aW q es g) (.aW q new g2)=R:=by
 rw[gS];unfold er;simp only;unfold fl;rw[show dB S (.aW q new g2)=some (q,new) from by cases g2<;> first|rfl |exact absurd rfl (u _)];simp only[fE,cG];rw[show Nat.ble ((es.length+new.length)*bytes) 1099511627776=true from dN r];simp only[cb];cases new with
 |nil=>exact absurd rfl bX
 |cons c cs=>
  rcases bD.inv with⟨rfl,y⟩|⟨j,rfl,iq,h⟩
  ·simp only[aq.gg];refine cg _ _ (.bQ _ _ (by simp;omega) ?_) (by simp) (fun h=>absurd rfl h) (fun _=>rfl) ⟨rfl,rfl,by simp [aq.new],fun j o h _=>?_⟩
   ·simp [aq.new]
   ·simp only[aq.new];rw[ev (bZ.1 h).1];exact h
  ·have e:S.get (.l j)=some (.tok es.length):=h;simp only[e,fE,a9,eD,cb];show(match S.set (.l j) (.tok (es.length+(c::cs).length)) with |some s=>k (.aW q (es++c::cs) (.bQ (.l j))) s|none=>.fail)=R;simp only[aq.set];refine cg _ _ (.bQ _ _ (by simp;omega) ?_) (by simp) (fun _=>rfl) (fun h=>by simp at h) ⟨rfl,rfl,by simp,fun i o bk cQ=>?_⟩
   ·simp [(bZ.1 h).1]
   ·have:j≠i:=fun e=>cQ (by rw[e])
    simp only;rw[ew this];exact bk
def eR{α:Type}(l:List α):cd:=if l.isEmpty then .nil else .any
theorem k8{S:aq}{sz:Nat}{es:List ai}{g:cd}(bD:gW S g es.length)(aQ:ai.bj es=true:=by rfl):freeze S (.aW sz es g)=some (.aW sz es (eR es)):=by
 rcases bD.inv with⟨rfl,h⟩|⟨j,rfl,bX,h⟩
 ·have:es=[]:=kU h;subst this;rfl
 ·cases es with
  |nil=>simp at bX
  |cons e es=>show(if ai.bj (e::es)=true then some (ai.aW sz (e::es) .any) else none)=_;rw[if_pos aQ];rfl
theorem nl{S:aq}(a:Loc)(off len cap sz:Nat)(kk:IntKind)(i:Nat)(h:i<len):(aH T G X).aZ S k sz (.cw a off len cap sz) (.int kk (i:Int))=k (.ref a (off+i*sz)) S:=by show mZ (gk G (az T G X) bO) S k sz (.cw a off len cap sz) (.int kk (i:Int))=_;unfold mZ;rw[hs];simp only[fE,show Nat.blt i len=true from by simp [Nat.blt_eq,h],eD,cb];rfl
theorem Cx{S:aq}{j o:Nat}{cs:List ai}{c:ai}(h:S.own[j]? =some (.cells cs))(a9:cs[o]? =some c):(aH T G X).aj S k none (.ref (.l j) o)=k c S:=by
 rw[k5];simp only[fq];rw[show S.get (.l j)=some (.cells cs) from h];simp only[fc]
 have:cs.drop o=c::cs.drop (o+1):=by have e:=(bZ.1 a9);rw[gl e.1,e.2]
 rw[this];rfl
theorem Cy(z:ai):∀c:Nat,(List.replicate c [z]).flatten=List.replicate c z
 |0=>rfl
 |c+1=>by simp [List.replicate_succ,Cy z c]
theorem lQ(z:ai)(bytes l c:Nat)(aD:l≤c)(aG:c*bytes≤1099511627776):(aH T G X).jf s k [z] bytes (.int .i64 (l:Int)) (.int .i64 (c:Int))=k (.cw (.l s.own.length) 0 l c 1) (s.new (.cells (List.replicate c z))):=by show nY (gk G (az T G X) bO) s k [z] bytes (.int .i64 (l:Int)) (.int .i64 (c:Int))=_;unfold nY;rw[hs,hs];simp only[show Nat.ble l c=true from dN aD,show Nat.ble (c*bytes) 1099511627776=true from dN aG,eD,cb];show k _ (s.new (.cells (List.replicate c [z]).flatten))=_;rw[Cy];rfl
abbrev U(n:Nat):ai:=.int .u32 (n:Int)
theorem iZ(a:Int):IntKind.wrap .u64 a=a%18446744073709551616:=by unfold IntKind.wrap;simp [show IntKind.bits .u64=64 from rfl,show IntKind.signed .u64=false from rfl]
theorem wrap_u32(a:Int):IntKind.wrap .u32 a=a%4294967296:=by unfold IntKind.wrap;simp [show IntKind.bits .u32=32 from rfl,show IntKind.signed .u32=false from rfl]
theorem lR(a b:Nat):(aH T G X).ah s k (al .add (.int .u64 (a:Int)) (.int .u64 (b:Int)))=k (.int .u64 (((a+b)%18446744073709551616:Nat):Int)) s:=by rw[pW,iZ];congr 2
def nO(a b:Nat):Nat:=(((a:Int)-(b:Int))%18446744073709551616).toNat
theorem pb(a b:Nat):(aH T G X).ah s k (al .sub (.int .u64 (a:Int)) (.int .u64 (b:Int)))=k (.int .u64 ((nO a b:Nat):Int)) s:=by rw[nj,iZ];congr 2;rw[nO,Int.toNat_of_nonneg (by omega)]
theorem pX(a:Nat):(aH T G X).ah s k (al .sub (.int .u64 (a:Int)) (.int .u64 1))=k (.int .u64 ((nO a 1:Nat):Int)) s:=pb a 1
theorem DK(a b:Nat):(aH T G X).ah s k (al .mul (.int .u64 (a:Int)) (.int .u64 (b:Int)))=k (.int .u64 (((a*b)%18446744073709551616:Nat):Int)) s:=by rw[Nh,iZ];congr 2
theorem Z5(a b:Nat):(aH T G X).ah s k (al .add (.int .u32 (a:Int)) (.int .u32 (b:Int)))=k (.int .u32 (((a+b)%4294967296:Nat):Int)) s:=by rw[pW,wrap_u32];congr 2
theorem xj(a b:Nat)(h:b≠0)(e:a<18446744073709551616):(aH T G X).ah s k (al .quo (.int .u64 (a:Int)) (.int .u64 (b:Int)))=k (.int .u64 ((a/b:Nat):Int)) s:=by
 rw[abu _ _ _ (by omega),iZ];congr 2
 have:((a:Int)).tdiv (b:Int)=((a/b:Nat):Int):=by rw[Int.tdiv_eq_ediv_of_nonneg (by omega)];rfl
 rw[this];have aG:a/b≤a:=Nat.div_le_self _ _;generalize a/b=q at *;omega
theorem DL(a b:Nat)(h:b≠0):(aH T G X).ah s k (al .rem (.int .u64 (a:Int)) (.int .u64 (b:Int)))=k (.int .u64 ((a%b:Nat):Int)) s:=by rw[abv _ _ _ (by omega)];congr 2
theorem sD(kk:IntKind)(a c:Nat)(h:c≤64):(aH T G X).ah s k (al .shl (.int .u64 (a:Int)) (.int kk (c:Int)))=k (.int .u64 ((a*2^c%18446744073709551616:Nat):Int)) s:=by
 have e:al .shl (.int .u64 (a:Int)) (.int kk (c:Int))=some (.int .u64 (IntKind.wrap .u64 ((a:Int)*2^(min (c:Int).toNat 64)))):=by
  have bX:¬((c:Int)<0):=by omega
  simp [al,nF,bX,show IntKind.bits .u64=64 from rfl]
 rw[e,n4,iZ,Int.toNat_natCast,Nat.min_eq_left h];congr 2
theorem xk(kk:IntKind)(a c:Nat)(h:c≤64):(aH T G X).ah s k (al .shr (.int .u64 (a:Int)) (.int kk (c:Int)))=k (.int .u64 ((a/2^c:Nat):Int)) s:=by
 have e:al .shr (.int .u64 (a:Int)) (.int kk (c:Int))=some (.int .u64 ((a:Int).fdiv (2^(min (c:Int).toNat 64)))):=by
  have bX:¬((c:Int)<0):=by omega
  simp [al,nF,bX,show IntKind.bits .u64=64 from rfl]
 rw[e,n4,Int.toNat_natCast,Nat.min_eq_left h];congr 2;rw[show((2:Int)^c)=((2^c:Nat):Int) from by simp,Int.fdiv_eq_ediv_of_nonneg _ (Int.natCast_nonneg _)];rfl
theorem rE(kk:IntKind)(a c:Nat)(h:c≤32):(aH T G X).ah s k (al .shr (.int .u32 (a:Int)) (.int kk (c:Int)))=k (.int .u32 ((a/2^c:Nat):Int)) s:=by
 have e:al .shr (.int .u32 (a:Int)) (.int kk (c:Int))=some (.int .u32 ((a:Int).fdiv (2^(min (c:Int).toNat 32)))):=by
  have bX:¬((c:Int)<0):=by omega
  simp [al,nF,bX,show IntKind.bits .u32=32 from rfl]
 rw[e,n4,Int.toNat_natCast,Nat.min_eq_left h];congr 2;rw[show((2:Int)^c)=((2^c:Nat):Int) from by simp,Int.fdiv_eq_ediv_of_nonneg _ (Int.natCast_nonneg _)];rfl
theorem Nk(kk:IntKind)(a c:Nat)(h:c≤32):(aH T G X).ah s k (al .shl (.int .u32 (a:Int)) (.int kk (c:Int)))=k (.int .u32 ((a*2^c%4294967296:Nat):Int)) s:=by
 have e:al .shl (.int .u32 (a:Int)) (.int kk (c:Int))=some (.int .u32 (IntKind.wrap .u32 ((a:Int)*2^(min (c:Int).toNat 32)))):=by
  have bX:¬((c:Int)<0):=by omega
  simp [al,nF,bX,show IntKind.bits .u32=32 from rfl]
 rw[e,n4,wrap_u32,Int.toNat_natCast,Nat.min_eq_left h];congr 2
theorem qH(a:Nat):(aH T G X).ah s k (al .shl (.int .u64 (a:Int)) (.int .u64 32))=k (.int .u64 ((a*4294967296%18446744073709551616:Nat):Int)) s:=sD .u64 a 32 (by decide)
theorem qI(a:Nat):(aH T G X).ah s k (al .shr (.int .u64 (a:Int)) (.int .u64 32))=k (.int .u64 ((a/4294967296:Nat):Int)) s:=xk .u64 a 32 (by decide)
theorem Cz(a:Nat):(aH T G X).ah s k (al .shr (.int .u64 (a:Int)) (.int .u64 63))=k (.int .u64 ((a/9223372036854775808:Nat):Int)) s:=xk .u64 a 63 (by decide)
theorem g7(kk:IntKind)(a:Nat):(aH T G X).bm s k .u32 (.int kk (a:Int))=k (.int .u32 ((a%4294967296:Nat):Int)) s:=by show k (.int .u32 (IntKind.wrap .u32 (a:Int))) s=_;rw[wrap_u32];congr 2
theorem fC(a:Nat)(h:a<4294967296):(aH T G X).bm s k .u64 (.int .u32 (a:Int))=k (.int .u64 (a:Int)) s:=by show k (.int .u64 (IntKind.wrap .u64 (a:Int))) s=_;rw[iZ];congr 2;omega
theorem g8(a b:Nat)(h:a+b<9223372036854775808):(aH T G X).ah s k (al .add (.int .i64 (a:Int)) (.int .i64 (b:Int)))=k (.int .i64 ((a+b:Nat):Int)) s:=by rw[pW,gJ _ (by omega) (by omega)];congr 2
theorem mD(a b:Nat)(h:b≤a)(aG:a<9223372036854775808):(aH T G X).ah s k (al .sub (.int .i64 (a:Int)) (.int .i64 (b:Int)))=k (.int .i64 ((a-b:Nat):Int)) s:=by rw[nj,gJ _ (by omega) (by omega)];congr 2;omega
theorem nm(a:Nat)(h:a+1<9223372036854775808):(aH T G X).ah s k (al .add (.int .i64 (a:Int)) (.int .i64 1))=k (.int .i64 ((a+1:Nat):Int)) s:=g8 a 1 h
theorem iS(a:Nat)(h:1≤a)(aG:a<9223372036854775808):(aH T G X).ah s k (al .sub (.int .i64 (a:Int)) (.int .i64 1))=k (.int .i64 ((a-1:Nat):Int)) s:=mD a 1 h aG
theorem Gh(a:Nat)(h:2≤a)(aG:a<9223372036854775808):(aH T G X).ah s k (al .sub (.int .i64 (a:Int)) (.int .i64 2))=k (.int .i64 ((a-2:Nat):Int)) s:=mD a 2 h aG
theorem kL(a:Nat)(aG:a<9223372036854775808):(aH T G X).ah s k (al .quo (.int .i64 (a:Int)) (.int .i64 32))=k (.int .i64 ((a/32:Nat):Int)) s:=by
 rw[abu _ _ _ (by omega)]
 have:((a:Int)).tdiv 32=((a/32:Nat):Int):=by rw[Int.tdiv_eq_ediv_of_nonneg (by omega)];rfl
 rw[this,gJ _ (by omega) (by omega)]
theorem mV(a:Nat):(aH T G X).ah s k (al .rem (.int .i64 (a:Int)) (.int .i64 32))=k (.int .i64 ((a%32:Nat):Int)) s:=by rw[abv _ _ _ (by omega)];congr 2
theorem ajd(a b:Nat)(e:a<18446744073709551616)(h:b<18446744073709551616):((BitVec.ofInt 64 (a:Int) &&& BitVec.ofInt 64 (b:Int)).toNat:Int)=((a &&& b:Nat):Int):=by
 rw[BitVec.toNat_and];simp only[BitVec.toNat_ofInt];congr 1;have aD:(((a:Int)%((2^64:Nat):Int))).toNat=a:=by omega
 have aG:(((b:Int)%((2^64:Nat):Int))).toNat=b:=by omega
 rw[aD,aG]
theorem Z6(a:Nat)(h:a<18446744073709551616):(aH T G X).ah s k (al .and (.int .u64 (a:Int)) (.int .u64 4294967295))=k (.int .u64 ((a%4294967296:Nat):Int)) s:=by
 have e:al .and (.int .u64 (a:Int)) (.int .u64 ((4294967295:Nat):Int))=some (.int .u64 (IntKind.wrap .u64 ((BitVec.ofInt 64 (a:Int) &&& BitVec.ofInt 64 ((4294967295:Nat):Int)).toNat:Int))):=by simp only[al,gy,↓reduceIte];rfl
 show(aH T G X).ah s k (al .and (.int .u64 (a:Int)) (.int .u64 ((4294967295:Nat):Int)))=_;rw[e,ajd a _ h (by omega),n4,iZ];congr 2
 have:a &&& 4294967295=a%4294967296:=Nat.and_two_pow_sub_one_eq_mod a 32;rw[this];omega
theorem Nl(a b:Nat)(e:a<18446744073709551616)(h:b<18446744073709551616):((BitVec.ofInt 64 (a:Int) ||| BitVec.ofInt 64 (b:Int)).toNat:Int)=((a ||| b:Nat):Int):=by
 rw[BitVec.toNat_or];simp only[BitVec.toNat_ofInt];congr 1;have aD:(((a:Int)%((2^64:Nat):Int))).toNat=a:=by omega
 have aG:(((b:Int)%((2^64:Nat):Int))).toNat=b:=by omega
 rw[aD,aG]
theorem ara(q b p:Nat)(h:b<2^p)(dQ:q*2^p+b<18446744073709551616):(aH T G X).ah s k (al .or (.int .u64 ((q*2^p:Nat):Int)) (.int .u64 (b:Int)))=k (.int .u64 ((q*2^p+b:Nat):Int)) s:=by
 have e:al .or (.int .u64 ((q*2^p:Nat):Int)) (.int .u64 (b:Int))=some (.int .u64 (IntKind.wrap .u64 ((BitVec.ofInt 64 ((q*2^p:Nat):Int) ||| BitVec.ofInt 64 (b:Int)).toNat:Int))):=by simp only[al,gy,↓reduceIte];rfl
 rw[e,Nl _ _ (by omega) (by omega),n4,iZ];congr 2
 have:q*2^p ||| b=q*2^p+b:=by rw[dE,←Nat.two_pow_add_eq_or_of_lt h]
 rw[this];omega
theorem yZ(q b:Nat)(e:b<4294967296)(dQ:q<4294967296):(aH T G X).ah s k (al .or (.int .u64 ((q*4294967296:Nat):Int)) (.int .u64 (b:Int)))=k (.int .u64 ((q*4294967296+b:Nat):Int)) s:=ara q b 32 e (by omega)
theorem gb(l:List Nat):ai.bj (l.map U)=true:=by
 induction l with
 |nil=>rfl
 |cons x l e=>simp only[fU,ai.bj,e,Bool.and_true];rfl
def pc(d:Nat)(g:cd):Prop:=∀a,g=.bQ a→∃e i,a=.g e i∧e≤d
theorem pc.not{g:cd}(h:∀a,g≠.bQ a)(d:Nat):pc d g:=fun a e=>absurd e (h a)
theorem pc.le{d e:Nat}{g:cd}(h:pc d g)(bI:d≤e):pc e g:=fun a r=>by obtain⟨x,i,aD,aG⟩:=h a r;exact⟨x,i,aD,Nat.le_trans aG bI⟩
inductive jC (s:aq):ai→List Nat→Prop
 |aW (l:List Nat) (g:cd) (bD:pc s.aa g):jC s (.aW 1 (l.map U) g) l
 |cw (d j off cap:Nat) (cs:List ai) (l:List Nat) (bI:d≤s.aa) (bD:s.get (.g d j)=some (.cells cs)) (br:(cs.drop off).take l.length=l.map U) (hle:off+l.length≤cs.length) (a9:l.length≤cap):jC s (.cw (.g d j) off l.length cap 1) l
def abf(s S:aq):Prop:=s.aa≤S.aa∧∀d j o,d≤s.aa→s.get (.g d j)=some o→S.get (.g d j)=some o
theorem abf.refl(s:aq):abf s s:=⟨aX _,fun _ _ _ _ h=>h⟩
theorem abf.trans{s S b4:aq}(h:abf s S)(k:abf S b4):abf s b4:=⟨Nat.le_trans h.1 k.1,fun d j o bI e=>k.2 d j o (Nat.le_trans bI h.1) (h.2 d j o bI e)⟩
theorem Child.aa{s S:aq}(h:Child s S):S.aa=s.aa+1:=by simp [aq.aa,h.up,h.ro];omega
theorem Child.jO{s S:aq}(h:Child s S):abf s S:=by
 refine⟨by rw[h.aa];omega,fun d j o bI e=>?_⟩;have aD:=h.aa;simp only[aq.get] at e ⊢;rw[if_neg (by omega),if_pos (by omega),h.up,h.ro];by_cases bU:d=s.aa
 ·rw[if_pos bU] at e
  have:S.aa-1-d=0:=by omega
  rw[this];simpa using e
 ·rw[if_neg bU,if_pos (by omega)] at e
  have:S.aa-1-d=(s.aa-1-d)+1:=by omega
  rw[this];simpa using e
theorem abf.new(s:aq)(o:bd):abf s (s.new o):=by
 refine⟨aX _,fun d j x bI e=>?_⟩;simp only[aq.get] at e ⊢
 have:(s.new o).aa=s.aa:=rfl;rw[this];split
 ·rename_i h;rw[if_pos h] at e;have cp:=(bZ.1 e).1;simp only[aq.new];rw[ev cp];exact e
 ·rename_i h;rw[if_neg h] at e;exact e
theorem jC.jO{s S:aq}{v:ai}{l:List Nat}(h:jC s v l)(bG:abf s S):jC S v l:=by
 cases h with
 |aW l g bD=>exact .aW l g (bD.le bG.1)
 |cw d j off cap cs l bI bD br hle a9=>exact .cw d j off cap cs l (Nat.le_trans bI bG.1) (bG.2 d j _ bI bD) br hle a9
theorem jC.ak{s:aq}{v:ai}{l:List Nat}(h:jC s v l)(d:Nat):v.ak d=v:=by
 cases h with
 |aW l g bD=>
  cases g with
  |bQ a=>obtain⟨x,i,rfl,_⟩:=bD a rfl;rfl
  |_=>rfl
 |cw=>rfl
theorem jC.len{S:aq}{v:ai}{l:List Nat}(h:jC S v l)(k:a1)(b4:aq):(aH T G X).aY b4 k false v=k (.int .i64 (l.length:Int)) b4:=by
 cases h with
 |aW l g bD=>rw[bg,b2]
 |cw=>rfl
theorem jC.get{S:aq}{v:ai}{l:List Nat}(h:jC S v l)(kk:IntKind)(i:Nat)(bk:i<l.length)(k:a1):(aH T G X).aZ S (fun v S=>(aH T G X).aj S k none v) 1 v (.int kk (i:Int))=k (U (l.getD i 0)) S:=by
 cases h with
 |aW l g bD=>rw[iw 1 _ g kk i (U (l.getD i 0)) (by simp [List.getD,bk])];rfl
 |cw d j off cap cs l bI bD br hle a9=>
  rw[nl _ _ _ _ _ _ _ bk,k5];simp only[fq,bD,fc,Nat.mul_one];have r:off+i<cs.length:=by omega
  rw[gl r];have e:cs[off+i]=U (l.getD i 0):=by
   have aD:((cs.drop off).take l.length)[i]? =(l.map U)[i]?:=by rw[br]
   rw[List.getElem?_take,if_pos bk,List.getElem?_drop,dM r] at aD;simp [bk] at aD;rw[aD];simp [List.getD,bk]
  rw[e];rfl
theorem jC.ptr{S:aq}{v:ai}{l:List Nat}(h:jC S v l)(kk:IntKind)(i:Nat)(bk:i<l.length):∃p,(∀(b4:aq) (k:a1),(aH T G X).aZ b4 k 1 v (.int kk (i:Int))=k p b4)∧∀k:a1,(aH T G X).aj S k none p=k (U (l.getD i 0)) S:=by
 have bD:=fun k=>h.get (T:=T) (G:=G) (X:=X) kk i bk k
 cases h with
 |aW l g r=>
  have e:=fun(b4:aq) (k:a1)=>iw (T:=T) (G:=G) (X:=X) (s:=b4) (k:=k) 1 (l.map U) g kk i (U (l.getD i 0)) (by simp [List.getD,bk])
  refine⟨_,e,fun k=>?_⟩
  have:=bD k;rw[e] at this;exact this
 |cw d j off cap cs l bI r br hle a9=>
  have e:=fun(b4:aq) (k:a1)=>nl (T:=T) (G:=G) (X:=X) (S:=b4) (k:=k) (.g d j) off l.length cap 1 kk i bk
  refine⟨_,e,fun k=>?_⟩
  have:=bD k;rw[e] at this;exact this
def ln(g:cd)(len n:Nat):cd:=
 match g with
 |.nil=>.nil
 |.exact=>if n=len then .exact else .any
 |.bQ a=>if 0=0∧n=len then .bQ a else .any
 |.any=>.any
def kj(v:ai)(n:Nat):ai:=
 match v with
 |.aW z es g=>.aW z (es.take n) (ln g es.length n)
 |.cw a off _ cap z=>.cw a off n cap z
 |v=>v
theorem y0{g:cd}(bD:∀a,g≠.bQ a)(len n:Nat):∀a,ln g len n≠.bQ a:=fun a=>by
 cases g with
 |bQ b=>exact absurd rfl (bD b)
 |nil=>intro e;cases e
 |exact=>intro e;simp only[ln] at e;split at e<;> cases e
 |any=>intro e;cases e
theorem Z7{d:Nat}{g:cd}(bD:pc d g)(len n:Nat):pc d (ln g len n):=fun a e=>by
 cases g with
 |bQ b=>
  simp only[ln] at e;split at e
  ·exact bD a e
  ·cases e
 |nil=>cases e
 |exact=>simp only[ln] at e;split at e<;> cases e
 |any=>cases e
theorem jC.slice{S:aq}{v:ai}{l:List Nat}(h:jC S v l)(n:Nat)(bX:n≤l.length)(k:a1)(b4:aq):(aH T G X).jy 1 v none (some (.int .i64 (n:Int))) none b4 k=k (kj v n) b4:=by
 cases h with
 |aW l g bD=>show lM 1 (.aW 1 (l.map U) g) none (some (.int .i64 (n:Int))) none b4 k=_;unfold lM;simp only[pB,hs,fE,dN (Nat.zero_le n),show Nat.ble n (l.map U).length=true from dN (by simpa using bX),show qC g 0 n (l.map U)=true from by cases g<;> first|rfl |(simp only[qC,gb,Bool.or_true]),eD,cb,bT,Nat.sub_zero];cases g<;> first|rfl |simp [kj,ln]
 |cw d j off cap cs l bI bD br hle a9=>show lM 1 (.cw (.g d j) off l.length cap 1) none (some (.int .i64 (n:Int))) none b4 k=_;unfold lM;simp only[pB,hs,fE,dN (Nat.zero_le n),show Nat.ble n cap=true from dN (by omega),show Nat.ble cap cap=true from dN (aX _),dN a9,eD,cb,Nat.sub_zero,Nat.zero_mul,Nat.add_zero,ite_self];rfl
theorem jC.cut{S:aq}{v:ai}{l:List Nat}(h:jC S v l)(n:Nat)(bX:n≤l.length):jC S (kj v n) (l.take n):=by
 cases h with
 |aW l g bD=>show jC S (.aW 1 ((l.map U).take n) (ln g (l.map U).length n)) (l.take n);rw[←List.map_take];exact .aW _ _ (Z7 bD _ _)
 |cw d j off cap cs l bI bD br hle a9=>
  have e:(l.take n).length=n:=by simp;omega
  have:=jC.cw (s:=S) d j off cap cs (l.take n) bI bD (by
   rw[e];have aD:((cs.drop off).take l.length).take n=(l.map U).take n:=by rw[br]
   rw[List.take_take,Nat.min_eq_left bX] at aD;rw[aD,List.map_take]) (by omega) (by omega)
  rwa [e] at this
theorem mE:∀(l:List Nat) (n:Nat) (cs:List ai),n=l.length→cs.take n=l.map U→chunk 1 n cs=l.map U
 |[],n,cs,bX,_=>by subst bX;rfl
 |x::l,n,cs,bX,h=>by
  subst bX;cases cs with
  |nil=>simp at h
  |cons c cs=>simp only[c0,hI,fU,List.cons.injEq] at h;simp only[c0,chunk,dt,bT];rw[mE l l.length cs rfl h.2,fU,h.1];rfl
def gT(v:ai)(l:List Nat):Prop:=∃g,v=.aW 1 (l.map U) g∧∀a,g≠.bQ a
theorem gT.rd{v:ai}{l:List Nat}(h:gT v l)(s:aq):jC s v l:=by obtain⟨g,rfl,bD⟩:=h;exact .aW l g (pc.not bD _)
theorem gT.nil:gT (.aW 1 [] .nil) []:=⟨.nil,rfl,fun a e=>by cases e⟩
theorem jC.same{s S:aq}{v:ai}{l:List Nat}(h:jC s v l)(e:Child s S):Ab.freeze S v=some v:=by
 have r:=e.aa;cases h with
 |aW l g bD=>
  show dT S _=_;cases g with
  |bQ a=>obtain⟨x,i,rfl,aT⟩:=bD a rfl;simp only[dT];rw[if_pos (by omega)]
  |_=>rfl
 |cw d j off cap cs l bI bD br hle a9=>show dT S (.cw (.g d j) off l.length cap 1)=_;simp only[dT];rw[if_neg (by omega),if_pos (by omega)]
theorem kM{S:aq}{j off n cap:Nat}{cs:List ai}(l:List Nat)(bX:n=l.length)(bD:S.own[j]? =some (.cells cs))(br:(cs.drop off).take l.length=l.map U)(hle:off+l.length≤cs.length):∃fX,Ab.freeze S (.cw (.g S.aa j) off n cap 1)=some fX∧gT fX l:=by
 subst bX;refine⟨.aW 1 (l.map U) (if l.length=cap then .exact else .any),?_,_,rfl,fun a=>?_⟩
 ·show dT S (.cw (.g S.aa j) off l.length cap 1)=_;simp only[dT,if_true,iF,bD];rw[mE l l.length (cs.drop off) rfl br,gb];rw[if_pos];simp only[Nat.mul_one,cG,bL];exact⟨dN hle,rfl⟩
 ·split<;> (intro e;cases e)
theorem jC.freeze{s S:aq}{v:ai}{l:List Nat}(h:jC S v l)(r:Child s S):∃fX,Ab.freeze S v=some fX∧jC s fX l:=by
 have H:=r.aa;cases h with
 |aW l g bD=>
  cases g with
  |bQ a=>
   obtain⟨x,i,rfl,aT⟩:=bD a rfl;by_cases u:x<S.aa
   ·refine⟨.aW 1 (l.map U) (.bQ (.g x i)),?_,.aW l _ (fun a e=>⟨x,i,by cases e;rfl,by omega⟩)⟩;show(if x<S.aa then some (ai.aW 1 (l.map U) (.bQ (.g x i))) else _)=_;rw[if_pos u]
   ·refine⟨.aW 1 (l.map U) .any,?_,.aW l _ (fun a e=>by cases e)⟩;show(if x<S.aa then _ else if ai.bj (l.map U)=true then some (ai.aW 1 (l.map U) .any) else none)=_;rw[if_neg u,if_pos (gb l)]
  |nil=>exact⟨_,rfl,.aW l _ (fun a e=>by cases e)⟩
  |exact=>exact⟨_,rfl,.aW l _ (fun a e=>by cases e)⟩
  |any=>exact⟨_,rfl,.aW l _ (fun a e=>by cases e)⟩
 |cw d j off cap cs l bI bD br hle a9=>
  by_cases e:d=S.aa
  ·subst e;have B:S.own[j]? =some (.cells cs):=by simpa [aq.get] using bD
   refine⟨.aW 1 (l.map U) (if l.length=cap then .exact else .any),?_,.aW l _ (fun a=>?_)⟩
   ·show dT S (.cw (.g S.aa j) off l.length cap 1)=_;simp only[dT,if_true,iF,B];rw[mE l l.length (cs.drop off) rfl br,gb];rw[if_pos];simp only[Nat.mul_one,cG,bL];exact⟨dN hle,rfl⟩
   ·split<;> (intro e;cases e)
  ·have y:d<S.aa:=by omega
   refine⟨.cw (.g d j) off l.length cap 1,?_,.cw d j off cap cs l (by omega) ?_ br hle a9⟩
   ·show dT S (.cw (.g d j) off l.length cap 1)=_;simp only[dT];rw[if_neg e,if_pos y]
   ·simp only[aq.get] at bD ⊢;rw[if_neg e,if_pos y,r.up,r.ro] at bD;by_cases bU:d=s.aa
    ·rw[if_pos bU]
     have:S.aa-1-d=0:=by omega
     rw[this] at bD;simpa using bD
    ·rw[if_neg bU,if_pos (by omega)]
     have:S.aa-1-d=(s.aa-1-d)+1:=by omega
     rw[this] at bD;simpa using bD
theorem jC.own{S:aq}{j off n cap:Nat}{cs:List ai}(l:List Nat)(bX:n=l.length)(bD:S.own[j]? =some (.cells cs))(br:(cs.drop off).take l.length=l.map U)(hle:off+l.length≤cs.length)(a9:l.length≤cap):jC S (.cw (.g S.aa j) off n cap 1) l:=by subst bX;exact .cw S.aa j off cap cs l (aX _) (by simpa [aq.get] using bD) br hle a9
def fT(S:aq)(j:Nat)(l:List Nat):Prop:=S.own[j]? =some (.cells (l.map U))
def aq.put(S:aq)(j:Nat)(l:List Nat):aq:={S with own:=S.own.set j (.cells (l.map U))}
theorem fT.put{S:aq}{j:Nat}{l:List Nat}(h:fT S j l)(l':List Nat):fT (S.put j l') j l':=by have cp:=(bZ.1 h).1;simp [fT,aq.put,cp]
theorem Child.put{s S:aq}(h:Child s S)(j:Nat)(l:List Nat):Child s (S.put j l):=⟨h.up,h.ro⟩
theorem fT.get{S:aq}{j:Nat}{l:List Nat}(h:fT S j l)(i n cap:Nat)(bk:i<l.length)(bX:i<n)(k:a1):(aH T G X).aZ S (fun v S=>(aH T G X).aj S k none v) 1 (.cw (.l j) 0 n cap 1) (.int .i64 (i:Int))=k (U (l.getD i 0)) S:=by rw[nl _ _ _ _ _ _ _ bX,Cx h (c:=U (l.getD i 0)) (by simp [List.getD,bk])]
theorem fT.ez{S:aq}{j:Nat}{l:List Nat}(h:fT S j l)(i n cap x:Nat)(bk:i<l.length)(bX:i<n)(k:a1):(aH T G X).aZ S (fun v S=>(aH T G X).a6 S k 1 v (U x)) 1 (.cw (.l j) 0 n cap 1) (.int .i64 (i:Int))=k .dead (S.put j (l.set i x)):=by rw[nl _ _ _ _ _ _ _ bX,mU];have e:(U x).fo=true:=rfl;simp only[hp,e,ai.cells,c0,ek,cf,fE,eD,cb];unfold jJ;rw[show S.get (.l j)=some (.cells (l.map U)) from h];simp only[Nat.mul_one,c0,ek,cf,show Nat.ble (i+1) (l.map U).length=true from dN (by simp;omega),show S.ho (.l j) [U x]=true from by simp [aq.ho,aq.uP],List.all_cons,show(U x).dZ=true from rfl,List.all_nil,eD,cb];show k .dead {S with own:=S.own.set j (.cells ((l.map U).set i (U x)))}=_;rw[aq.put,List.map_set]
theorem fT.make(S:aq)(n:Nat):fT (S.new (.cells (List.replicate n (U 0)))) S.own.length (List.replicate n 0):=by simp [fT,aq.new]
theorem fT.rd{S:aq}{j:Nat}{l:List Nat}(h:fT S j l)(n cap:Nat)(bX:n≤l.length)(a9:n≤cap):jC S (.cw (.g S.aa j) 0 n cap 1) (l.take n):=by refine jC.own (l.take n) (by simp;omega) h ?_ (by simp;omega) (by simp;omega);simp [List.map_take]
theorem fD(d i o l c z:Nat):ai.ak d (.cw (.l i) o l c z)=.cw (.g d i) o l c z:=rfl
theorem vX:∀l:List Nat,(l.map U).flatMap ai.cells=l.map U
 |[]=>rfl
 |x::l=>by simp only[fU,List.flatMap_cons,vX l];rfl
theorem vY:∀l:List Nat,(l.map U).all ai.dZ=true
 |[]=>rfl
 |x::l=>by simp only[fU,List.all_cons,vY l,Bool.and_true];rfl
theorem jC.k9{S:aq}{v:ai}{l:List Nat}(h:jC S v l):dB S v=some (1,l.map U):=by
 cases h with
 |aW l g bD=>
  cases g with
  |bQ a=>simp only[dB,gb,if_true]
  |_=>rfl
 |cw d j off cap cs l bI bD br hle a9=>simp only[dB,bD];rw[mE l l.length (cs.drop off) rfl br,gb];rw[if_pos];simp only[Nat.mul_one,cG,bL];exact⟨dN hle,rfl⟩
theorem Gi(vs cs:List ai)(h:vs.length≤cs.length):dq cs 0 vs=vs++cs.drop vs.length:=by
 apply List.ext_getElem?;intro j;rw[hc _ _ _ (by omega)];by_cases cp:j<vs.length
 ·rw[if_pos (by omega),ev cp];rfl
 ·rw[if_neg (by omega),i9 (by omega),List.getElem?_drop];congr 1;omega
theorem fT.copy{S:aq}{v:ai}{l e:List Nat}{j n:Nat}(h:fT S j e)(bG:jC S v l)(br:l.length≤e.length)(bX:n=e.length)(k:a1):(aH T G X).sB S k 1 (.cw (.l j) 0 n n 1) v=k (.int .i64 (l.length:Int)) (S.put j (l++e.drop l.length)):=by subst bX;show mr _ S k 1 (.cw (.l j) 0 e.length e.length 1) v=_;unfold mr;simp only[fE,cb];unfold copyV;simp only[bG.k9,show S.get (.l j)=some (.cells (e.map U)) from h,b2,Nat.min_eq_left br,fE,cG,cf,Nat.mul_one,dN (aX _)];rw[show(l.map U).take l.length=l.map U from gG (by simp),vX,vY];simp only[cb];rw[Gi _ _ (by simpa using br)];simp only[b2];show k _ {S with own:=S.own.set j (.cells (l.map U++(e.map U).drop l.length))}=_;rw[←List.map_drop,←List.map_append];rfl
theorem ix{S:aq}{j n:Nat}{cs vs:List ai}(h:S.own[j]? =some (.cells cs))(aD:vs.length=n)(aG:cs.length=n)(bz:vs.all ai.dZ=true):(aH T G X).a6 S k n (.ref (.l j) 0) (.agg vs)=k .dead {S with own:=S.own.set j (.cells vs)}:=by
 rw[mU];unfold hp;simp only[ai.fo,ai.cells,aD,fE,eD,cb];unfold jJ;rw[show S.get (.l j)=some (.cells cs) from h];have e:dq cs 0 vs=vs:=vW _ _ (by omega);have bU:Nat.ble (0+vs.length) cs.length=true:=dN (by omega);have r:S.ho (.l j) vs=true:=by simp [aq.ho,aq.uP]
 simp only[bU,r,bz,eD,cb,e];rfl
theorem ht{S:aq}{j n:Nat}{cs:List ai}(h:S.own[j]? =some (.cells cs))(bX:cs.length=n):eF S (.ref (.l j) 0) (some n)=some (.agg cs):=by unfold eF;simp only[show S.get (.l j)=some (.cells cs) from h,cf,bT];rw[if_pos (dN (by omega)),gG (by omega)]
theorem gT.freeze{v:ai}{l:List Nat}(h:gT v l)(S:aq):Ab.freeze S v=some v:=by obtain⟨g,rfl,bD⟩:=h;show dT S _=_;cases g<;> first|rfl |exact absurd rfl (bD _)
theorem gT.ak{v:ai}{l:List Nat}(h:gT v l)(d:Nat):v.ak d=v:=(h.rd default).ak d
theorem gT.dT{v:ai}{l:List Nat}(h:gT v l)(S:aq):Ab.dT S v=some v:=by obtain⟨g,rfl,bD⟩:=h;cases g<;> first|rfl |exact absurd rfl (bD _)
theorem gT.bp{v:ai}{l:List Nat}(h:gT v l):v.bp=true:=by obtain⟨g,rfl,bD⟩:=h;cases g<;> first|rfl |exact absurd rfl (bD _)
theorem gT.dZ{v:ai}{l:List Nat}(h:gT v l):v.dZ=true:=by obtain⟨g,rfl,bD⟩:=h;rfl
theorem gT.cut{v:ai}{l:List Nat}(h:gT v l)(n:Nat):gT (kj v n) (l.take n):=by obtain⟨g,rfl,bD⟩:=h;exact⟨ln g (l.map U).length n,by simp [kj,List.map_take],y0 bD _ _⟩
theorem gT.eB(l:List Nat):gT (.aW 1 (l.map U) .exact) l:=⟨.exact,rfl,fun a e=>by cases e⟩
theorem Z8{S:aq}{j:Nat}{l:List Nat}(h:fT S j l):S.put j l=S:=by
 obtain⟨own,up,ro⟩:=S;simp only[fT] at h;simp only[aq.put];congr 1;apply List.ext_getElem?;intro i;by_cases e:j=i
 ·subst e;rw[List.getElem?_set_self (bZ.1 h).1,h]
 ·rw[ew e]
theorem fT.R0{S:aq}{i j:Nat}{l:List Nat}(h:fT S j l)(cQ:i≠j)(l':List Nat):fT (S.put i l') j l:=by simp only[fT,aq.put] at h ⊢;rw[ew cQ];exact h
theorem fT.new{S:aq}{j:Nat}{l:List Nat}(h:fT S j l)(o:bd):fT (S.new o) j l:=by simp only[fT,aq.new] at h ⊢;rw[ev (bZ.1 h).1];exact h
theorem fT.lt{S:aq}{j:Nat}{l:List Nat}(h:fT S j l):j<S.own.length:=(bZ.1 h).1
theorem hv(a:ai)(l:List ai):(aH T G X).bh s k 0 (.cT (a::l))=k a s:=gn _ _ _ rfl
theorem hx(a b:ai)(l:List ai):(aH T G X).bh s k 1 (.cT (a::b::l))=k b s:=gn _ _ _ rfl
theorem pY(a b c:ai)(l:List ai):(aH T G X).bh s k 2 (.cT (a::b::c::l))=k c s:=gn _ _ _ rfl
theorem l4(l:List Nat):(aH T G X).av s k 1 (l.map U)=k (.aW 1 (l.map U) .exact) s:=by
 refine iY 1 _ (gb l) ?_
 induction l with
 |nil=>rfl
 |cons x l e=>simp only[fU,List.all_cons,e,Bool.and_true];rfl
end Go.Ab
end
section
namespace Go.Ab
def pZ:aq:={own:=[],up:=[],ro:=[]}
def fZ(w:World):b9:={F:=fun a=>if a.spot=none then w.cell? a else none,n:=fun _=>0,loc:=fun _ _=>0,nB:=fun _ _ _=>none}
theorem dw.init(w:World):dw (fZ w) pZ w:=by
 have e:∀d i,pZ.get (.g d i)=none:=by intro d i;simp [aq.get,pZ]
 refine⟨fun a v h=>?_,fun d l h=>?_,fun d i o h=>?_,fun d i o ga kf o' b h=>?_⟩
 ·simp only[fZ] at h;split at h
  ·rename_i bl;exact⟨bl,h⟩
  ·cases h
 ·unfold aq.aC pZ at h;simp at h;simp [h,fZ]
 ·rw[e] at h;cases h
 ·rw[e] at h;cases h
structure Left (w w':World):Prop where
 size:w.heap.size≤w'.heap.size
 os:w'.os=w.os
 tape:w'.tape=w.tape
 output:w'.output=w.output
 mv:∀b,b<w.heap.size→w'.heap[b]? =w.heap[b]?
theorem gi.left{w w':World}{κ':b9}{s':aq}(h:gi (fZ w) pZ w κ' s' w'):Left w w':=
 ⟨h.size,h.os,h.tape,h.output,fun b e=>h.ZT b e (fun⟨d,i,o,bD,_⟩=>by simp [aq.get,pZ] at bD)⟩
section
variable{P:Program}(hm:P.follows .mixedOrders=true){T:mQ}(fF:T.uO P){sw:Nat→Option bY}(Co:Nf P T sw){G:Nat→ai}{X:Nat→List ai→aq→ao}(mP:aqW P sw G X)
include hm fF Co mP
theorem Gj{n f:Nat}{args:List ai}{s':aq}{w:World}{xs:List Value}(h:call .not sw G X n f args pZ=.ok (.bool true) s')(bq:sw f≠none)(dL:ly (fZ w) G)(aT:ea (fZ w) 1 args xs):
  Calls P f xs.toArray w fun e w'=>e=.returned (.bool true)∧Left w w':=by
 have y:∃fn,P.funcs[f]? =some fn∧fn.body.isSome=true∧(fn.name== "runtime.NumGoroutine")=false:=by
  cases cB:sw f with
  |none=>exact absurd cB bq
  |some B=>
   obtain⟨fn,aD,aG⟩:=Co f B cB;unfold yM at aG;cases r:fn.body with
   |none=>rw[r] at aG;cases aG
   |some c=>rw[r] at aG;simp only[bL,Bool.not_eq_true'] at aG;exact⟨fn,aD,by simp [r],aG.1.1.1.1⟩
 have H:∀x w',nc (fZ w) pZ w (.bool true) s' x w'→x=.bool true∧Left w w':=fun x w' ⟨κ',aD,_,bz⟩=>by exact⟨c8.hg (b:=true) bz,aD.left⟩
 rcases(yO hm fF Co mP n 0).ok f args pZ _ s' (fZ w) w xs h (dw.init w) dL aT with⟨x,w',aD,aG⟩|⟨aD,aG⟩
 ·obtain⟨fn,I,u,J⟩:=y;exfalso;have K:¬fn.name= "runtime.NumGoroutine" :=by simpa using J
  cases r:fn.body with
  |none=>rw[r] at u;cases u
  |some c=>simp [callFunc,I,K,r] at aD
 ·exact aG.mono fun e w' ⟨x,he,L⟩=>by obtain⟨bU,M⟩:=H x w' L;exact⟨by rw[he,bU],M⟩
end
inductive pC where
 |bool|int (k:IntKind)|str|aW (e:pC)|ez (j7:List pC)
mutual
def pC.size:pC→Nat
 |.ez j7=>pC.p0 j7
 |_=>1
def pC.p0:List pC→Nat
 |[]=>0
 |s::w8=>s.size+pC.p0 w8
end
def elemV:List ai→ai
 |[c]=>c
 |cs=>.agg cs
section
variable{H:Type}
mutual
def gK:pC→DataW H→List ai
 |.bool,d=>match d with |.lit (.bool b)=>[.bool b]|_=>[]
 |.int k,d=>match d with |.lit (.int _ n)=>[.int k n]|_=>[]
 |.str,d=>match d with |.lit (.string eB)=>[.str (eB.map UInt8.toNat)]|_=>[]
 |.aW e,d=>match d with |.slice es _=>[.aW e.size (es.map fun x=>elemV (gK e x)) .any]|_=>[.aW e.size [] .nil]
 |.ez j7,d=>match d with |.agg ib=>pd j7 ib|_=>[]
def pd:List pC→List (DataW H)→List ai
 |[],_=>[]
 |s::w8,l=>match l with |d::ib=>gK s d++pd w8 ib|[]=>[]
end
mutual
def gX:pC→DataW H→Prop
 |.bool,d=>∃b,d=.lit (.bool b)
 |.int k,d=>∃n,d=.lit (.int k n)∧(Lit.int k n).wf=true
 |.str,d=>∃eB,d=.lit (.string eB)∧eB.length≤maxLen
 |.aW e,d=>d=.nil∨∃es rest,d=.slice es rest∧es.length+rest.length≤maxLen∧∀x,x∈es→gX e x
 |.ez j7,d=>∃ib,d=.agg ib∧gh j7 ib
def gh:List pC→List (DataW H)→Prop
 |[],l=>l=[]
 |s::w8,l=>∃d ib,l=d::ib∧gX s d∧gh w8 ib
end
mutual
def nn(P:Program):pC→TypeId→Bool
 |.bool,t=>match P.underlying t with |some .bool=>true|_=>false
 |.int k,t=>match P.underlying t with |some (.int jh)=>decide (jh=k)|_=>false
 |.str,t=>match P.underlying t with |some .string=>true|_=>false
 |.aW e,t=>match P.underlying t with |some (.slice u)=>nn P e u&&Nat.beq (P.cellsOf u) e.size&&Nat.blt 0 e.size|_=>false
 |.ez j7,t=>match P.underlying t with |some (.struct uT)=>u7 P j7 uT.toList 0&&Nat.beq (P.cellsOf t) (pC.p0 j7)|_=>false
def u7(P:Program):List pC→List Field→Nat→Bool
 |[],uT,_=>match uT with |[]=>true|_=>false
 |s::w8,uT,off=>match uT with |f::uT=>Nat.beq f.offset off&&Nat.beq (P.cellsOf f.type) s.size&&nn P s f.type&&u7 P w8 uT (off+s.size)|[]=>false
end
structure R1 (κ:b9) (D:Nat) (n:Nat) (as:List ai) (cs:List Value):Prop where
 qJ:ea κ D as cs
 len:cs.length=n
 ref:ai.bj as=true
 one:∀c,c∈as→c.cells=[c]
theorem R1.abw{κ:b9}{D n:Nat}{as:List ai}{cs:List Value}(h:R1 κ D n as cs):as.length=n:=by rw[←h.qJ.1,h.len]
theorem R1.elem{κ:b9}{D n:Nat}{as:List ai}{cs:List Value}(h:R1 κ D n as cs):(elemV as).cells=as∧(elemV as).bp=true:=by
 unfold elemV;split
 ·rename_i c
  have:=h.ref;simp only[ai.bj,Bool.and_true] at this;exact⟨h.one c (by simp),this⟩
 ·exact⟨rfl,by simpa [ai.bp] using h.ref⟩
theorem sE:∀{a b:List ai},ai.bj a=true→ai.bj b=true→ai.bj (a++b)=true
 |[],b,_,h=>h
 |x::a,b,h,k=>by simp only[ai.bj,bL] at h;simp only[List.cons_append,ai.bj,h.1,sE h.2 k,eD]
theorem R1.append{κ:b9}{D n m:Nat}{as eB:List ai}{cs ib:List Value}(h:R1 κ D n as cs)(k:R1 κ D m eB ib):R1 κ D (n+m) (as++eB) (cs++ib):=
 ⟨h.qJ.append k.qJ,by simp [h.len,k.len],sE h.ref k.ref,fun c a9=>by
  rcases List.mem_append.1 a9 with aD|aD
  ·exact h.one c aD
  ·exact k.one c aD⟩
theorem R1.single{κ:b9}{D:Nat}{a:ai}{v:Value}(h:c8 κ D a v)(aQ:a.bp=true)(aD:a.cells=[a]):R1 κ D 1 [a] [v]:=
 ⟨.cons h (.nil _ _),rfl,by simp [ai.bj,aQ],fun c a9=>by simp only[List.mem_singleton] at a9;subst a9;exact aD⟩
variable{enc:TypeId×Value→H}{P:Program}{w:World}
mutual
theorem p1(D:Nat):∀(Nm:pC) (t:TypeId) (fuel:Nat) (cs:List Value) (d:DataW H) (fk:List MemPlace),nn P Nm t=true→DataW.trod enc P w 0 (fun _=>true) true fuel t cs=some (d,fk)→
  R1 (fZ w) D Nm.size (gK Nm d) cs∧gX Nm d
 |.bool,t,fuel,cs,d,fk,bl,h=>by
  simp only[nn] at bl;split at bl<;> try cases bl
  rename_i hu;obtain⟨b,rfl,e⟩:=DataW.trod_bool hu h;cases e;exact⟨.single (.bool b) rfl rfl,by simp only[gX];exact⟨b,rfl⟩⟩
 |.int k,t,fuel,cs,d,fk,bl,h=>by
  simp only[nn] at bl;split at bl<;> try cases bl
  rename_i jh hu;have cg:jh=k:=of_decide_eq_true bl;subst cg;obtain⟨n,rfl,e,hw⟩:=DataW.trod_int hu h;cases e;exact⟨.single (.int jh n) rfl rfl,by simp only[gX];exact⟨n,rfl,hw⟩⟩
 |.str,t,fuel,cs,d,fk,bl,h=>by
  simp only[nn] at bl;split at bl<;> try cases bl
  rename_i hu;obtain⟨s,rfl,e,hw⟩:=DataW.trod_string hu h;cases e;exact⟨.single (.str _ s rfl) rfl rfl,by simp only[gX];exact⟨_,rfl,hw⟩⟩
 |.aW e,t,fuel,cs,d,fk,bl,h=>by
  simp only[nn] at bl;split at bl<;> try cases bl
  rename_i u hu;simp only[bL] at bl;obtain⟨⟨awz,dY⟩,iq⟩:=bl;have dY:=c2 dY;have iq:0<e.size:=by simpa [Nat.blt_eq] using iq
  rcases DataW.trod_slice hu h with⟨rfl,bU⟩|⟨a,len,cap,k9,rest,n,rfl,rfl,bU,_,w2,vI,hlen,j0,awA,_⟩
  ·cases bU;exact⟨.single (.lr _) rfl rfl,by simp only[gX];exact .inl trivial⟩
  ·cases bU;have row:∀i,i<len→∃x r,k9[i]? =some x∧(∀j,j<e.size→w.cell? (a.add (i*e.size+j))=r[j]?)∧R1 (fZ w) D e.size (gK e x.1) r∧gX e x.1:=fun i bk=>by
    have aD:=j0 i bk;obtain⟨x,aT⟩:∃x,k9[i]? =some x:=⟨_,dM (by omega)⟩;rw[aT] at aD;obtain⟨r,aQ,aG⟩:=Option.bind_eq_some_iff.1 aD;obtain⟨_,hi,yu⟩:=World.cells?_some aQ;obtain⟨gw,hj⟩:=p1 D e u n r x.1 x.2 awz aG;refine⟨x,r,aT,fun j cp=>?_,gw,hj⟩
    have:=yu j (by omega);rw[add_add,dY] at this;exact this
   have arb:=(awA rfl).1;have hV:∀y,y∈k9→∃r,R1 (fZ w) D e.size (gK e y.1) r∧gX e y.1:=fun y dX=>by
    obtain⟨i,bk,dX⟩:=List.getElem_of_mem dX;obtain⟨x,r,aT,_,gw,hj⟩:=row i (by omega)
    have:x=y:=by rw[dM bk,dX] at aT;exact(Option.some.inj aT).symm
    subst this;exact⟨r,gw,hj⟩
   have R2:∀y,y∈(k9.map (·.1)).map (fun x=>elemV (gK e x))→y.cells.length=e.size∧y.bp=true:=fun y dX=>by simp only[List.map_map,List.mem_map,Function.comp] at dX;obtain⟨z,io,rfl⟩:=dX;obtain⟨r,gw,_⟩:=hV z io;exact⟨by rw[gw.elem.1,gw.abw],gw.elem.2⟩
   have BA:((k9.map (·.1)).map (fun x=>elemV (gK e x))).length=len:=by simp [hlen]
   have abx:=eO ((k9.map (·.1)).map (fun x=>elemV (gK e x))) e.size (fun y dX=>(R2 y dX).1);rw[BA] at abx;have cell:∀j,j<len*e.size→∃c v,(((k9.map (·.1)).map (fun x=>elemV (gK e x))).flatMap ai.cells)[j]? =some c∧w.cell? (a.add j)=some v∧c8 (fZ w) D c v:=fun j cp=>by
    have dQ:j/e.size<len:=Nat.div_lt_of_lt_mul (by rw[dE];exact cp);have hF:j%e.size<e.size:=Nat.mod_lt _ iq;have FM:j/e.size*e.size+j%e.size=j:=by rw[dE];exact Nat.div_add_mod j e.size
    obtain⟨x,r,aT,a9,gw,_⟩:=row _ dQ;have a9:=a9 _ hF;rw[FM] at a9;have bU:((k9.map (·.1)).map (fun x=>elemV (gK e x)))[j/e.size]? =some (elemV (gK e x.1)):=by simp [aT]
    have f1:=oo _ e.size _ _ (fun y dX=>(R2 y dX).1) bU _ hF;rw[FM,gw.elem.1] at f1;obtain⟨c,Z9⟩:∃c,(gK e x.1)[j%e.size]? =some c:=⟨_,dM (by rw[gw.abw];exact hF)⟩;obtain⟨v,bG,u9⟩:=gw.qJ.get Z9;exact⟨c,v,by rw[f1,Z9],by rw[a9,bG],u9⟩
   have aby:0<len→a.spot=none:=fun cL=>by
    obtain⟨c,v,_,bG,_⟩:=cell 0 (Nat.mul_pos cL iq)
    have:a.add 0=a:=by simp [Addr.add]
    rw[this] at bG;exact World.cell?_spot bG
   refine⟨.single ?_ (by simp [ai.bp]) rfl,?_⟩
   ·have key:c8 (fZ w) D (.aW e.size ((k9.map (·.1)).map (fun x=>elemV (gK e x))) .any) (.slice (some a) ((k9.map (·.1)).map (fun x=>elemV (gK e x))).length cap):=by
     refine .aW e.size _ .any a cap (fun j=>(w.cell? (a.add j)).getD undef) trivial (by rw[BA];exact w2) (fun cQ=>aby ?_) (fun y dX=>(R2 y dX).1) (.inl fun y dX=>(R2 y dX).2) (fun j cp=>?_) (fun j c a9=>?_)
     ·rw[←BA];exact List.length_pos_iff.2 cQ
     ·rw[abx] at cp;obtain⟨c,v,_,bG,_⟩:=cell j cp;have cL:0<len:=Nat.pos_of_ne_zero fun kR=>by rw[kR] at cp;simp at cp
      simp only[fZ,m6 (aby cL),if_true,bG,Option.getD_some]
     ·have cp:j<len*e.size:=by rw[←abx];exact(bZ.1 a9).1
      obtain⟨og,v,lx,bG,u9⟩:=cell j cp;rw[a9] at lx;cases lx;simp only[bG,Option.getD_some];exact u9
    rw[BA] at key;exact key
   ·simp only[gX];refine .inr ⟨_,_,rfl,by simp [hlen,arb];omega,fun x aT=>?_⟩;simp only[List.mem_map] at aT;obtain⟨y,dX,rfl⟩:=aT;exact(hV y dX).choose_spec.2
 |.ez j7,t,fuel,cs,d,fk,bl,h=>by
  simp only[nn] at bl;split at bl<;> try cases bl
  rename_i uT hu;simp only[bL] at bl;have dY:=c2 bl.2;obtain⟨xs,n,rfl,bU,br,gB,bq⟩:=DataW.trod_struct hu h;cases bU
  have:=sF D j7 uT.toList 0 n cs xs bl.1 (by simpa using gB) (by rw[br,dY];omega) (fun i f bk=>by simpa using bq i f (by simpa using bk));refine⟨?_,?_⟩
  ·simpa [gK,pC.size] using this.1
  ·simp only[gX];exact⟨_,rfl,this.2⟩
theorem sF(D:Nat):∀(w8:List pC) (uT:List Field) (off n:Nat) (cs:List Value) (xs:List (DataW H×List MemPlace)),u7 P w8 uT off=true→xs.length=uT.length→cs.length=off+pC.p0 w8→
  (∀(i:Nat) (f:Field),uT[i]? =some f→DataW.trod enc P w 0 (fun _=>true) true n f.type ((cs.drop f.offset).take (P.cellsOf f.type))=xs[i]?)→
  R1 (fZ w) D (pC.p0 w8) (pd w8 (xs.map (·.1))) (cs.drop off)∧gh w8 (xs.map (·.1))
 |[],uT,off,n,cs,xs,bl,aT,br,bq=>by
  cases uT with
  |cons f uT=>simp [u7] at bl
  |nil=>obtain rfl:xs=[]:=kU (by simpa using aT);simp only[pC.p0,Nat.add_zero] at br;rw[hl (by omega)];exact⟨⟨.nil _ _,rfl,rfl,fun c a9=>by simp [pd] at a9⟩,by simp [gh]⟩
 |s::w8,uT,off,n,cs,xs,bl,aT,br,bq=>by
  cases uT with
  |nil=>simp [u7] at bl
  |cons f uT=>
   simp only[u7,bL] at bl;obtain⟨⟨⟨aD,aG⟩,bz⟩,cz⟩:=bl;have aD:=c2 aD;have aG:=c2 aG;cases xs with
   |nil=>simp at aT
   |cons x xs=>
    have avG:=bq 0 f rfl;simp only[List.getElem?_cons_zero] at avG;rw[aD,aG] at avG;obtain⟨gw,hj⟩:=p1 D s f.type n _ x.1 x.2 bz avG;simp only[pC.p0] at br;obtain⟨xl,oh⟩:=sF D w8 uT (off+s.size) n cs xs cz (by simpa using aT) (by omega) (fun i MY bk=>by simpa using bq (i+1) MY (by simpa using bk));refine⟨?_,?_⟩
    ·have bU:cs.drop off=(cs.drop off).take s.size++cs.drop (off+s.size):=by
      rw[←List.drop_drop];exact(List.take_append_drop _ _).symm
     rw[bU];simpa [pd,pC.p0] using gw.append xl
    ·simp only[fU,gh];exact⟨_,_,rfl,hj,oh⟩
end
end
end Go.Ab
end
section
namespace Go.Ab
open Go.ChangeShapes Go.WideShapes
section
variable{H:Type}{enc:TypeId×Value→H}{P:Program}
def y1:pC→DataW H→ai
 |.ez j7,d=>.agg (gK (.ez j7) d)
 |Nm,d=>(gK Nm d).headD .dead
theorem Nn{W:World}(D:Nat){Nm:pC}{t:TypeId}{v:Value}{d:DataW H}{fk:List MemPlace}{base:Nat}(bl:nn P Nm t=true)(bG:Value.okWide P W .any base t v)(h:DataW.Trod enc P W 0 (fun _=>true) true t v d fk):
  c8 (fZ W) D (y1 Nm d) v∧gX Nm d:=by
 obtain⟨fuel,h⟩:=h;obtain⟨aD,aG⟩:=p1 D Nm t fuel _ d fk bl h;refine⟨?_,aG⟩;have single:Nm.size=1→(∀cs,v≠.agg cs)→c8 (fZ W) D ((gK Nm d).headD .dead) v:=fun io cQ=>by
  have a9:v.cells.toList=[v]:=by
   cases v<;> try rfl
   exact absurd rfl (cQ _)
  rw[a9] at aD;have jw:=aD.abw;rw[io] at jw
  match dQ:gK Nm d,jw with
  |[c],_=>obtain⟨x,aT,aQ⟩:=aD.qJ.get (j:=0) (c:=c) (by rw[dQ];rfl);cases aT;exact aQ
 cases Nm with
 |ez j7=>
  simp only[nn] at bl;split at bl<;> try cases bl
  rename_i uT hu;unfold Value.okWide at bG;rw[hu] at bG;obtain⟨cs,rfl,_,_⟩:=bG;exact .agg _ cs.toList aD.qJ.1 aD.qJ.2
 |bool=>
  refine single rfl fun cs e=>?_
  subst e;simp only[nn] at bl;split at bl<;> try cases bl
  rename_i hu;simp [Value.okWide,hu,Cell.okWide,Cell.ok] at bG
 |int k=>
  refine single rfl fun cs e=>?_
  subst e;simp only[nn] at bl;split at bl<;> try cases bl
  rename_i hu;simp [Value.okWide,hu,Cell.okWide,Cell.ok] at bG
 |str=>
  refine single rfl fun cs e=>?_
  subst e;simp only[nn] at bl;split at bl<;> try cases bl
  rename_i hu;simp [Value.okWide,hu,Cell.okWide,Cell.ok] at bG
 |aW e=>
  refine single rfl fun cs e=>?_
  subst e;simp only[nn] at bl;split at bl<;> try cases bl
  rename_i hu;simp [Value.okWide,hu,Cell.okWide,Cell.ok] at bG
def abz:List pC→List (DataW H)→List ai
 |s::w8,d::ib=>y1 s d::abz w8 ib
 |_,_=>[]
def y2(P:Program):List pC→List TypeId→Bool
 |[],[]=>true
 |s::w8,t::ts=>nn P s t&&y2 P w8 ts
 |_,_=>false
theorem vZ{W:World}(D:Nat){base:Nat}:∀(e:List pC) (ts:List TypeId) (vs:List Value) (ib:List (DataW H)) (fk:List MemPlace),y2 P e ts=true→(∀(j:Nat) t v,ts[j]? =some t→vs[j]? =some v→Value.okWide P W .any base t v)→
  DataW.TrodAll enc P W 0 (fun _=>true) true ts vs ib fk→ea (fZ W) D (abz e ib) vs∧gh e ib
 |[],[],vs,ib,fk,_,_,h=>by
  cases vs with
  |cons v vs=>simp [DataW.TrodAll] at h
  |nil=>
   cases ib with
   |cons d ib=>simp [DataW.TrodAll] at h
   |nil=>exact⟨.nil _ _,by simp [gh]⟩
 |s::w8,[],_,_,_,bl,_,_=>by simp [y2] at bl
 |[],t::ts,_,_,_,bl,_,_=>by simp [y2] at bl
 |s::w8,t::ts,vs,ib,fk,bl,bG,h=>by
  cases vs with
  |nil=>cases ib<;> simp [DataW.TrodAll] at h
  |cons v vs=>
   cases ib with
   |nil=>simp [DataW.TrodAll] at h
   |cons d ib=>simp only[DataW.TrodAll] at h;obtain⟨p,q,aD,aG,_⟩:=h;simp only[y2,bL] at bl;obtain⟨gw,hj⟩:=Nn D bl.1 (bG 0 t v rfl rfl) aD;obtain⟨xl,oh⟩:=vZ D w8 ts vs ib q bl.2 (fun j abh fX cB r=>bG (j+1) abh fX (by simpa using cB) (by simpa using r)) aG;refine⟨.cons gw xl,?_⟩;simp only[gh];exact⟨_,_,rfl,hj,oh⟩
theorem Left.sameAt{W e:World}(h:Left W e){p:MemPlace}(aU:p.block<W.heap.size):W.sameAt e p:=by
 cases p with
 |cell b off=>show e.cell? _=W.cell? _;unfold World.cell?;simp only[h.mv b aU]
 |map b=>exact h.mv b aU
theorem CA{W e:World}(br:laidOutB P=true)(r:Left W e):∀(ts:List TypeId) (vs:List Value) (ib:List (DataW H)) (fk:List MemPlace),(∀t,t∈ts→P.readableRec t=true∧t<P.types.size)→(∀p,p∈fk→p.block<W.heap.size)→
  DataW.TrodAll enc P W 0 (fun _=>true) true ts vs ib fk→DataW.TrodAll enc P e 0 (fun b=>decide (b<W.heap.size)) true ts vs ib fk
 |[],vs,ib,fk,_,_,h=>by cases vs<;> cases ib<;> simp only[DataW.TrodAll] at h ⊢;exact h
 |t::ts,vs,ib,fk,cB,aU,h=>by
  cases vs with
  |nil=>cases ib<;> simp [DataW.TrodAll] at h
  |cons v vs=>
   cases ib with
   |nil=>simp [DataW.TrodAll] at h
   |cons d ib=>
    simp only[DataW.TrodAll] at h ⊢;obtain⟨p,q,aD,aG,rfl⟩:=h;have aQ:=cB t (by simp);exact⟨p,q,WideElems.Trod_stays br aQ.1 aQ.2 aD (fun x aT=>r.sameAt (aU x (by simp [aT]))) (fun x aT=>by simpa using aU x (by simp [aT])),
     CA br r ts vs ib q (fun abh u=>cB abh (by simp [u])) (fun x aT=>aU x (by simp [aT])) aG,rfl⟩
theorem Left.keptBut{W e:World}(h:Left W e)(may:MemPlace→Prop):W.keptBut e may:=by
 refine⟨h.os,h.output,fun i bk=>?_⟩;rw[h.mv i bk]
 have:∃o,W.heap[i]? =some o:=⟨_,Array.getElem?_eq_getElem bk⟩;obtain⟨o,r⟩:=this;rw[r];cases o<;> simp
theorem No{f:Func}{s:ChangeSpec}{W y:World}{args:Array Value}{ib gs:List (DataW H)}{before:List MemPlace}(e:DataW.Whole enc P f.params.toList s.vars false W args.toList ib gs before)(bG:s.vars=[])
  (bq:∀(l:List (DataW H)),l.length=f.params.size→s.fn H l= {results:=[.lit (.bool true)],args:=l,vars:=[]}){tb:TypeId}(K:f.resultTypes= #[tb])(L:P.underlying tb=some .bool)(br:laidOutB P=true)
  (M:∀t,t∈f.params.toList→P.readableRec t=true∧t<P.types.size)(B:Left W y):s.post enc P f false true false false W args (.bool true) y:=by
 have N:=e;have I:=e.lt;obtain⟨p,q,J,r,rfl,_,_⟩:=e;rw[bG] at r;have O:gs=[]∧q=[]:=by cases gs<;> simp [DataW.TrodVars] at r;exact⟨rfl,r⟩
 obtain⟨rfl,rfl⟩:=O;have hlen:∀(ts:List TypeId) (vs:List Value) (ib:List (DataW H)) (fk:List MemPlace),DataW.TrodAll enc P W 0 (fun _=>true) true ts vs ib fk→ib.length=ts.length:=by
  intro ts
  induction ts with
  |nil=>intro vs ib fk h;cases vs<;> cases ib<;> simp [DataW.TrodAll] at h ⊢
  |cons t ts Q=>intro vs ib fk h;cases vs<;> cases ib<;> simp only[DataW.TrodAll] at h;obtain⟨_,_,_,aG,_⟩:=h;simp [Q _ _ _ aG]
 have u:=bq (ib++[]) (by simpa using hlen _ _ _ _ J);refine⟨ib,[],p++[],[],p,[],N,?_,?_,?_,B.keptBut _,fun h=>by cases h⟩
 ·rw[u,K];exact⟨[],[],⟨1,by simp [DataW.trod,Value.cells,L]⟩,rfl,rfl⟩
 ·rw[u];simp only[gf] at I ⊢;exact CA br B _ _ _ _ M I J
 ·rw[u,bG];rfl
end
end Go.Ab
end
section
namespace Go.Ab
def avH:Value→ai
 |.bool b=>.bool b
 |.int k n=>.int k n
 |.string _=>.str []
 |.pointer _=>.gU
 |.slice _ _ _=>.aW 0 [] .nil
 |.map _=>.c4
 |.nilFunc=>.fx
 |.nilIface=>.e2
 |_=>.dead
noncomputable def aqO(P:Program):mQ:={dF:=fun t=>P.underlying t,info:=fun t=>(P.info? t).bind fun i=>i.zero.map fun z=>(i.size,i.bytes,z),avF:=fun t=>match (P.info? t).bind (·.zero) with |some z=>z.cells.toList.map avH|none=>[],eqs:=fun t=> !P.stoodInHeld t&& !P.eqGuardType P.depth t}
theorem abA{o:Option TypeInfo}{n b:Nat}{z:Value}(h:(o.bind fun i=>i.zero.map fun z=>(i.size,i.bytes,z))=some (n,b,z)):∃i,o=some i∧i.size=n∧i.bytes=b∧i.zero=some z:=by obtain⟨i,bk,h⟩:=Option.bind_eq_some_iff.1 h;obtain⟨aqV,io,h⟩:=Option.map_eq_some_iff.1 h;cases h;exact⟨i,bk,rfl,rfl,io⟩
theorem abB(P:Program):(aqO P).uO P where
 dF:=fun _ _ h=>h
 info:=fun t _ _ _ h=>abA (o:=P.info? t) h
 eqs:=fun t h=>by have e:(!P.stoodInHeld t&& !P.eqGuardType P.depth t)=true:=h;simpa using e
end Go.Ab
end
