/- What the claim's texts say of a part of the evaluator and of the program's functions: for every argument that they name. -/
import Derived.Test.YtnafklimohmfkaaGreatDoorA1
import Derived.Orders
import Derived.Scope
import Derived.KernelRfl
import Derived.IntWalk
import Derived.WideKeyArgs
import Derived.ChangeArms
import Derived.ChangeSame
import Derived.ChangeOld
import Derived.OpenShut
set_option linter.unusedSectionVars false
set_option linter.unusedSimpArgs false
set_option linter.unusedVariables false
section
namespace Go.Ab
theorem mY:∀(d n:Nat) (v:AV) (k:Tr→ax) (fr:Tr) (r:ax),Tr.kN d n v k fr=r→r≠.fail→∃eW,k eW=r∧∀m,eW.get m=if m=n then v else fr.get m
 | 0,n,v,k,fr,r,h,hf=>absurd h.symm hf
 | d+1,n,v,k,fr,r,h,hf=>by
  have odd:∀m,Nat.beq (m % 2) 1=true→∃q,m=2 * q+1:=fun m h=>⟨m / 2,by have:=cQ h;omega⟩
  have even:∀m,Nat.beq (m % 2) 1=false→Nat.beq m 0=false→∃q,m=2 * q+2:=fun m h h'=>⟨(m - 2) / 2,by
   have h1:m % 2≠1:=fun e=>by rw[e] at h;simp at h
   have h2:m≠0:=fun e=>by rw[e] at h';simp at h'
   omega⟩
  have xR:∀(l:Tr) (x:AV) (r:Tr) (q:Nat),(Tr.n l x r).get (2 * q+1)=l.get q:=fun l x r q=>by
   have h1:Nat.beq (2 * q+1) 0=false:=by rfl
   have h2:Nat.beq ((2 * q+1) % 2) 1=true:=by rw[show(2 * q+1) % 2=1 by omega];rfl
   simp only[Tr.get,h1,h2,cond_false,cond_true]
   congr 1
   omega
  have xS:∀(l:Tr) (x:AV) (r:Tr) (q:Nat),(Tr.n l x r).get (2 * q+2)=r.get q:=fun l x r q=>by
   have h1:Nat.beq (2 * q+2) 0=false:=by rfl
   have h2:Nat.beq ((2 * q+2) % 2) 1=false:=by rw[show(2 * q+2) % 2=0 by omega];rfl
   simp only[Tr.get,h1,h2,cond_false]
   congr 1
   omega
  have YX:∀(l:Tr) (x:AV) (r:Tr),(Tr.n l x r).get 0=x:=fun l x r=>rfl
  have uX:∀m,m=0∨(∃q,m=2 * q+1)∨∃q,m=2 * q+2:=fun m=>by
   by_cases h0:m=0
   ·exact .inl h0
   ·by_cases h1:m % 2=1
    ·exact .inr (.inl ⟨m / 2,by omega⟩)
    ·exact .inr (.inr ⟨(m - 2) / 2,by omega⟩)
  cases fr with
  | e=>
   simp only[Tr.kN] at h
   cases h0:Nat.beq n 0 with
   | true=>
    rw[h0,cond_true] at h
    have:=cQ h0
    subst this
    refine⟨_,h,fun m=>?_⟩
    rcases uX m with rfl | ⟨q,rfl⟩ | ⟨q,rfl⟩
    ·simp [YX]
    ·rw[xR];simp [Tr.get]
    ·rw[xS];simp [Tr.get]
   | false=>
    rw[h0,cond_false] at h
    cases h1:Nat.beq (n % 2) 1 with
    | true=>
     rw[h1,cond_true] at h
     obtain⟨p,rfl⟩:=odd n h1
     obtain⟨l',e,hl⟩:=mY d _ v _ _ r h hf
     refine⟨_,e,fun m=>?_⟩
     rcases uX m with rfl | ⟨q,rfl⟩ | ⟨q,rfl⟩
     ·simp [Tr.get]
     ·rw[xR,hl q]
      have e1:(2 * p+1 - 1) / 2=p:=by omega
      have e2:2 * q+1=2 * p+1↔q=p:=by omega
      simp only[e1,e2]
      simp [Tr.get]
     ·rw[xS,if_neg (by omega)];simp [Tr.get]
    | false=>
     rw[h1,cond_false] at h
     obtain⟨p,rfl⟩:=even n h1 h0
     obtain⟨l',e,hl⟩:=mY d _ v _ _ r h hf
     refine⟨_,e,fun m=>?_⟩
     rcases uX m with rfl | ⟨q,rfl⟩ | ⟨q,rfl⟩
     ·simp [Tr.get]
     ·rw[xR,if_neg (by omega)];simp [Tr.get]
     ·rw[xS,hl q]
      have e1:(2 * p+2 - 1) / 2=p:=by omega
      have e2:2 * q+2=2 * p+2↔q=p:=by omega
      simp only[e1,e2]
      simp [Tr.get]
  | n l x rr=>
   simp only[Tr.kN] at h
   cases h0:Nat.beq n 0 with
   | true=>
    rw[h0,cond_true] at h
    have:=cQ h0
    subst this
    refine⟨_,h,fun m=>?_⟩
    rcases uX m with rfl | ⟨q,rfl⟩ | ⟨q,rfl⟩
    ·simp [YX]
    ·rw[xR,xR];simp
    ·rw[xS,xS];simp
   | false=>
    rw[h0,cond_false] at h
    cases h1:Nat.beq (n % 2) 1 with
    | true=>
     rw[h1,cond_true] at h
     obtain⟨p,rfl⟩:=odd n h1
     obtain⟨l',e,hl⟩:=mY d _ v _ _ r h hf
     refine⟨_,e,fun m=>?_⟩
     rcases uX m with rfl | ⟨q,rfl⟩ | ⟨q,rfl⟩
     ·simp [YX]
     ·rw[xR,xR,hl q]
      have e1:(2 * p+1 - 1) / 2=p:=by omega
      have e2:2 * q+1=2 * p+1↔q=p:=by omega
      simp only[e1,e2]
     ·rw[xS,xS,if_neg (by omega)]
    | false=>
     rw[h1,cond_false] at h
     obtain⟨p,rfl⟩:=even n h1 h0
     obtain⟨l',e,hl⟩:=mY d _ v _ _ r h hf
     refine⟨_,e,fun m=>?_⟩
     rcases uX m with rfl | ⟨q,rfl⟩ | ⟨q,rfl⟩
     ·simp [YX]
     ·rw[xR,xR,if_neg (by omega)]
     ·rw[xS,xS,hl q]
      have e1:(2 * p+2 - 1) / 2=p:=by omega
      have e2:2 * q+2=2 * p+2↔q=p:=by omega
      simp only[e1,e2]
def AM(nt:Nat):Option Nat→Option Nat→Bool
 | none,none=>true
 | some a,some b=>Nat.beq a b && Nat.blt a nt
 | _,_=>false
def tY(ops:Array Oper):Option (Nat×Bool)→Option (Nat×Bool)→Bool
 | none,none=>true
 | some (t,w),some (j,w')=>
  match (ops[j]?).bind (·.dst) with
  | some d=>Nat.beq d t && w == w'
  | none=>false
 | _,_=>false
def xT(T:TT)(nt:Nat)(ops:Array Oper)(ao:cJ)(o:Oper):Bool:=AM nt ao.dst o.dst && tY ops ao.guard o.guard && eN T ao.op o.op
structure l8 (κ:bR) (s:St) (w:World) (g:Nat→AV) (a:Act) (nt:Nat) (G:Nat→AV):Prop where
 JV:dk κ s w
 fr:FR κ s g a
 defers:a.defers=[]
 size:a.tmps.size=nt
 aP:nV κ G
theorem BH{fr:Tr}{d:Option Nat}{v:AV}{k:Tr→ax}{r:ax}(hr:ng fr d v k=r)(hf:r≠.fail):∃eW,k eW=r∧eW.get=iU fr.get d v:=by
 cases d with
 | none=>exact⟨fr,hr,rfl⟩
 | some n=>
  obtain⟨eW,h1,h2⟩:=mY 12 n v k fr r hr hf
  exact⟨eW,h1,funext h2⟩
theorem Eu{g:Option (Nat×Bool)}{fr:Tr}{k:Bool→ax}{r:ax}(hr:p8 g fr k=r)(hf:r≠.fail):∃b,iV g fr.get=some b∧k b=r:=by
 cases g with
 | none=>exact⟨true,rfl,hr⟩
 | some p=>
  obtain⟨t,w⟩:=p
  simp only[p8] at hr
  simp only[iV]
  cases hv:fr.get t <;> rw[hv] at hr <;> simp only at hr <;> first | exact absurd hr.symm hf | exact⟨_,rfl,hr⟩
theorem aiw{E:Env}(hn:∀f args s v s',E.call f args s≠.panic v s'){g:Nat→AV}{s:St}{k kp kp':AV→St→ax}(op:ib):bp E g s k kp op=bp E g s k kp' op:=by
 have hc:∀f args,cV E s k kp f args=cV E s k kp' f args:=fun f args=>by
  unfold cV
  cases h:E.call f args s with
  | panic v s'=>exact absurd h (hn _ _ _ _ _)
  | _=>rfl
 have nT:∀(k:AV→St→ax) f args,cV E s k kp f args=cV E s k kp' f args:=fun k f args=>by
  unfold cV
  cases h:E.call f args s with
  | panic v s'=>exact absurd h (hn _ _ _ _ _)
  | _=>rfl
 cases op <;> simp only[bp]
 case call=>simp only[hc]
 case cV=>unfold og;simp only[hc]
 case kO=>simp only[i6];congr;funext args;exact nT _ _ _
 case lF=>unfold ni i6;congr;funext f ez;congr;funext args;exact nT _ _ _
theorem H8{E:Env}(hE:E.F= .not)(hn:∀f args s v s',E.call f args s≠.panic v s'){g:Nat→AV}{s s':St}{v:AV}(op:ib):bp E g s .ok .panic op≠.panic v s':=fun h=>by
 have h1:=lL hE g s .ok .panic op
 have h2:=lL hE g s .ok (fun _ _=>.fail) op
 rw[h] at h2
 rw[←aiw hn (kp:=.panic) op,h] at h2
 cases h2
theorem pz{E:Env}(hE:E.F= .not)(hn:∀f args s v s',E.call f args s≠.panic v s'){fin:Tr→St→ax}{vM:AV→Tr→St→ax}{r:ax}(hf:r≠.fail):∀(kq:List cJ) {fr:Tr} {s:St},fp E kq fr s fin vM=r→∃eW s',pb E kq fr.get s=some (eW.get,s')∧fin eW s'=r
 | [],fr,s,h=>⟨fr,s,rfl,h⟩
 | o :: os,fr,s,h=>by
  simp only[fp] at h
  obtain⟨b,h1,h2⟩:=Eu h hf
  cases b with
  | false=>
   simp only[cond_false] at h2
   obtain⟨eW,h3,h4⟩:=BH h2 hf
   obtain⟨IG,s',h5,h6⟩:=pz hE hn hf os h3
   exact⟨IG,s',by simp only[pb,n4,h1,jc,←h4,h5],h6⟩
  | true=>
   simp only[cond_true] at h2
   rw[lL hE] at h2
   cases fD:bp E fr.get s .ok .panic o.op with
   | fail=>rw[fD] at h2;exact absurd h2.symm hf
   | panic v s'=>exact absurd fD (H8 hE hn o.op)
   | ok v s'=>
    rw[fD] at h2
    simp only[ax.bind] at h2
    obtain⟨eW,h3,h4⟩:=BH h2 hf
    obtain⟨IG,mo,h5,h6⟩:=pz hE hn hf os h3
    exact⟨IG,mo,by simp only[pb,n4,h1,fD,jc,←h4,h5],h6⟩
section
variable{P:Program}{κ:bR}{s:St}{w:World}{g:Nat→AV}{a:Act}{nt:Nat}{G:Nat→AV}
theorem l8.put(h:l8 κ s w g a nt G){κ':bR}{s':St}{w':World}(he:iA κ s w κ' s' w')(hs:dk κ' s' w'){v:AV}{x:Value}(hx:VR κ' (s.aa+1) (v.av s.aa) x){d d':Option Nat}(hd:AM nt d d'=true):l8 κ' s' w' (iU g d v) (a.put d' x) nt G:=by
 have bS:=h.fr.ext he
 cases d with
 | none=>
  cases d' with
  | none=>exact⟨hs,bS,h.defers,h.size,h.aP.mono he.k⟩
  | some b=>simp [AM] at hd
 | some n=>
  cases d' with
  | none=>simp [AM] at hd
  | some b=>
   simp only[AM,bD] at hd
   have e:=cQ hd.1
   subst e
   have hn:n < a.tmps.size:=by rw[h.size];have:=hd.2;rw[Nat.blt_eq] at this;exact this
   refine⟨hs,fun t=>?_,h.defers,?_,h.aP.mono he.k⟩
   ·simp only[iU]
    by_cases ht:t=n
    ·subst ht
     rw[if_pos rfl,he.aa]
     simp only[Act.put,Array.getD_eq_getD_getElem?,Array.getElem?_setIfInBounds_self_of_lt hn,Option.getD_some]
     exact hx
    ·rw[if_neg ht]
     have:=bS t
     simp only[Act.put,Array.getD_eq_getD_getElem?,Array.getElem?_setIfInBounds_ne (Ne.symm ht)] at this ⊢
     exact this
   ·simp [Act.put,h.size]
theorem l8.skip(h:l8 κ s w g a nt G){d d':Option Nat}(hd:AM nt d d'=true):l8 κ s w (iU g d (.cS [])) (a.put d' undef) nt G:=
 h.put (.refl _ _ _) h.JV (v:=.cS []) (x:=undef) (.cS [] [] rfl (fun j c x hc=>by simp at hc)) hd
theorem l8.wanted(h:l8 κ s w g a nt G){ops:Array Oper}{gd:Option (Nat×Bool)}{o:Oper}(hg:tY ops gd o.guard=true){b:Bool}(hb:iV gd g=some b):Region.wanted o (yielded ops a.tmps)=b:=by
 unfold Region.wanted
 cases gd with
 | none=>
  cases hog:o.guard with
  | none=>simpa [iV] using hb
  | some p=>rw[hog] at hg;simp [tY] at hg
 | some p=>
  obtain⟨t,want⟩:=p
  cases hog:o.guard with
  | none=>rw[hog] at hg;simp [tY] at hg
  | some q=>
   obtain⟨j,aGl⟩:=q
   rw[hog] at hg
   simp only[tY] at hg
   split at hg
   ·rename_i d hd
    simp only[bD,beq_iff_eq] at hg
    have e:=cQ hg.1
    subst e
    obtain rfl:=hg.2
    have hx:=h.fr d
    simp only[iV] at hb
    simp only[yielded,hd,jc]
    cases hv:g d <;> rw[hv] at hb hx <;> simp only[bM,reduceCtorEq] at hb
    ·rename_i b'
     have gl:=VR.iO (b:=b') hx
     have:a.tmps[d]? =some (.bool b'):=by
      rw[Array.getD_eq_getD_getElem?] at gl
      cases hq:a.tmps[d]? with
      | none=>rw[hq] at gl;cases gl
      | some y=>rw[hq] at gl;simp only[Option.getD_some] at gl;rw[gl]
     rw[this]
     simpa using hb
    ·rename_i vs
     obtain⟨xs,gl,_⟩:=VR.DU (cs:=vs) hx
     have:∀b,a.tmps[d]?≠some (.bool b):=fun b hq=>by
      rw[Array.getD_eq_getD_getElem?,hq] at gl
      cases gl
     split
     ·rename_i b' hq;exact absurd hq (this b')
     ·simpa using hb
   ·cases hg
variable{T:TT}(hT:T.OK P){E:Env}(hE:E.F= .not)(hC:sP P E)
include hT hE hC
theorem BI(h:l8 κ s w g a nt E.aP){ops:Array Oper}{ao:cJ}{i:Nat}{o:Oper}(hi:ops[i]? =some o)(ct:xT T nt ops ao o=true){v:AV}{s':St}(hr:n4 E ao g s=some (v,s'))
  {K:Act→World→Prop}{Q:Exit→Act→World→Prop}(hK:∀κ' w' a',iA κ s w κ' s' w'→l8 κ' s' w' (iU g ao.dst v) a' nt E.aP→K a' w'):wpOp P ops Q i K a w:=by
 unfold wpOp
 simp only[hi]
 simp only[xT,bD] at ct
 unfold n4 at hr
 cases hw:iV ao.guard g with
 | none=>rw[hw] at hr;cases hr
 | some b=>
  rw[hw] at hr
  rw[h.wanted ct.1.2 hw]
  cases b with
  | false=>
   simp only[bM,Prod.mk.injEq] at hr
   obtain⟨rfl,rfl⟩:=hr
   simp only[co,↓reduceIte]
   exact hK κ w _ (.refl _ _ _) (h.skip ct.1.1)
  | true=>
   simp only at hr
   simp only[↓reduceIte]
   refine .inl ?_
   cases fD:bp E g s .ok .panic ao.op with
   | fail=>rw[fD] at hr;cases hr
   | panic v s'=>rw[fD] at hr;cases hr
   | ok v' mo=>
    rw[fD] at hr
    simp only[bM,Prod.mk.injEq] at hr
    obtain⟨rfl,rfl⟩:=hr
    obtain⟨v1,s1,hk,hd⟩:=MC (ty:=o.type) hT h.JV hE hC h.fr h.aP (by simp) ct.2 fD
    simp only[ax.ok.injEq] at hk
    obtain⟨rfl,rfl⟩:=hk
    have eo:∀(R:Result Next),(∀dst pos after guard,(execOp a.eval ⟨dst,o.op,o.type,pos,after,guard⟩).run P w=R)→(execOp a.eval o).run P w=R:=fun R h=>h o.dst o.pos o.after o.guard
    unfold Oper.wp
    rcases hd with⟨x,κ',w',hx | ⟨hx,rfl⟩,he,CP,hv⟩ | ⟨f,xs,hx,hc⟩
    ·rw[eo _ hx,Oper.upon_value]
     exact hK κ' w' _ he (h.put he CP hv ct.1.1)
    ·rw[eo _ hx,Oper.upon_skip]
     exact hK κ' w' _ he (h.put he CP hv ct.1.1)
    ·rw[eo _ hx,Oper.upon_enter]
     refine hc.mono fun e w' ⟨x,hex,κ',he,CP,hv⟩=>?_
     subst hex
     exact hK κ' w' _ he (h.put he CP hv ct.1.1)
theorem Ew{ops:Array Oper}{Q:Exit→Act→World→Prop}{g':Nat→AV}{s':St}:∀(l:List Nat) (kq:List cJ) {κ:bR} {s:St} {w:World} {g:Nat→AV} {a:Act},l.length=kq.length→
  (∀(j i:Nat) (ao:cJ),l[j]? =some i→kq[j]? =some ao→∃o,ops[i]? =some o∧xT T nt ops ao o=true)→l8 κ s w g a nt E.aP→pb E kq g s=some (g',s')→
  (∀κ' w' a',iA κ s w κ' s' w'→l8 κ' s' w' g' a' nt E.aP→Q .normal a' w')→wpOps P ops Q l a w
 | [],[],κ,s,w,g,a,_,_,h,hr,hQ=>by
  simp only[pb,bM,Prod.mk.injEq] at hr
  obtain⟨rfl,rfl⟩:=hr
  exact hQ κ w a (.refl _ _ _) h
 | [],_ :: _,_,_,_,_,_,hl,_,_,_,_=>by simp at hl
 | _ :: _,[],_,_,_,_,_,hl,_,_,_,_=>by simp at hl
 | i :: l,ao :: kq,κ,s,w,g,a,hl,ct,h,hr,hQ=>by
  obtain⟨o,hi,hoo⟩:=ct 0 i ao rfl rfl
  rw[wpOps_cons]
  simp only[pb] at hr
  cases he:n4 E ao g s with
  | none=>rw[he] at hr;cases hr
  | some p=>
   rw[he] at hr
   refine BI hT hE hC h hi hoo he fun κ' w' a' D9 h'=>?_
   exact Ew l kq (by simpa using hl) (fun j i ao h1 h2=>ct (j+1) i ao (by simpa using h1) (by simpa using h2)) h' hr
    fun CJ MK a'' aiy Ul=>hQ CJ MK a'' (D9.trans aiy) Ul
end
def sW(o:Oper):List Nat:=(o.after.toList.filter (Region.binds .any)).map (·.on)
def qV(acc:List Nat):List Nat→Nat
 | []=>0
 | e :: es=>qV acc es ||| ((1 <<< e) ||| acc.getD e 0)
def wG:List Nat→List Oper→List Nat
 | acc,[]=>acc
 | acc,o :: os=>wG (acc ++ [qV acc (sW o)]) os
def JW(bits:Nat)(b:cJ):Nat→List cJ→Bool
 | _,[]=>true
 | m,a :: as=>(bits.testBit m || indep a b) && JW bits b (m+1) as
def xU:List cJ→List Nat→List cJ→Bool
 | _,_,[]=>true
 | pre,m :: ms,b :: bs=>JW m b 0 pre && xU (pre ++ [b]) ms bs
 | _,[],_ :: _=>false
def JX:Nat→List Oper→Bool
 | _,[]=>true
 | i,o :: os=>(sW o).all (fun e=>Nat.blt e i) && JX (i+1) os
def oJ(T:TT)(nt:Nat)(ops:Array Oper):List cJ→List Oper→Bool
 | [],[]=>true
 | a :: as,o :: os=>xT T nt ops a o && oJ T nt ops as os
 | _,_=>false
def xV(T:TT)(nt:Nat)(ops:Array Oper)(kq:List cJ):Bool:=oJ T nt ops kq ops.toList && JX 0 ops.toList && xU [] (wG [] ops.toList) kq
theorem nz{T:TT}{nt:Nat}{ops:Array Oper}:∀{as:List cJ} {os:List Oper},oJ T nt ops as os=true→as.length=os.length∧∀(i:Nat) (a:cJ) (o:Oper),as[i]? =some a→os[i]? =some o→xT T nt ops a o=true
 | [],[],_=>⟨rfl,fun i a o h=>by simp at h⟩
 | [],_ :: _,h=>by simp [oJ] at h
 | _ :: _,[],h=>by simp [oJ] at h
 | a :: as,o :: os,h=>by
  simp only[oJ,bD] at h
  obtain⟨h1,h2⟩:=nz h.2
  refine⟨by simp [h1],fun i a' o' ha ho=>?_⟩
  cases i with
  | zero=>simp at ha ho;subst ha;subst ho;exact h.1
  | succ i=>exact h2 i a' o' (by simpa using ha) (by simpa using ho)
theorem xW:∀{i:Nat} {os:List Oper},JX i os=true→∀(j:Nat) (o:Oper),os[j]? =some o→∀e,e∈sW o→e < i+j
 | i,[],_,j,o,h=>by simp at h
 | i,o' :: os,h,j,o,ho=>by
  simp only[JX,bD,List.all_eq_true] at h
  cases j with
  | zero=>
   simp at ho
   subst ho
   intro e he
   have:=h.1 e he
   rw[Nat.blt_eq] at this
   omega
  | succ j=>
   intro e he
   have:=xW h.2 j o (by simpa using ho) e he
   omega
theorem xX{bits:Nat}{b:cJ}:∀{m:Nat} {as:List cJ},JW bits b m as=true→∀(j:Nat) (a:cJ),as[j]? =some a→bits.testBit (m+j)=true∨indep a b=true
 | m,[],_,j,a,h=>by simp at h
 | m,a' :: as,h,j,a,ha=>by
  simp only[JW,bD,Bool.or_eq_true] at h
  cases j with
  | zero=>simp at ha;subst ha;exact h.1
  | succ j=>
   have:=xX h.2 j a (by simpa using ha)
   rw[show m+(j+1)=m+1+j by omega]
   exact this
theorem wj:∀{pre:List cJ} {ms:List Nat} {rest:List cJ},xU pre ms rest=true→∀(i m:Nat) (a b:cJ),pre.length≤i→m < i→(pre ++ rest)[m]? =some a→(pre ++ rest)[i]? =some b→(ms.getD (i - pre.length) 0).testBit m=true∨indep a b=true
 | pre,ms,[],_,i,m,a,b,hi,hm,ha,hb=>by
  rw[List.append_nil] at hb
  have:=(bZ.1 hb).1
  omega
 | pre,[],b' :: bs,h,i,m,a,b,hi,hm,ha,hb=>by simp [xU] at h
 | pre,m' :: ms,b' :: bs,h,i,m,a,b,hi,hm,ha,hb=>by
  simp only[xU,bD] at h
  by_cases he:i=pre.length
  ·subst he
   rw[Nat.sub_self]
   have gl:b=b':=by simpa using hb.symm
   subst gl
   have:=xX h.1 m a (by rw[eZ hm] at ha;exact ha)
   simpa using this
  ·have:=wj (pre:=pre ++ [b']) h.2 i m a b (by simp;omega) hm (by simpa using ha) (by simpa using hb)
   have e:i - pre.length=(i - (pre ++ [b']).length)+1:=by simp;omega
   rw[e]
   simpa using this
theorem tC(acc:List Nat)(m:Nat):∀(es:List Nat),(qV acc es).testBit m=true→∃e,e∈es∧(m=e∨(acc.getD e 0).testBit m=true)
 | [],h=>by simp [qV] at h
 | e :: es,h=>by
  simp only[qV,Nat.testBit_or,Bool.or_eq_true] at h
  rcases h with h | h | h
  ·obtain⟨e',h1,h2⟩:=tC acc m es h
   exact⟨e',List.mem_cons_of_mem _ h1,h2⟩
  ·refine⟨e,List.mem_cons_self, .inl ?_⟩
   rw[Nat.one_shiftLeft,Nat.testBit_two_pow] at h
   simpa using (of_decide_eq_true h).symm
  ·exact⟨e,List.mem_cons_self, .inr h⟩
def aiz(M:List Nat)(os:List Oper):Prop:=M.length=os.length∧∀i m,(M.getD i 0).testBit m=true→∃o e,os[i]? =some o∧e∈sW o∧(m=e∨(M.getD e 0).testBit m=true)
theorem xY:∀(os:List Oper) (acc:List Nat) (pre:List Oper),aiz acc pre→aiz (wG acc os) (pre ++ os)
 | [],acc,pre,h=>by simpa [wG] using h
 | o :: os,acc,pre,h=>by
  have:=xY os (acc ++ [qV acc (sW o)]) (pre ++ [o]) ?_
  ·simpa [wG] using this
  refine⟨by simp [h.1],fun i m hm=>?_⟩
  have up:∀e,(acc.getD e 0).testBit m=true→((acc ++ [qV acc (sW o)]).getD e 0).testBit m=true:=fun e he=>by
   have cM:e < acc.length:=by
    rcases Nat.lt_or_ge e acc.length with q | q
    ·exact q
    ·rw[List.getD_eq_getElem?_getD,List.getElem?_eq_none q] at he;simp at he
   rw[List.getD_eq_getElem?_getD,eZ cM,←List.getD_eq_getElem?_getD]
   exact he
  rcases Nat.lt_trichotomy i acc.length with q | q | q
  ·rw[List.getD_eq_getElem?_getD,eZ q,←List.getD_eq_getElem?_getD] at hm
   obtain⟨o',e,h1,h2,h3⟩:=h.2 i m hm
   refine⟨o',e,?_,h2,h3.imp id (up e)⟩
   rw[eZ (by rw[←h.1];exact q)]
   exact h1
  ·subst q
   have Hq:(qV acc (sW o)).testBit m=true:=by simpa using hm
   obtain⟨e,h1,h2⟩:=tC acc m _ Hq
   refine⟨o,e,?_,h1,h2.imp id (up e)⟩
   rw[h.1]
   simp
  ·rw[List.getD_eq_getElem?_getD,List.getElem?_eq_none (by simp;omega)] at hm
   simp at hm
section
variable{P:Program}{nt:Nat}{T:TT}(hT:T.OK P){E:Env}(hE:E.F= .not)(hC:sP P E)
include hT hE hC
theorem Um{ops:Array Oper}{kq:List cJ}(ct:xV T nt ops kq=true){Q:Exit→Act→World→Prop}{g':Nat→AV}{s':St}:∀(fuel:Nat) (L:List Nat) (listed:Array Bool) {κ:bR} {s:St} {w:World} {g:Nat→AV} {a:Act},
  L.length=fuel→L.Pairwise (· < ·)→listed.size=ops.size→(∀i,i∈L↔i < ops.size∧listed.getD i true=false)→
  (∀i m,listed.getD i false=true→((wG [] ops.toList).getD i 0).testBit m=true→listed.getD m false=true)→l8 κ s w g a nt E.aP→pb E (L.map (kq.getD · default)) g s=some (g',s')→
  (∀κ' w' a',iA κ s w κ' s' w'→l8 κ' s' w' g' a' nt E.aP→Q .normal a' w')→wpAny P .any ops Q fuel listed a w:=by
 simp only[xV,bD] at ct
 obtain⟨⟨ho1,ho2⟩,ho3⟩:=ct
 obtain⟨hlen,aiA⟩:=nz ho1
 have v5:=xW ho2
 have ayj:=wj ho3
 have hM:=xY ops.toList [] [] ⟨rfl,fun i m h=>by simp at h⟩
 have ayk:∀(o:Oper) (e:Edge),e∈o.after→Region.binds .any e=true→e.on∈sW o:=fun o e he hb=>List.mem_map.2 ⟨e,List.mem_filter.2 ⟨by simpa using he,hb⟩,rfl⟩
 have aqj:∀(o:Oper) (n:Nat),n∈sW o→∃e,e∈o.after∧Region.binds .any e=true∧e.on=n:=fun o n hn=>by
  obtain⟨e,he,Ee⟩:=List.mem_map.1 hn
  obtain⟨h1,h2⟩:=List.mem_filter.1 he
  exact⟨e,by simpa using h1,h2,Ee⟩
 have ff:∀(listed:Array Bool) (i:Nat),i < listed.size→listed.getD i true=listed.getD i false:=fun listed i h=>by simp [Array.getD_eq_getD_getElem?,h]
 intro fuel
 induction fuel with
 | zero=>
  intro L listed κ s w g a hL hp dM kj tH h hr hQ
  have:L=[]:=List.eq_nil_of_length_eq_zero hL
  subst this
  refine⟨?_,?_⟩
  ·cases AD:Region.ready .any ops listed with
   | nil=>rfl
   | cons i l=>
    have hi:i∈Region.ready .any ops listed:=by rw[AD];exact List.mem_cons_self
    obtain⟨h1,o,h2,_⟩:=mem_ready.1 hi
    have:=(kj i).2 ⟨(Array.getElem?_eq_some_iff.1 h2).1,h1⟩
    cases this
  ·simp only[List.map_nil,pb,bM,Prod.mk.injEq] at hr
   obtain⟨rfl,rfl⟩:=hr
   exact hQ κ w a (.refl _ _ _) h
 | succ fuel ih=>
  intro L listed κ s w g a hL hp dM kj tH h hr hQ
  refine⟨fun AD=>?_,fun i hi=>?_⟩
  ·cases L with
   | nil=>simp at hL
   | cons i0 l=>
    obtain⟨h1,h2⟩:=(kj i0).1 List.mem_cons_self
    have:i0∈Region.ready .any ops listed:=by
     refine mem_ready.2 ⟨h2,ops[i0],Array.getElem?_eq_getElem h1,fun e he hb=>?_⟩
     have cM:=v5 i0 ops[i0] (by simp [h1]) e.on (ayk _ _ he hb)
     rw[Nat.zero_add] at cM
     rw[←ff listed e.on (by omega)]
     cases hq:listed.getD e.on true with
     | true=>rfl
     | false=>
      have:=(kj e.on).2 ⟨by omega,hq⟩
      rcases List.mem_cons.1 this with q | q
      ·omega
      ·have:=List.rel_of_pairwise_cons hp q
       omega
    rw[AD] at this
    cases this
  ·obtain⟨h1,o,h2,h3⟩:=mem_ready.1 hi
   have mn:i < ops.size:=(Array.getElem?_eq_some_iff.1 h2).1
   have hiL:=(kj i).2 ⟨mn,h1⟩
   have JY:∀m,((wG [] ops.toList).getD i 0).testBit m=true→listed.getD m false=true:=fun m hm=>by
    obtain⟨o',e,q1,q2,q3⟩:=hM.2 i m hm
    have:o'=o:=by
     have q1':ops[i]? =some o':=by simpa using q1
     rw[h2] at q1'
     exact(Option.some.inj q1').symm
    subst this
    obtain⟨e',r1,r2,r3⟩:=aqj _ _ q2
    have hl:=h3 e' r1 r2
    rw[r3] at hl
    rcases q3 with q3 | q3
    ·rw[q3];exact hl
    ·exact tH e m hl q3
   obtain⟨pre,post,rfl⟩:=List.append_of_mem hiL
   have hpp:=List.pairwise_append.1 hp
   have lW:∀m,m∈pre→m < i:=fun m hm=>hpp.2.2 m hm i List.mem_cons_self
   have ayl:∀m,m∈post→i < m:=fun m hm=>List.rel_of_pairwise_cons hpp.2.1 hm
   have kh:∀m,m < ops.size→kq[m]? =some (kq.getD m default):=fun m hm=>by
    have:m < kq.length:=by rw[hlen];simpa using hm
    simp [List.getD_eq_getElem?_getD,this]
   have aDS:∀x,x∈pre.map (kq.getD · default)→indep x (kq.getD i default)=true:=fun x hx=>by
    obtain⟨m,hm,rfl⟩:=List.mem_map.1 hx
    have hmi:=lW m hm
    obtain⟨hmn,mJ⟩:=(kj m).1 (List.mem_append_left _ hm)
    rcases ayj i m _ _ (Nat.zero_le _) hmi (kh m hmn) (kh i mn) with q | q
    ·have:=JY m (by simpa using q)
     rw[ff listed m (by omega),this] at mJ
     cases mJ
    ·exact q
   rw[List.map_append,List.map_cons] at hr
   have jm:=Et hE _ aDS hr
   rw[←List.map_append] at jm
   simp only[pb] at jm
   cases he:n4 E (kq.getD i default) g s with
   | none=>rw[he] at jm;cases jm
   | some p=>
    obtain⟨v,s1⟩:=p
    rw[he] at jm
    simp only[jc] at jm
    refine BI hT hE hC h h2 (aiA i _ o (kh i mn) (by simpa using h2)) he fun κ' w' a' D9 h'=>?_
    refine ih (pre ++ post) _ (by simp at hL ⊢;omega) (List.pairwise_append.2 ⟨hpp.1,hpp.2.1.of_cons,fun x hx y hy=>hpp.2.2 x hx y (List.mem_cons_of_mem _ hy)⟩) (by simp [dM]) (fun j=>?_) (fun j m hj hm=>?_) h' jm
     (fun CJ MK a'' aiy Ul=>hQ CJ MK a'' (D9.trans aiy) Ul)
    ·by_cases hji:j=i
     ·subst hji
      constructor
      ·intro hm
       rcases List.mem_append.1 hm with q | q
       ·exact absurd (lW j q) (Nat.lt_irrefl _)
       ·exact absurd (ayl j q) (Nat.lt_irrefl _)
      ·intro hm
       have:=hm.2
       simp [Array.getD_eq_getD_getElem?,dM,mn] at this
     ·rw[getD_set_ne true (Ne.symm hji),←kj j]
      simp only[List.mem_append,List.mem_cons]
      constructor
      ·rintro (q | q)
       ·exact .inl q
       ·exact .inr (.inr q)
      ·rintro (q | q | q)
       ·exact .inl q
       ·exact absurd q hji
       ·exact .inr q
    ·by_cases hji:j=i
     ·subst hji
      exact getD_set_true (JY m hm)
     ·rw[getD_set_ne false (Ne.symm hji)] at hj
      exact getD_set_true (tH j m hj hm)
theorem H9{κ:bR}{s:St}{w:World}{fr:Tr}{a:Act}{ops:Array Oper}{kq:List cJ}(ct:oJ T nt ops kq ops.toList=true)(h:l8 κ s w fr.get a nt E.aP){fin:Tr→St→ax}{vM:AV→Tr→St→ax}{r:ax}(hf:r≠.fail)(hr:fp E kq fr s fin vM=r){Q:Exit→Act→World→Prop}
  (hQ:∀κ' s' w' eW a',iA κ s w κ' s' w'→l8 κ' s' w' eW.get a' nt E.aP→fin eW s'=r→Q .normal a' w')(id:Nat):(Code.region id ops false).wp P Q a w:=by
 obtain⟨eW,s',h1,h2⟩:=pz hE hC.rV hf kq hr
 obtain⟨hlen,aiA⟩:=nz ct
 refine wp_region (Ew hT hE hC (List.range ops.size) kq (by rw[hlen];simp) (fun j i ao hj ha=>?_) h h1 (fun κ' w' a' he h'=>hQ κ' s' w' eW a' he h' h2))
 obtain⟨Ml,AG⟩:=bZ.1 hj
 rw[List.getElem_range] at AG
 subst AG
 have cM:j < ops.size:=by simpa using Ml
 exact⟨ops[j],Array.getElem?_eq_getElem cM,aiA j ao _ ha (by simp [cM])⟩
theorem l8.drawn{κ:bR}{s:St}{w:World}{g:Nat→AV}{a:Act}(h:l8 κ s w g a nt E.aP):l8 κ s {w with drawn:=w.drawn+1} g a nt E.aP∧iA κ s w κ s {w with drawn:=w.drawn+1}:=
 ⟨⟨h.JV.world (.refl _ _) rfl rfl (fun a v e=>h.JV.kU a v e) (fun _ _=>⟨rfl,fun _=>rfl⟩),h.fr,h.defers,h.size,h.aP⟩,
  ⟨.refl _ _,rfl,Nat.le_refl _,rfl,rfl,rfl,fun _ _ _=>rfl,fun _ _ h=>h,fun _ h=>.inl h⟩⟩
theorem ML{κ:bR}{s:St}{w:World}{fr:Tr}{a:Act}{ops:Array Oper}{kq:List cJ}(hm:P.follows .mixedOrders=true)(ct:xV T nt ops kq=true)(h:l8 κ s w fr.get a nt E.aP){fin:Tr→St→ax}{vM:AV→Tr→St→ax}{r:ax}(hf:r≠.fail)(hr:fp E kq fr s fin vM=r){Q:Exit→Act→World→Prop}
  (hQ:∀κ' s' w' eW a',iA κ s w κ' s' w'→l8 κ' s' w' eW.get a' nt E.aP→fin eW s'=r→Q .normal a' w')(id:Nat):(Code.region id ops true).wp P Q a w:=by
 obtain⟨eW,s',h1,h2⟩:=pz hE hC.rV hf kq hr
 have hlen:=(nz (by simp only[xV,bD] at ct;exact ct.1.1)).1
 obtain⟨hd,aDT⟩:=h.drawn hT hE hC
 refine wp_region_any hm (Um hT hE hC ct ops.size (List.range ops.size) _ (by simp) List.pairwise_lt_range (by simp) (fun i=>?_) (fun i m hi=>?_) hd ?_ (fun κ' w' a' he h'=>hQ κ' s' w' eW a' (aDT.trans he) h' h2))
 ·rw[List.mem_range]
  constructor
  ·intro hi;exact⟨hi,by simp [Array.getD_eq_getD_getElem?,hi]⟩
  ·exact fun hi=>hi.1
 ·by_cases cM:i < ops.size
  ·simp [Array.getD_eq_getD_getElem?,cM] at hi
  ·simp [Array.getD_eq_getD_getElem?,cM] at hi
 ·have:(List.range ops.size).map (kq.getD · default)=kq:=by
   apply List.ext_getElem
   ·rw[hlen];simp
   ·intro i q1 q2
    simp [List.getD_eq_getElem?_getD,q2]
  rw[this]
  exact h1
end
def fN(T:TT)(nt:Nat):ae→Code→Bool
 | .skip, .skip=>true
 | .skip, .label _=>true
 | .region none kq, .region _ ops false=>oJ T nt ops kq ops.toList
 | .region (some []) kq, .region _ ops true=>xV T nt ops kq
 | .seq a b, .seq x y=>fN T nt a x && fN T nt b y
 | .mask _ a,c=>fN T nt a c
 | .cond c a b, .cond c' x y=>cg c c' && fN T nt a x && fN T nt b y
 | .block i a, .block j x=>Nat.beq i j && fN T nt a x
 | .loop _ a, .loop x=>fN T nt a x
 | .exit i, .exit j=>Nat.beq i j
 | .scope a, .scope x=>fN T nt a x
 | .ret, .ret=>true
 | _,_=>false
inductive XR:AX→Exit→Prop
 | norm:XR .norm .normal
 | exit (i:Nat):XR (.exit i) (.exit i)
 | ret:XR .ret .ret
theorem jt:∀(m:Mk) (k:Tr→ax) (fr:Tr),∃eW,Tr.lZ m k fr=k eW∧∀t,eW.get t=fr.get t∨eW.get t= .dead
 | .e,k,fr=>⟨.e,by cases fr <;> rfl,fun t=>.inr rfl⟩
 | .n ml b mr,k, .e=>by
  obtain⟨l',e1,h1⟩:=jt ml (fun l=>Tr.lZ mr (fun r=>k (.n l .dead r)) .e) .e
  obtain⟨r',e2,h2⟩:=jt mr (fun r=>k (.n l' .dead r)) .e
  refine⟨.n l' .dead r',by simp only[Tr.lZ];rw[e1];exact e2,fun t=>.inr ?_⟩
  have nk:∀t,l'.get t= .dead:=fun t=>(h1 t).elim (fun h=>h) id
  have h2':∀t,r'.get t= .dead:=fun t=>(h2 t).elim (fun h=>h) id
  simp only[Tr.get,nk,h2']
  cases Nat.beq t 0 <;> cases Nat.beq (t % 2) 1 <;> rfl
 | .n ml b mr,k, .n l v r=>by
  obtain⟨l',e1,h1⟩:=jt ml (fun l=>Tr.lZ mr (fun r=>k (.n l (bif b then v else .dead) r)) r) l
  obtain⟨r',e2,h2⟩:=jt mr (fun r=>k (.n l' (bif b then v else .dead) r)) r
  refine⟨.n l' (bif b then v else .dead) r',by simp only[Tr.lZ];rw[e1];exact e2,fun t=>?_⟩
  simp only[Tr.get]
  cases Nat.beq t 0 with
  | true=>cases b <;> simp
  | false=>
   simp only[cond_false]
   cases Nat.beq (t % 2) 1 with
   | true=>exact h1 _
   | false=>exact h2 _
theorem wH{m:Mk}{k:Tr→ax}{fr:Tr}{r:ax}(h:Tr.lZ m k fr=r):∃eW,k eW=r∧∀t,eW.get t=fr.get t∨eW.get t= .dead:=by
 obtain⟨eW,e,hg⟩:=jt m k fr
 exact⟨eW,e.symm.trans h,hg⟩
theorem agM{P:Program}{c:Code}{Q:Exit→Act→World→Prop}(J:Nat→Act→World→Prop)(round:∀n a w,J n a w→c.wp P (Exit.then (fun a' w'=>∃m,m < n∧J m a' w') Q) a w){n:Nat}{a:Act}{w:World}(h:J n a w):(Code.loop c).wp P Q a w:=by
 intro b k cs
 have key:∀n a w,J n a w→∃e a' w',Q e a' w'∧Arrives P (lone (b.at a (.code c :: .inLoop c :: k)) cs w) b k cs e a' w':=by
  intro n
  induction n using Nat.strongRecOn with
  | _ n ih=>
   intro a w hJ
   obtain⟨e,a₁,w₁,hq,BJ⟩:=round n a w hJ b (.inLoop c :: k) cs
   cases e with
   | normal=>
    obtain⟨m,cM,hJ₁⟩:=hq
    obtain⟨e₂,a₂,w₂,hq₂,aym⟩:=ih m cM a₁ w₁ hJ₁
    exact⟨e₂,a₂,w₂,hq₂, .of_steps (Steps.trans BJ (.one step_inLoop)) aym⟩
   | exit id=>exact⟨_,a₁,w₁,hq, .pass (x:=.inLoop c) rfl (fun _ _=>.inl (by simp)) BJ⟩
   | goto l=>exact⟨_,a₁,w₁,hq, .pass (x:=.inLoop c) rfl (fun _ _=>.inl (by simp)) BJ⟩
   | ret=>exact⟨_,a₁,w₁,hq, .pass (x:=.inLoop c) rfl (fun _ _=>.inl (by simp)) BJ⟩
   | panic ch=>exact⟨_,a₁,w₁,hq, .pass (x:=.inLoop c) rfl (fun _ _=>.inl (by simp)) BJ⟩
   | outgrown=>exact⟨_,a₁,w₁,hq, .pass (x:=.inLoop c) rfl (fun _ _=>.inl (by simp)) BJ⟩
 obtain⟨e,a',w',hq,BJ⟩:=key n a w h
 exact⟨e,a',w',hq, .of_steps (.one step_loop) BJ⟩
def uY(κ:bR)(s:St)(w:World)(nt:Nat)(G:Nat→AV)(k:AX→Tr→St→ax)(r:ax):Exit→Act→World→Prop:=fun e a' w'=>∃x κ' s' eW,XR x e∧iA κ s w κ' s' w'∧l8 κ' s' w' eW.get a' nt G∧k x eW s'=r
theorem uY.trans{κ κ':bR}{s s':St}{w w':World}{nt:Nat}{G:Nat→AV}{k:AX→Tr→St→ax}{r:ax}(he:iA κ s w κ' s' w'){e:Exit}{a:Act}{MK:World}(h:uY κ' s' w' nt G k r e a MK):uY κ s w nt G k r e a MK:=by
 obtain⟨x,CJ,mo,eW,h1,h2,h3,h4⟩:=h
 exact⟨x,CJ,mo,eW,h1,he.trans h2,h3,h4⟩
section
variable{P:Program}(hm:P.follows .mixedOrders=true){nt:Nat}{T:TT}(hT:T.OK P){E:Env}(hE:E.F= .not)(hC:sP P E)
include hm hT hE hC
theorem BK:∀(c:ae) (code:Code),fN T nt c code=true→∀{κ:bR} {s:St} {w:World} {fr:Tr} {a:Act} {k:AX→Tr→St→ax} {r:ax},r≠.fail→l8 κ s w fr.get a nt E.aP→exec E c fr s k=r→code.wp P (uY κ s w nt E.aP k r) a w:=by
 intro c
 induction c with
 | skip=>
  intro code ct κ s w fr a k r hf h hr
  cases code <;> simp only[fN,co] at ct
  ·exact wp_skip ⟨.norm,κ,s,fr, .norm, .refl _ _ _,h,hr⟩
  ·exact wp_label ⟨.norm,κ,s,fr, .norm, .refl _ _ _,h,hr⟩
 | region re kq=>
  intro code ct κ s w fr a k r hf h hr
  cases code with
  | region id ops d=>
   cases re with
   | none=>
    cases d with
    | true=>simp [fN] at ct
    | false=>
     simp only[fN] at ct
     simp only[exec] at hr
     exact H9 hT hE hC ct h hf hr (fun κ' s' w' eW a' he h' hk=>⟨.norm,κ',s',eW, .norm,he,h',hk⟩) id
   | some re=>
    cases re with
    | cons x l=>simp [fN] at ct
    | nil=>
     cases d with
     | false=>simp [fN] at ct
     | true=>
      simp only[fN] at ct
      simp only[exec,List.all_nil,cond_true] at hr
      exact ML hT hE hC hm ct h hf hr (fun κ' s' w' eW a' he h' hk=>⟨.norm,κ',s',eW, .norm,he,h',hk⟩) id
  | _=>cases re <;> simp [fN] at ct
 | seq x y ihx ihy=>
  intro code ct κ s w fr a k r hf h hr
  cases code <;> simp only[fN,co,bD] at ct
  simp only[exec] at hr
  refine wp_seq (wp_mono (ihx _ ct.1 hf h hr) fun e a' w' hp=>?_)
  obtain⟨z,κ',s',eW,hz,he,h',hk⟩:=hp
  cases hz with
  | norm=>exact wp_mono (ihy _ ct.2 hf h' hk) fun e a'' MK hp=>hp.trans he
  | exit i=>exact⟨.exit i,κ',s',eW, .exit i,he,h',hk⟩
  | ret=>exact⟨.ret,κ',s',eW, .ret,he,h',hk⟩
 | mask m x ih=>
  intro code ct κ s w fr a k r hf h hr
  have aDU:fN T nt x code=true:=by simpa only[fN] using ct
  simp only[exec] at hr
  obtain⟨Un,hl,kh⟩:=wH hr
  have h₂:l8 κ s w Un.get a nt E.aP:=⟨h.JV,fun t=>by
   rcases kh t with q | q
   ·rw[q];exact h.fr t
   ·rw[q];exact .dead _,h.defers,h.size,h.aP⟩
  exact ih code aDU hf h₂ hl
 | cond c x y ihx ihy=>
  intro code ct κ s w fr a k r hf h hr
  cases code <;> simp only[fN,co,bD] at ct
  simp only[exec] at hr
  have hc:=bH h.fr h.aP ct.1.1
  cases hv:aM E.aP fr.get c <;> rw[hv] at hr hc <;> simp only at hr <;> first | exact absurd hr.symm hf | skip
  rename_i b
  cases b with
  | true=>exact wp_cond_true (VR.iO (b:=true) hc) (ihx _ ct.1.2 hf h hr)
  | false=>exact wp_cond_false (VR.iO (b:=false) hc) (ihy _ ct.2 hf h hr)
 | block id c ih=>
  intro code ct κ s w fr a k r hf h hr
  cases code <;> simp only[fN,co,bD] at ct
  have e:=cQ ct.1
  subst e
  simp only[exec] at hr
  refine wp_block (wp_mono (ih _ ct.2 hf h hr) fun e a' w' hp=>?_)
  obtain⟨z,κ',s',eW,hz,he,h',hk⟩:=hp
  cases hz with
  | norm=>exact⟨.norm,κ',s',eW, .norm,he,h',hk⟩
  | exit i=>
   simp only[Exit.inBlock]
   simp only[bu] at hk
   split
   ·rename_i hi
    rw[hi,Nat.beq_refl,cond_true] at hk
    exact⟨.norm,κ',s',eW, .norm,he,h',hk⟩
   ·rename_i hi
    rw[show Nat.beq i id=false from by cases hb:Nat.beq i id with
     | false=>rfl
     | true=>exact absurd (cQ hb) hi,cond_false] at hk
    exact⟨.exit i,κ',s',eW, .exit i,he,h',hk⟩
  | ret=>exact⟨.ret,κ',s',eW, .ret,he,h',hk⟩
 | loop aK c ih=>
  intro code ct κ s w fr a k r hf h hr
  cases code <;> simp only[fN,co] at ct
  simp only[exec] at hr
  have masked:∀{κ':bR} {s':St} {w':World} {eW Un:Tr} {a':Act},l8 κ' s' w' eW.get a' nt E.aP→(∀t,Un.get t=eW.get t∨Un.get t= .dead)→l8 κ' s' w' Un.get a' nt E.aP:=fun h' kh=>⟨h'.JV,fun t=>by
   rcases kh t with q | q
   ·rw[q];exact h'.fr t
   ·rw[q];exact .dead _,h'.defers,h'.size,h'.aP⟩
  obtain⟨fr₀,hl₀,ayp⟩:=wH hr
  obtain⟨N,hN⟩:=hC.loop
  rw[hN] at hl₀
  refine agM (fun n a' w'=>∃κ' s' eW,iA κ s w κ' s' w'∧l8 κ' s' w' eW.get a' nt E.aP∧cY (exec E c) aK n eW s' k=r) (fun n a' w' hJ=>?_) ⟨κ,s,fr₀, .refl _ _ _,masked h ayp,hl₀⟩
  obtain⟨κ',s',eW,he,h',hl⟩:=hJ
  cases n with
  | zero=>exact absurd hl.symm hf
  | succ n=>
   simp only[cY] at hl
   refine wp_mono (ih _ ct hf h' hl) fun e a'' MK hp=>?_
   obtain⟨z,CJ,mo,IG,hz,D9,Ul,hk⟩:=hp
   cases hz with
   | norm=>
    simp only[cA] at hk
    obtain⟨Un,hl₂,ayq⟩:=wH hk
    exact⟨n,Nat.lt_succ_self n,CJ,mo,Un,he.trans D9,masked Ul ayq,hl₂⟩
   | exit i=>exact⟨.exit i,CJ,mo,IG, .exit i,he.trans D9,Ul,hk⟩
   | ret=>exact⟨.ret,CJ,mo,IG, .ret,he.trans D9,Ul,hk⟩
 | exit id=>
  intro code ct κ s w fr a k r hf h hr
  cases code <;> simp only[fN,co] at ct
  have e:=cQ ct
  subst e
  exact wp_exit ⟨.exit id,κ,s,fr, .exit id, .refl _ _ _,h,hr⟩
 | scope c ih=>
  intro code ct κ s w fr a k r hf h hr
  cases code <;> simp only[fN,co] at ct
  simp only[exec] at hr
  refine wp_scope_straight (wp_mono (ih _ ct hf h hr) fun e a' w' hp=>?_)
  obtain⟨z,κ',s',eW,hz,he,h',hk⟩:=hp
  cases hz with
  | norm=>exact⟨.norm,κ',s',eW, .norm,he,h',hk⟩
  | exit i=>exact⟨.exit i,κ',s',eW, .exit i,he,h',hk⟩
  | ret=>exact⟨.ret,κ',s',eW, .ret,he,h',hk⟩
 | ret=>
  intro code ct κ s w fr a k r hf h hr
  cases code <;> simp only[fN,co] at ct
  exact wp_ret ⟨.ret,κ,s,fr, .ret, .refl _ _ _,h,hr⟩
end
def NP(r:ax):Prop:=∀v s,r≠.panic v s
theorem NP.bind{r:ax}{k kp:AV→St→ax}(h1:∀v s,NP (k v s))(h2:∀v s,NP (kp v s)):NP (ax.bind r k kp):=by
 cases r with
 | fail=>intro v s h;cases h
 | ok v s=>exact h1 v s
 | panic v s=>exact h2 v s
theorem NP.fail:NP .fail:=fun _ _ h=>by cases h
theorem NP.kN:∀(d n:Nat) (v:AV) (k:Tr→ax) (fr:Tr),(∀fr,NP (k fr))→NP (Tr.kN d n v k fr)
 | 0,n,v,k,fr,h=>NP.fail
 | d+1,n,v,k, .e,h=>by
  simp only[Tr.kN]
  cases Nat.beq n 0
  ·cases Nat.beq (n % 2) 1
   ·exact NP.kN d _ v _ _ (fun _=>h _)
   ·exact NP.kN d _ v _ _ (fun _=>h _)
  ·exact h _
 | d+1,n,v,k, .n l x r,h=>by
  simp only[Tr.kN]
  cases Nat.beq n 0
  ·cases Nat.beq (n % 2) 1
   ·exact NP.kN d _ v _ _ (fun _=>h _)
   ·exact NP.kN d _ v _ _ (fun _=>h _)
  ·exact h _
theorem NP.ng{fr:Tr}{d:Option Nat}{v:AV}{k:Tr→ax}(h:∀fr,NP (k fr)):NP (ng fr d v k):=by
 cases d with
 | none=>exact h fr
 | some n=>exact NP.kN 12 n v k fr h
theorem NP.fp{E:Env}(hE:E.F= .not):∀(kq:List cJ) {fr:Tr} {s:St} {fin:Tr→St→ax} {vM:AV→Tr→St→ax},(∀fr s,NP (fin fr s))→(∀v fr s,NP (vM v fr s))→NP (fp E kq fr s fin vM)
 | [],_,_,_,_,h,_=>h _ _
 | o :: os,fr,s,fin,vM,h,hp=>by
  simp only[Ab.fp]
  have key:∀w:Bool,NP (bif w then bp E fr.get s (fun v s=>Ab.ng fr o.dst v fun fr=>Ab.fp E os fr s fin vM) (fun v s=>vM v fr s) o.op else Ab.ng fr o.dst (.cS []) fun fr=>Ab.fp E os fr s fin vM):=fun w=>by
   cases w with
   | false=>exact NP.ng (fun fr=>NP.fp hE os h hp)
   | true=>
    simp only[cond_true]
    rw[lL hE]
    exact NP.bind (fun v s=>NP.ng (fun fr=>NP.fp hE os h hp)) (fun v s=>hp _ _ _)
  unfold p8
  split
  ·exact key _
  ·split
   ·exact key _
   ·exact key _
   ·exact NP.fail
theorem NP.exec{E:Env}(hE:E.F= .not)(hL:∃n,∀step aK fr s k,E.loop step aK fr s k=cY step aK n fr s k):∀(c:ae) {fr:Tr} {s:St} {k:AX→Tr→St→ax},(∀x fr s,NP (k x fr s))→NP (exec E c fr s k):=by
 intro c
 induction c with
 | skip=>exact fun h=>h _ _ _
 | region re ops=>
  intro fr s k h
  cases re with
  | none=>exact NP.fp hE ops (fun _ _=>h _ _ _) (fun _ _ _=>NP.fail)
  | some re=>
   simp only[Ab.exec]
   cases re.all (xb E.aP fr.get)
   ·exact NP.fail
   ·exact NP.fp hE ops (fun _ _=>h _ _ _) (fun _ _ _=>NP.fail)
 | seq a b Ey Ez=>
  intro fr s k h
  simp only[Ab.exec]
  refine Ey fun x fr s=>?_
  cases x with
  | norm=>exact Ez h
  | _=>exact h _ _ _
 | mask m a ih=>
  intro fr s k h
  simp only[Ab.exec]
  obtain⟨eW,e,_⟩:=jt m (fun fr=>Ab.exec E a fr s k) fr
  rw[e]
  exact ih h
 | cond c a b Ey Ez=>
  intro fr s k h
  simp only[Ab.exec]
  split
  ·rename_i t _
   cases t
   ·exact Ez h
   ·exact Ey h
  ·exact NP.fail
 | block id c ih=>
  intro fr s k h
  simp only[Ab.exec]
  refine ih fun x fr s=>?_
  cases x with
  | exit j=>simp only[bu];cases Nat.beq j id <;> exact h _ _ _
  | _=>exact h _ _ _
 | loop aK c ih=>
  intro fr s k h
  simp only[Ab.exec]
  obtain⟨n,hn⟩:=hL
  obtain⟨eW,e,hx⟩:=jt aK (fun fr=>E.loop (Ab.exec E c) aK fr s k) fr
  rw[e]
  simp only[hn]
  clear hn e hx
  induction n generalizing eW s with
  | zero=>exact NP.fail
  | succ n ihn=>
   simp only[cY]
   refine ih fun x fr s=>?_
   cases x with
   | norm=>
    simp only[cA]
    obtain⟨eW,e,_⟩:=jt aK (fun fr=>cY (Ab.exec E c) aK n fr s k) fr
    rw[e]
    exact ihn (s:=s) (eW:=eW)
   | _=>exact h _ _ _
 | exit id=>exact fun h=>h _ _ _
 | scope c ih=>
  intro fr s k h
  simp only[Ab.exec]
  exact ih h
 | ret=>exact fun h=>h _ _ _
theorem NP.aR:∀(vs:List AV) (i:Nat) (fr:Tr) (k:Tr→ax),(∀fr,NP (k fr))→NP (aR vs i fr k)
 | [],_,fr,_,h=>h fr
 | v :: vs,i,fr,k,h=>NP.kN 12 i v _ fr (fun fr=>NP.aR vs (i+1) fr k h)
theorem NP.finish{fn:bT}{fr:Tr}{s:St}:NP (finish .not fn fr s):=by
 intro v s' h
 simp only[Ab.finish,a6.not] at h
 split at h
 ·split at h
  ·cases h
  ·split at h
   ·split at h <;> cases h
   ·cases h
 ·cases h
theorem NP.call{T:Nat→Option bT}{G:Nat→AV}{X:Nat→List AV→St→ax}(hX:∀f args s,NP (X f args s)):∀(n f:Nat) (args:List AV) (s:St),NP (call .not T G X n f args s)
 | 0,_,_,_=>NP.fail
 | n+1,f,args,s=>by
  simp only[Ab.call]
  split
  ·exact hX _ _ _
  ·cases Nat.beq _ _
   ·exact NP.fail
   ·refine NP.aR _ _ _ _ fun fr=>NP.exec rfl ⟨_,fun _ _ _ _ _=>rfl⟩ _ fun x fr s=>?_
    cases x with
    | norm=>exact NP.finish
    | ret=>exact NP.finish
    | _=>exact NP.fail
theorem sX{k:Tr→ax}{r:ax}(hf:r≠.fail):∀(vs:List AV) (i:Nat) (fr:Tr),aR vs i fr k=r→∃eW,k eW=r∧∀t,eW.get t=if i≤t∧t < i+vs.length then vs.getD (t - i) .dead else fr.get t
 | [],i,fr,h=>⟨fr,h,fun t=>by rw[if_neg (by rw[eh];omega)]⟩
 | v :: vs,i,fr,h=>by
  obtain⟨fr₁,h1,h2⟩:=mY 12 i v _ fr r h hf
  obtain⟨eW,h3,h4⟩:=sX hf vs (i+1) fr₁ h1
  refine⟨eW,h3,fun t=>?_⟩
  rw[h4 t]
  by_cases ht:t=i
  ·subst ht
   rw[if_neg (by omega),h2,if_pos rfl,if_pos (by simp)]
   simp
  ·by_cases hc:i+1≤t∧t < i+1+vs.length
   ·rw[if_pos hc,if_pos (by simp;omega),show t - i=(t - (i+1))+1 by omega]
    simp
   ·rw[if_neg hc,h2,if_neg ht,if_neg (by simp;omega)]
theorem uZ{α β:Type}{f:α→Option β}:∀{xs:List α} {ys:List β},iT f xs=some ys→ys.length=xs.length∧∀(j:Nat) (y:β),ys[j]? =some y→∃x,xs[j]? =some x∧f x=some y
 | [],ys,h=>by
  simp only[iT,bM] at h
  subst h
  exact⟨rfl,fun j y hj=>by simp at hj⟩
 | x :: xs,ys,h=>by
  simp only[iT] at h
  cases hx:f x with
  | none=>rw[hx] at h;cases h
  | some y=>
   rw[hx] at h
   simp only[jc] at h
   cases hm:iT f xs with
   | none=>rw[hm] at h;cases h
   | some l=>
    rw[hm] at h
    simp only[e9,bM] at h
    subst h
    obtain⟨h1,h2⟩:=uZ hm
    refine⟨by simp [h1],fun j z hj=>?_⟩
    cases j with
    | zero=>simp at hj;subst hj;exact⟨x,rfl,hx⟩
    | succ j=>simpa using h2 j z (by simpa using hj)
theorem tZ{P:Program}{w:World}{α β:Type}(f:α→Sem β):∀(rs:List α) (xs:List β),xs.length=rs.length→(∀(j:Nat) (r:α) (x:β),rs[j]? =some r→xs[j]? =some x→(f r).run P w= .ok x w)→(rs.mapM f).run P w= .ok xs w
 | [],[],_,_=>by simp
 | [],_ :: _,h,_=>by simp at h
 | _ :: _,[],h,_=>by simp at h
 | r :: rs,x :: xs,h,hj=>by
  have h1:=hj 0 r x rfl rfl
  have h2:=tZ f rs xs (by simpa using h) (fun j r x hr hx=>hj (j+1) r x (by simpa using hr) (by simpa using hx))
  simp [List.mapM_cons,h1,h2]
section
variable{P:Program}{κ:bR}{s:St}{w:World}
theorem dk.jW(hs:dk κ s w):∀n,n≤s.own.length→∃κ' s',dk κ' s' w∧iA κ s w κ' s' w∧s'.up=s.up∧s'.ro=s.ro∧s'.own.length=s.own.length∧(∀i,n≤i→s'.own[i]? =s.own[i]?)∧κ'.loc=κ.loc∧
  ∀i cs,i < n→s.own[i]? =some (.cells cs)→∃C:Array Value,(∀j (h:j < C.size),κ'.F ⟨κ.loc s.aa i,j,none⟩=some C[j])∧dS κ' (s.aa+1) cs (C.toList.take cs.length)
 | 0,_=>⟨κ,s,hs, .refl _ _ _,rfl,rfl,rfl,fun _ _=>rfl,rfl,fun i cs h=>absurd h (Nat.not_lt_zero i)⟩
 | n+1,hn=>by
  obtain⟨κ',s',h1,h2,h3,h4,h5,h6,h7,h8⟩:=hs.jW n (by omega)
  have hd:s'.aa=s.aa:=h2.aa
  by_cases hc:∃cs,s.own[n]? =some (.cells cs)
  ·obtain⟨cs,MB⟩:=hc
   have hg:s'.get (.g s'.aa n)=some (.cells cs):=by
    simp only[St.get,↓reduceIte]
    rw[h6 n (Nat.le_refl _),MB]
   obtain⟨C,e,fz,c1,c2,c3,c4⟩:=h1.DO (s':={s' with own:=s'.own.set n .gone}) hg (by simp [St.set])
   refine⟨_,_,c3,h2.trans c4,h3,h4,by simp [h5],fun i hi=>?_,h7,fun i nX hi xE=>?_⟩
   ·simp only
    rw[eM (by omega),h6 i (by omega)]
   ·by_cases mn:i=n
    ·subst mn
     rw[MB] at xE
     simp only[bM,bg.cells.injEq] at xE
     subst xE
     refine⟨C,fun j hj=>?_,?_⟩
     ·rw[←h7,←hd]
      exact sK (Nat.zero_le _) hj
     ·rw[hd] at c2
      exact⟨c2.1,fun j c x hc hx=>(c2.2 j c x hc hx).mono (c4.k.low (by omega))⟩
    ·obtain⟨C',r1,r2⟩:=h8 i nX (by omega) xE
     exact⟨C',fun j hj=>c4.k.F _ _ (r1 j hj),r2.1,fun j c x hc hx=>(r2.2 j c x hc hx).mono (c4.k.low (by omega))⟩
  ·refine⟨κ',s',h1,h2,h3,h4,h5,fun i hi=>h6 i (by omega),h7,fun i nX hi xE=>?_⟩
   by_cases mn:i=n
   ·subst mn;exact absurd ⟨nX,xE⟩ hc
   ·exact h8 i nX (by omega) xE
theorem Ia{D off len cap sz b:Nat}{cs:List AV}{C:Array Value}(hF:∀j (h:j < C.size),κ.F ⟨b,j,none⟩=some C[j])(hv:dS κ D cs (C.toList.take cs.length)){rc:Nat}(CL:len≤rc)(jM:len=cap→rc=cap)(h1:AV.ba (chunk sz len (cs.drop off))=true)(h2:off+len * sz≤cs.length)(hz:sz≠0)(D':Nat):
  VR κ D' (.sl sz (chunk sz len (cs.drop off)) (if len=cap then .exact else .any)) (.slice (some ⟨b,off,none⟩) len rc):=by
 obtain⟨q1,q2⟩:=nw sz hz len (cs.drop off) (by simp;omega)
 have hl:cs.length≤C.size:=by have:=hv.1;simp at this;omega
 have key:VR κ D (.sl sz (chunk sz len (cs.drop off)) (if len=cap then Gr.exact else Gr.any)) (.slice (some ⟨b,off,none⟩) (chunk sz len (cs.drop off)).length rc):=by
  refine .sl sz _ _ _ _ (fun j=>C.getD (off+j) undef) ?_ (by rw[fT];exact CL) (fun _=>rfl) q2 (.inl fun e he=>dX.1 h1 e he) (fun j hj=>?_) (fun j c hc=>?_)
  ·by_cases h:len=cap
   ·simp [h,kg,fT,jM h]
   ·simp [h,kg]
  ·rw[q1] at hj
   simp at hj
   have cM:off+j < C.size:=by omega
   rw[f7 rfl]
   show κ.F ⟨b,off+j,none⟩=_
   rw[hF _ cM]
   simp [Array.getD,cM]
  ·rw[q1,List.getElem?_take] at hc
   split at hc
   ·rw[List.getElem?_drop] at hc
    obtain⟨y,hy,xr⟩:=hv.get hc
    have cM:off+j < cs.length:=(bZ.1 hc).1
    have:C.getD (off+j) undef=y:=by
     rw[List.getElem?_take,if_pos cM] at hy
     have D4:C[off+j]? =some y:=by simpa using hy
     simp [Array.getD_eq_getD_getElem?,D4]
    rw[this]
    exact xr
   ·cases hc
 rw[fT] at key
 refine key.bo ?_ D' (fun _ _ h=>h)
 split <;> rfl
theorem t8{κ':bR}(hk:jd κ κ' (s.aa+1))(MM:∀i cs,s.own[i]? =some (.cells cs)→∃C:Array Value,(∀j (h:j < C.size),κ'.F ⟨κ.loc s.aa i,j,none⟩=some C[j])∧dS κ' (s.aa+1) cs (C.toList.take cs.length)){v v':AV}{x:Value}(hv:VR κ (s.aa+1) (v.av s.aa) x)(h:dE s v=some v'):VR κ' s.aa v' x:=by
 have own:∀{i off len cap sz:Nat},VR κ (s.aa+1) (.ck (.g s.aa i) off len cap sz) x→jW s i off len cap sz=some v'→VR κ' s.aa v' x:=fun {i off len cap sz} hv h=>by
  obtain⟨rc,e,hd,hi,CL,D8⟩:=hv.nq
  unfold Ab.jW at h
  split at h
  ·rename_i cs MB
   simp only at h
   split at h
   ·rename_i hb
    simp only[bD,Bool.not_eq_true'] at hb
    simp only[bM] at h
    subst h
    obtain⟨C,r1,r2⟩:=MM i cs MB
    rw[e]
    exact Ia r1 r2 CL (fun h=>by rcases D8 with h1 | ⟨h1,h2,_⟩ <;> omega) hb.1.1 (dL hb.1.2) (fun h0=>by rw[h0] at hb;simp at hb) _
   ·cases h
  ·cases h
 have any:∀{sz:Nat} {es:List AV} {l:Loc},AV.ba es=true→VR κ (s.aa+1) (AV.av s.aa (.sl sz es (.bJ l))) x→VR κ' s.aa (.sl sz es .any) x:=fun {sz es l} xZ hv=>by
  have h50:=dX.1 xZ
  simp only[AV.av] at hv
  rcases hv.jF with⟨_,h2,_⟩ | ⟨a,cap,aL,rfl,hg,hn,CP,h4,h5,h6,h7⟩
  ·simp [Gr.av] at h2
  ·refine .sl _ _ _ _ _ aL trivial hn CP h4 (.inl h50) (fun j hj=>hk.F _ _ (h6 j hj)) (fun j c hc=>(h7 j c hc).bo ?_ _ hk.F)
   obtain⟨e,he,Ax⟩:=List.mem_flatMap.1 (List.mem_of_getElem? hc)
   exact jK (h50 e he) Ax
 unfold dE at h
 split at h
 ·exact own hv h
 ·split at h
  ·rename_i hd
   subst hd
   exact own hv h
  ·split at h
   ·rename_i cM
    simp only[bM] at h
    subst h
    obtain⟨rc,e,hd,hi,CL,D8⟩:=VR.nq hv
    rw[e,←hk.loc _ _ hd hi]
    exact .ck _ _ _ _ _ _ _ cM (Nat.lt_of_lt_of_le hi (hk.n _ hd)) CL (D8.imp id fun⟨h1,h2,h3,h4⟩=>⟨h1,h2,h3,by rw[hk.loc _ _ hd hi];exact hk.tk _ _ _ _ hd hi h4⟩)
   ·cases h
 ·split at h
  ·rename_i cM
   simp only[bM] at h
   subst h
   obtain⟨e,hd,hi⟩:=VR.qh hv
   rw[e,←hk.loc _ _ hd hi]
   exact .ref _ _ _ cM (Nat.lt_of_lt_of_le hi (hk.n _ hd))
  ·cases h
 ·split at h
  ·rename_i xZ
   simp only[bM] at h
   subst h
   exact any xZ hv
  ·cases h
 ·split at h
  ·rename_i cM
   simp only[bM] at h
   subst h
   have hv:VR κ (s.aa+1) (.sl _ _ (.bJ (.g _ _))) x:=hv
   rcases hv.jF with⟨_,h2,_⟩ | ⟨a,cap,aL,rfl,hg,hn,CP,h4,h5,h6,h7⟩
   ·cases h2
   ·refine .sl _ _ _ _ _ aL ⟨cM,(hg.mono hk).2⟩ hn CP h4 h5 (fun j hj=>hk.F _ _ (h6 j hj)) (fun j c hc=>?_)
    obtain⟨e,he,Ax⟩:=List.mem_flatMap.1 (List.mem_of_getElem? hc)
    rcases h5 with h5 | ⟨d',i',e',h5⟩
    ·exact(h7 j c hc).bo (jK (h5 e he) Ax) _ hk.F
    ·cases e'
     exact(((h7 j c hc).mono hk).lower (DK (h5 e he) Ax)).up cM
  ·split at h
   ·rename_i xZ
    simp only[bM] at h
    subst h
    exact any xZ hv
   ·cases h
 ·split at h
  ·rename_i cM
   simp only[bM] at h
   subst h
   have hv:VR κ (s.aa+1) (.map (.g _ _)) x:=hv
   cases hv
   rename_i hd hi
   rw[←hk.loc _ _ hd hi]
   exact .map _ _ cM (Nat.lt_of_lt_of_le hi (hk.n _ hd))
  ·cases h
 ·split at h
  ·rename_i hr
   simp only[bM] at h
   subst h
   rw[lJ hr] at hv
   exact hv.bo hr _ hk.F
  ·cases h
theorem Ib{κ':bR}(hk:jd κ κ' (s.aa+1))(MM:∀i cs,s.own[i]? =some (.cells cs)→∃C:Array Value,(∀j (h:j < C.size),κ'.F ⟨κ.loc s.aa i,j,none⟩=some C[j])∧dS κ' (s.aa+1) cs (C.toList.take cs.length)){v v':AV}{x:Value}(hv:VR κ (s.aa+1) (v.av s.aa) x)(h:freeze s v=some v'):VR κ' s.aa v' x:=by
 unfold freeze at h
 split at h
 ·rename_i cs
  cases hm:iT (dE s) cs with
  | none=>rw[hm] at h;cases h
  | some l=>
   rw[hm] at h
   simp only[e9,bM] at h
   subst h
   obtain⟨xs,rfl,hl,hx⟩:=VR.tS (cs:=cs) hv
   obtain⟨h1,h2⟩:=uZ hm
   refine .agg l xs (by rw[hl,h1]) (fun j c y hc hy=>?_)
   obtain⟨c0,q1,q2⟩:=h2 j c hc
   have:=hx j c0 y q1 hy
   exact t8 hk MM (by rw[this.qT];exact this) q2
 ·exact t8 hk MM hv h
def wI(T:TT):Bo→ResultVar→Bool
 | .t n, .tmp m=>Nat.beq n m
 | .cell a n, .cell b ty=>Nat.beq a b && T.load ty n
 | _,_=>false
def pB(T:TT):List Bo→List ResultVar→Bool
 | [],[]=>true
 | a :: as,b :: bs=>wI T a b && pB T as bs
 | _,_=>false
theorem wk{T:TT}:∀{as:List Bo} {bs:List ResultVar},pB T as bs=true→as.length=bs.length∧∀(j:Nat) (a:Bo) (b:ResultVar),as[j]? =some a→bs[j]? =some b→wI T a b=true
 | [],[],_=>⟨rfl,fun j a b h=>by simp at h⟩
 | [],_ :: _,h=>by simp [pB] at h
 | _ :: _,[],h=>by simp [pB] at h
 | a :: as,b :: bs,h=>by
  simp only[pB,bD] at h
  obtain⟨h1,h2⟩:=wk h.2
  refine⟨by simp [h1],fun j a' b' ha hb=>?_⟩
  cases j with
  | zero=>simp at ha hb;subst ha;subst hb;exact h.1
  | succ j=>exact h2 j a' b' (by simpa using ha) (by simpa using hb)
theorem Uo{T:TT}(hT:T.OK P){nt:Nat}{G:Nat→AV}{fr:Tr}{a:Act}(h:l8 κ s w fr.get a nt G){rv:Bo}{b:ResultVar}(ct:wI T rv b=true){v:AV}(hv:xd fr s rv=some v):
  ∃x,(∀f:ResultVar→Sem Value,(∀t,f (.tmp t)=Pure.pure (a.tmps.getD t undef))→(∀t ty,f (.cell t ty)=(do loadVar ty (←asAddr (a.tmps.getD t undef)):Sem Value))→(f b).run P w= .ok x w)∧VR κ (s.aa+1) (v.av s.aa) x:=by
 cases rv with
 | t n=>
  cases b with
  | cell t ty=>simp [wI] at ct
  | tmp m=>
   simp only[wI] at ct
   have:=cQ ct
   subst this
   simp only[xd,bM] at hv
   subst hv
   exact⟨_,fun f h1 _=>by rw[h1];simp,h.fr n⟩
 | cell t n=>
  cases b with
  | tmp m=>simp [wI] at ct
  | cell m ty=>
   simp only[wI,bD] at ct
   have:=cQ ct.1
   subst this
   have hx:=h.fr t
   simp only[xd] at hv
   split at hv
   ·rename_i al off ya
    rw[ya] at hx
    simp only[AV.av] at hx
    rw[←St.jn] at hv
    cases hp:al.av s.aa with
    | l i=>cases al <;> simp [Loc.av] at hp
    | g d i=>
     rw[hp] at hx hv
     obtain⟨e,hd,hi⟩:=hx.qh
     have key:∀cs,s.get (.g d i)=some (.cells cs)→fm {F:=.not,aP:=G,call:=fun _ _ _=>.fail,loop:=fun _ _ _ _ _=>.fail} s .ok n (cs.drop off)= .ok v s→∃x,(∀f:ResultVar→Sem Value,(∀t,f (.tmp t)=Pure.pure (a.tmps.getD t undef))→(∀t ty,f (.cell t ty)=(do loadVar ty (←asAddr (a.tmps.getD t undef)):Sem Value))→(f (.cell t ty)).run P w= .ok x w)∧VR κ (s.aa+1) (v.av s.aa) x:=fun cs hg hl=>by
      obtain⟨v1,x,q1,q2,q3⟩:=AC (P:=P) (Az (sO h.JV hg off) (show d+1≤s.aa+1 by omega)) (hT.load ct.2) rfl hl (by simp)
      simp only[ax.ok.injEq] at q1
      obtain⟨rfl,_⟩:=q1
      refine⟨x,fun f _ h2=>?_,by rw[q3.qT];exact q3⟩
      rw[h2,e]
      simp [asAddr,q2]
     split at hv
     ·rename_i cs hg
      refine key cs hg ?_
      simp only[fm,a6.not]
      cases hdr:cs.drop off with
      | nil=>
       have:(cs.drop off)[0]? =some v:=by rw[List.getElem?_drop];simpa using hv
       rw[hdr] at this
       cases this
      | cons c l=>
       have:(cs.drop off)[0]? =some v:=by rw[List.getElem?_drop];simpa using hv
       rw[hdr] at this
       simp only[List.getElem?_cons_zero,bM] at this
       subst this
       rfl
     ·rename_i cs m hg
      split at hv
      ·rename_i hle
       simp only[bM] at hv
       subst hv
       refine key cs hg ?_
       have:=dL hle
       have hb:Nat.ble m (cs.drop off).length=true:=by
        rw[Nat.ble_eq]
        simp
        omega
       simp only[fm,a6.not,hb,cond_true]
      ·cases hv
     ·cases hv
   ·cases hv
end
def EA(T:TT)(lc:bT)(fn:Func):Bool:=
 match fn.body with
 | some c=> !(fn.name == "runtime.NumGoroutine") && Nat.beq lc.nt fn.ntmps && Nat.ble lc.np fn.ntmps && pB T lc.results fn.results.toList && fN T lc.nt lc.body c
 | none=>false
def Uq(P:Program)(T:TT)(yb:Nat→Option bT):Prop:=∀f lc,yb f=some lc→∃fn,P.funcs[f]? =some fn∧EA T lc fn=true
structure XOK (P:Program) (yb:Nat→Option bT) (G:Nat→AV) (X:Nat→List AV→St→ax):Prop where
 rV:∀f args s,NP (X f args s)
 ok:∀f args s v s' κ w xs,yb f=none→X f args s= .ok v s'→dk κ s w→nV κ G→dS κ (s.aa+1) args xs→
  (∃x w',(callFunc f xs.toArray).run P w= .ok (.value x) w'∧qm κ s w v s' x w')∨
  ((callFunc f xs.toArray).run P w= .ok (.enter f xs.toArray) w∧Calls P f xs.toArray w fun e w'=>∃x,e= .returned x∧qm κ s w v s' x w')
section
variable{P:Program}{κ:bR}{s:St}{w:World}
theorem EB{κ:bR}{D:Nat}{vs:List AV}{xs:List Value}(h:dS κ D vs xs):VR κ D (xe vs) (if h:xs.toArray.size=1 then xs.toArray[0] else .tuple xs.toArray):=by
 match vs,xs,h with
 | [v],[x],h=>exact h.2 0 v x rfl rfl
 | [],xs,h=>
  have:xs=[]:=List.eq_nil_of_length_eq_zero h.1
  subst this
  exact .cS [] [] rfl (fun j c x hc=>by simp at hc)
 | v :: v2 :: vs,xs,h=>
  have hl:xs.length=vs.length+2:=by rw[h.1];rfl
  rw[dif_neg (by simp;omega)]
  exact .cS _ xs h.1 h.2
 | [v],[],h=>exact absurd h.1 (by simp)
 | [v],_ :: _ :: _,h=>exact absurd h.1 (by simp)
theorem wm{T:TT}(hT:T.OK P){nt:Nat}{G:Nat→AV}{fr:Tr}{a:Act}(h:l8 κ s w fr.get a nt G){lc:bT}{fn:Func}(ct:pB T lc.results fn.results.toList=true){vs:List AV}(D5:iT (xd fr s) lc.results=some vs):
  ∃xs:List Value,(results fn a.tmps).run P w= .ok (if h:xs.toArray.size=1 then xs.toArray[0] else .tuple xs.toArray) w∧dS κ (s.aa+1) (vs.map (AV.av s.aa)) xs:=by
 obtain⟨AN,cG⟩:=uZ D5
 obtain⟨hl3,hr3⟩:=wk ct
 have oK:∀(j:Nat) (b:ResultVar),fn.results.toList[j]? =some b→∃x,(∀f:ResultVar→Sem Value,(∀t,f (.tmp t)=Pure.pure (a.tmps.getD t undef))→(∀t ty,f (.cell t ty)=(do loadVar ty (←asAddr (a.tmps.getD t undef)):Sem Value))→(f b).run P w= .ok x w)∧∀v,vs[j]? =some v→VR κ (s.aa+1) (v.av s.aa) x:=fun j b hb=>by
  have hj:=(bZ.1 hb).1
  have hja:j < lc.results.length:=by rw[hl3];exact hj
  have hjv:j < vs.length:=by rw[AN];exact hja
  obtain⟨rv,e1,e2⟩:=cG j vs[j] (d8 hjv)
  obtain⟨x,e3,e4⟩:=Uo hT h (hr3 j rv b e1 hb) e2
  refine⟨x,e3,fun v hv=>?_⟩
  rw[d8 hjv] at hv
  simp only[bM] at hv
  subst hv
  exact e4
 have gY:∃xs:List Value,xs.length=fn.results.toList.length∧∀(j:Nat) (b:ResultVar) (x:Value),fn.results.toList[j]? =some b→xs[j]? =some x→(∀f:ResultVar→Sem Value,(∀t,f (.tmp t)=Pure.pure (a.tmps.getD t undef))→(∀t ty,f (.cell t ty)=(do loadVar ty (←asAddr (a.tmps.getD t undef)):Sem Value))→(f b).run P w= .ok x w)∧∀v,vs[j]? =some v→VR κ (s.aa+1) (v.av s.aa) x:=by
  refine⟨(List.range fn.results.toList.length).map fun j=>if hj:j < fn.results.toList.length then Classical.choose (oK j _ (d8 hj)) else undef,by simp,fun j b x hb hx=>?_⟩
  have hj:=(bZ.1 hb).1
  have gl:fn.results.toList[j]=b:=(bZ.1 hb).2
  simp only[List.getElem?_map,List.getElem?_range hj,e9,bM] at hx
  rw[dif_pos hj] at hx
  have:=Classical.choose_spec (oK j _ (d8 hj))
  rw[hx,gl] at this
  exact this
 obtain⟨xs,nU,hx⟩:=gY
 refine⟨xs,?_,by rw[nU,cw,AN,hl3],fun j c x hc nW=>?_⟩
 ·unfold results
  rw[Array.mapM_eq_mapM_toList]
  have:=fun f h1 h2=>tZ (P:=P) (w:=w) f fn.results.toList xs nU (fun j r x hr nW=>(hx j r x hr nW).1 f h1 h2)
  rw[map_eq_pure_bind,Sem.run_bind,Sem.run_bind,this]
  ·rfl
  ·intro t;rfl
  ·intro t ty;rfl
 ·have hj:j < fn.results.toList.length:=by rw[←nU];exact(bZ.1 nW).1
  rw[List.getElem?_map] at hc
  cases hvj:vs[j]? with
  | none=>rw[hvj] at hc;cases hc
  | some v=>
   rw[hvj] at hc
   simp only[e9,bM] at hc
   subst hc
   exact(hx j _ x (d8 hj) nW).2 v hvj
theorem Ic{T:TT}(hT:T.OK P){nt:Nat}{G:Nat→AV}{fr:Tr}{a:Act}(h:l8 κ s w fr.get a nt G){lc:bT}{fn:Func}(hk:lc.aK=false)(ct:pB T lc.results fn.results.toList=true){v:AV}{s':St}(hf:finish .not lc fr s= .ok v s'):
  ∃x κ' mo own,(results fn a.tmps).run P w= .ok x w∧s.up=own :: s'.up∧s'= {own,up:=s'.up,ro:=s.ro}∧mo.up=s.up∧mo.ro=s.ro∧iA κ s w κ' mo w∧dk κ' mo w∧VR κ' s.aa v x:=by
 simp only[finish,hk,a6.not,co,↓reduceIte] at hf
 cases D5:iT (xd fr s) lc.results with
 | none=>rw[D5] at hf;cases hf
 | some vs=>
  rw[D5] at hf
  simp only at hf
  cases hfs:iT (freeze s) vs with
  | none=>rw[hfs] at hf;cases hf
  | some fs=>
   rw[hfs] at hf
   simp only at hf
   cases Ie:s.up with
   | nil=>rw[Ie] at hf;cases hf
   | cons own up=>
    rw[Ie] at hf
    simp only[ax.ok.injEq] at hf
    obtain⟨rfl,rfl⟩:=hf
    obtain⟨hl2,oH⟩:=uZ hfs
    obtain⟨κ',mo,q1,q2,q3,q4,q5,q6,q7,q8⟩:=h.JV.jW s.own.length (Nat.le_refl _)
    have MM:∀i cs,s.own[i]? =some (.cells cs)→∃C:Array Value,(∀j (h:j < C.size),κ'.F ⟨κ.loc s.aa i,j,none⟩=some C[j])∧dS κ' (s.aa+1) cs (C.toList.take cs.length):=fun i cs hi=>q8 i cs (bZ.1 hi).1 hi
    obtain⟨xs,ko,hx⟩:=wm hT h ct D5
    refine⟨_,κ',mo,own,ko,rfl,rfl,by rw[q3,Ie],q4,q2,q1,?_⟩
    refine EB ⟨by rw[hx.1,cw,hl2],fun j c x hc nW=>?_⟩
    obtain⟨v0,e1,e2⟩:=oH j c hc
    exact Ib q2.k MM (hx.2 j _ x (by rw[List.getElem?_map,e1];rfl) nW) e2
theorem JZ{T:TT}(hT:T.OK P){nt:Nat}{G:Nat→AV}{fr:Tr}{a:Act}(h:l8 κ s w fr.get a nt G){lc:bT}{fn:Func}(hk:lc.aK=true)(ct:pB T lc.results fn.results.toList=true){v:AV}{s':St}(hf:finish .not lc fr s= .ok v s'):
  ∃x,(results fn a.tmps).run P w= .ok x w∧s'=s∧VR κ (s.aa+1) (v.av s.aa) x:=by
 simp only[finish,hk,a6.not,↓reduceIte] at hf
 cases D5:iT (xd fr s) lc.results with
 | none=>rw[D5] at hf;cases hf
 | some vs=>
  rw[D5] at hf
  simp only[ax.ok.injEq] at hf
  obtain⟨rfl,rfl⟩:=hf
  obtain⟨xs,ko,hx⟩:=wm hT h ct D5
  refine⟨_,ko,rfl,?_⟩
  have:=EB hx
  rw[this.qT]
  exact this
variable(hm:P.follows .mixedOrders=true){T:TT}(hT:T.OK P){yb:Nat→Option bT}(IH:Uq P T yb){G:Nat→AV}{X:Nat→List AV→St→ax}(hX:XOK P yb G X)
include hm hT IH hX
theorem EC:∀n m,sP P {F:=.not,aP:=G,call:=call .not yb G X n,loop:=fun step aK fr s k=>cY step aK m fr s k}
 | 0,m=>⟨⟨m,fun _ _ _ _ _=>rfl⟩,fun f args s v s' h=>(by simp [call] at h),fun f args s v s' κ w xs h=>(by simp [call] at h)⟩
 | n+1,m=>by
  refine⟨⟨m,fun _ _ _ _ _=>rfl⟩,fun f args s=>NP.call hX.rV (n+1) f args s,fun f args s v s' κ w xs h hs hG sY=>?_⟩
  simp only at h hG
  simp only[call] at h
  cases hf:yb f with
  | none=>
   rw[hf] at h
   exact hX.ok f args s v s' κ w xs hf h hs hG sY
  | some lc=>
   rw[hf] at h
   simp only at h
   obtain⟨fn,AI,ct⟩:=IH f lc hf
   unfold EA at ct
   cases ED:fn.body with
   | none=>rw[ED] at ct;cases ct
   | some c=>
    rw[ED] at ct
    simp only[bD,Bool.not_eq_true'] at ct
    obtain⟨⟨⟨⟨o1,o2⟩,o3⟩,o5⟩,o6⟩:=ct
    have hnt:lc.nt=fn.ntmps:=cQ o2
    have hnp:=dL o3
    obtain⟨hlen,h⟩:=cB h (by simp)
    have hlen:=cQ hlen
    have o1':¬fn.name= "runtime.NumGoroutine" :=by simpa using o1
    refine .inr ⟨by simp [callFunc,AI,o1',ED],?_⟩
    cases o4:lc.aK with
    | true=>
     rw[o4] at h
     simp only[↓reduceIte] at h
     obtain⟨fr,hex,kh⟩:=sX (by simp) _ _ _ h
     have hC:=EC n n
     have nU:xs.length=args.length:=sY.1
     have ko:l8 κ s w fr.get {tmps:=xs.toArray ++ Array.replicate (fn.ntmps - xs.toArray.size) undef,defers:=[]} lc.nt G:=by
      refine⟨hs,fun t=>?_,rfl,?_,hG⟩
      ·rw[kh t]
       split
       ·rename_i ht
        have ht':t < args.length:=by omega
        have e1:args[t]? =some args[t]:=d8 ht'
        have e2:xs[t]? =some xs[t]:=d8 (by omega)
        have hv:=sY.2 t _ _ e1 e2
        have e3:(xs.toArray ++ Array.replicate (fn.ntmps - xs.toArray.size) undef).getD t undef=xs[t]:=by
         rw[Array.getD_eq_getD_getElem?,Array.getElem?_append_left (by simp;omega)]
         simp [e2]
        rw[e3,Nat.sub_zero,List.getD_eq_getElem?_getD,e1,Option.getD_some,hv.qT]
        exact hv
       ·exact .dead _
      ·simp
       omega
     refine calls_of_wp AI ED (wp_mono (BK hm hT rfl hC lc.body c (hnt ▸ o6) (by simp) ko hex) fun e a' w' hp=>?_)
     obtain⟨x,κ₂,s₂,eW,hx,he,hr,hk⟩:=hp
     have key:finish .not lc eW s₂= .ok v s'→a'.defers=[]∧∃y,(results fn a'.tmps).run P w'= .ok y w'∧∃x,Ending.returned y= .returned x∧qm κ s w v s' x w':=fun hk=>by
      refine⟨hr.defers,?_⟩
      obtain⟨y,r1,r2,r3⟩:=JZ hT hr o4 o5 hk
      subst r2
      refine⟨y,r1,y,rfl,κ₂,he,hr.JV,?_⟩
      rw[he.aa] at r3
      exact r3
     cases hx with
     | norm=>exact key hk
     | exit i=>cases hk
     | ret=>exact key hk
    | false=>
     rw[o4] at h
     simp only[co,↓reduceIte] at h
     obtain⟨fr,hex,kh⟩:=sX (by simp) _ _ _ h
     obtain⟨κ₁,p1,p2,p3,p4⟩:=hs.push
     have hC:=EC n n
     have nU:xs.length=args.length:=sY.1
     have ko:l8 κ₁ s.push w fr.get {tmps:=xs.toArray ++ Array.replicate (fn.ntmps - xs.toArray.size) undef,defers:=[]} lc.nt G:=by
      refine⟨p1,fun t=>?_,rfl,?_,hG.mono p2⟩
      ·rw[kh t]
       split
       ·rename_i ht
        have ht':t < args.length:=by omega
        have e1:args[t]? =some args[t]:=d8 ht'
        have e2:xs[t]? =some xs[t]:=d8 (by omega)
        have hv:=sY.2 t _ _ e1 e2
        have e3:(xs.toArray ++ Array.replicate (fn.ntmps - xs.toArray.size) undef).getD t undef=xs[t]:=by
         rw[Array.getD_eq_getD_getElem?,Array.getElem?_append_left (by simp;omega)]
         simp [e2]
        rw[e3,Nat.sub_zero,List.getD_eq_getElem?_getD,e1,Option.getD_some,hv.qT]
        exact(hv.mono p2).up (by rw[St.oG];omega)
       ·exact .dead _
      ·simp
       omega
     refine calls_of_wp AI ED (wp_mono (BK hm hT rfl hC lc.body c (hnt ▸ o6) (by simp) ko hex) fun e a' w' hp=>?_)
     obtain⟨x,κ₂,s₂,eW,hx,he,hr,hk⟩:=hp
     have key:finish .not lc eW s₂= .ok v s'→a'.defers=[]∧∃y,(results fn a'.tmps).run P w'= .ok y w'∧∃x,Ending.returned y= .returned x∧qm κ s w v s' x w':=fun hk=>by
      refine⟨hr.defers,?_⟩
      obtain⟨y,κ₃,s₃,own,r1,r2,r3,r4,r5,r6,r7,r8⟩:=Ic hT hr o4 o5 hk
      refine⟨y,r1,y,rfl,κ₃,?_,?_,?_⟩
      ·
       have hE:=he.trans r6
       have hs3:s'= {own,up:=s'.up,ro:=s₃.ro}:=by rw[r5];exact r3
       have Ie:s₃.up=own :: s'.up:=by rw[r4,r2]
       have hd:s'.aa=s.aa:=by
        have h1:=hE.aa
        rw[St.oG] at h1
        have h2:s₃.aa=s'.aa+1:=by
         rw[hs3]
         simp only[St.aa,Ie,cP]
         omega
        omega
       have Ur:∀b,Live κ₁ s.push b↔Live κ s b:=fun b=>by
        constructor
        ·rintro ⟨d,i,o,g1,g2⟩
         rw[St.rM] at g1
         exact⟨d,i,o,g1,by rw[←p4 d i o g1];exact g2⟩
        ·rintro ⟨d,i,o,g1,g2⟩
         exact⟨d,i,o,by rw[St.rM];exact g1,by rw[p4 d i o g1];exact g2⟩
       refine⟨p2.trans (hE.k.low (by rw[St.oG];omega)),hd,hE.size,hE.os,hE.tape,hE.output,fun b hb hl=>hE.chg b hb (fun Jq=>hl ((Ur b).1 Jq)),fun b hb hl=>?_,fun a ha=>?_⟩
       ·refine(Ur b).1 (hE.live b hb ?_)
        obtain⟨d,i,o,g1,g2⟩:=hl
        rw[hs3] at g1
        exact⟨d,i,o,St.xq Ie g1,g2⟩
       ·rcases hE.TS a ha with q | q | q
        ·rw[p3] at q;exact .inl q
        ·exact .inr (.inl q)
        ·exact .inr (.inr ((Ur _).1 q))
      ·have hs3:s'= {own,up:=s'.up,ro:=s₃.ro}:=by rw[r5];exact r3
       rw[hs3]
       exact r7.pop (by rw[r4,r2])
      ·have hd:s₂.aa=s.aa+1:=by rw[he.aa,St.oG]
       rw[hd] at r8
       rw[r8.qT]
       exact r8
     cases hx with
     | norm=>exact key hk
     | exit i=>cases hk
     | ret=>exact key hk
end
end Go.Ab
end
section
namespace Go.Ab
open Classical
def Le(a b:ax):Prop:=a= .fail∨a=b
theorem Le.refl(a:ax):Le a a:=.inr rfl
theorem Le.eq{a b r:ax}(h:Le a b)(ha:a=r)(hr:r≠.fail):b=r:=by
 rcases h with h | h
 ·exact absurd (ha.symm.trans h) hr
 ·exact h ▸ ha
def je(a:Nat→ax)(b:ax):Prop:=(∀n,Le (a n) b)∧(b≠.fail→∃N,∀n,N≤n→a n=b)
theorem je.const(a:ax):je (fun _=>a) a:=⟨fun _=>.refl _,fun _=>⟨0,fun _ _=>rfl⟩⟩
theorem je.of_eq{a:Nat→ax}{b:ax}(h:∀n,a n=b):je a b:=⟨fun n=>.inr (h n),fun _=>⟨0,fun n _=>h n⟩⟩
theorem je.fail:je (fun _=>.fail) .fail:=.const _
theorem je.bind{a:Nat→ax}{b:ax}(h:je a b){k kp:Nat→AV→St→ax}{l lp:AV→St→ax}(hk:∀v s,je (fun n=>k n v s) (l v s))(hp:∀v s,je (fun n=>kp n v s) (lp v s)):je (fun n=>ax.bind (a n) (k n) (kp n)) (ax.bind b l lp):=by
 refine⟨fun n=>?_,fun hb=>?_⟩
 ·rcases h.1 n with e | e
  ·left;simp only[e];rfl
  ·simp only[e]
   cases b with
   | fail=>exact .refl _
   | ok v s=>exact(hk v s).1 n
   | panic v s=>exact(hp v s).1 n
 ·cases hbb:b with
  | fail=>rw[hbb] at hb;exact absurd rfl hb
  | ok v s=>
   rw[hbb] at hb h
   obtain⟨N,hN⟩:=h.2 (by simp)
   obtain⟨M,hM⟩:=(hk v s).2 hb
   exact⟨max N M,fun n hn=>by show ax.bind (a n) _ _=_;rw[hN n (by omega)];exact hM n (by omega)⟩
  | panic v s=>
   rw[hbb] at hb h
   obtain⟨N,hN⟩:=h.2 (by simp)
   obtain⟨M,hM⟩:=(hp v s).2 hb
   exact⟨max N M,fun n hn=>by show ax.bind (a n) _ _=_;rw[hN n (by omega)];exact hM n (by omega)⟩
def YY(k:Nat→KK)(l:KK):Prop:=∀x fr s,je (fun n=>k n x fr s) (l x fr s)
def oL(st:Nat→SS)(su:SS):Prop:=∀fr s k l,YY k l→je (fun n=>st n fr s (k n)) (su fr s l)
def pR(st:SS):Prop:=∀fr s k l,(∀x fr s,Le (k x fr s) (l x fr s))→Le (st fr s k) (st fr s l)
theorem oL.mono{st:SS}(h:oL (fun _=>st) st):pR st:=fun fr s k l hk=>by
 have:=h fr s (fun n=>if n=0 then k else l) l (fun x fr s=>⟨fun n=>by
  simp only
  split
  ·exact hk x fr s
  ·exact .refl _,fun _=>⟨1,fun n hn=>by simp [show n≠0 by omega]⟩⟩)
 simpa using this.1 0
def Tr.mask:Mk→Tr→Tr
 | .e,_=>.e
 | .n ml _ mr, .e=>.n (Tr.mask ml .e) .dead (Tr.mask mr .e)
 | .n ml b mr, .n l v r=>.n (Tr.mask ml l) (bif b then v else .dead) (Tr.mask mr r)
theorem jO:∀(m:Mk) (k:Tr→ax) (fr:Tr),Tr.lZ m k fr=k (Tr.mask m fr)
 | .e,k,fr=>by cases fr <;> rfl
 | .n ml b mr,k, .e=>by simp only[Tr.lZ,Tr.mask,jO ml,jO mr]
 | .n ml b mr,k, .n l v r=>by simp only[Tr.lZ,Tr.mask,jO ml,jO mr]
theorem lg(st:SS)(aK:Mk)(n:Nat)(fr:Tr)(s:St)(k:KK):cY st aK (n+1) fr s k=st fr s (cA aK (cY st aK n) k):=rfl
theorem gZ{st:Nat→SS}{su:SS}(h:oL st su){k:Nat→KK}{l:KK}(hk:YY k l)(aK:Mk):∀(m:Nat) (fr:Tr) (s:St),je (fun n=>cY (st n) aK m fr s (k n)) (cY su aK m fr s l)
 | 0,_,_=>.fail
 | m+1,fr,s=>by
  simp only[lg]
  refine h _ _ _ _ (fun x fr s=>?_)
  cases x with
  | norm=>simp only[cA,jO];exact gZ h hk aK m _ s
  | _=>exact hk _ _ _
theorem yc{st:SS}(h:pR st)(aK:Mk)(k:KK):∀(m:Nat) (fr:Tr) (s:St),Le (cY st aK m fr s k) (cY st aK (m+1) fr s k)
 | 0,_,_=>.inl rfl
 | m+1,fr,s=>by
  rw[lg,lg]
  refine h _ _ _ _ (fun x fr s=>?_)
  cases x with
  | norm=>simp only[cA,jO];exact yc h aK k m _ s
  | _=>exact .refl _
theorem lM{st:SS}(h:pR st){aK:Mk}{k:KK}{m:Nat}{fr:Tr}{s:St}{r:ax}(hr:r≠.fail)(e:cY st aK m fr s k=r):∀m',m≤m'→cY st aK m' fr s k=r:=by
 intro m' hm
 induction hm with
 | refl=>exact e
 | step _ ih=>exact(yc h aK k _ fr s).eq ih hr
noncomputable def bX(st:SS)(aK:Mk)(fr:Tr)(s:St)(k:KK):ax:=if h:∃n,cY st aK n fr s k≠.fail then cY st aK h.choose fr s k else .fail
theorem rY{st:SS}(h:pR st){aK:Mk}{k:KK}{m:Nat}{fr:Tr}{s:St}{r:ax}(hr:r≠.fail)(e:cY st aK m fr s k=r):bX st aK fr s k=r:=by
 have hx:∃n,cY st aK n fr s k≠.fail:=⟨m,by rw[e];exact hr⟩
 unfold bX
 rw[dif_pos hx]
 have h1:=hx.choose_spec
 have h2:=lM h h1 rfl (max hx.choose m) (by omega)
 have h3:=lM h hr e (max hx.choose m) (by omega)
 exact h2.symm.trans h3
theorem qn{st:SS}{aK:Mk}{k:KK}{fr:Tr}{s:St}{r:ax}(hr:r≠.fail)(e:bX st aK fr s k=r):∃m,cY st aK m fr s k=r:=by
 unfold bX at e
 split at e
 ·exact⟨_,e⟩
 ·exact absurd e.symm hr
def jP(a:Nat→SS→Mk→SS)(b:SS→Mk→SS):Prop:=∀(st:Nat→SS) (su:SS) aK fr s k l,(∀n,pR (st n))→pR su→oL st su→YY k l→je (fun n=>a n (st n) aK fr s (k n)) (b su aK fr s l)
theorem sZ:jP (fun _=>bX) bX:=fun st su aK fr s k l h1 h2 h3 h4=>by
 refine⟨fun n=>?_,fun hb=>?_⟩
 ·by_cases hf:bX (st n) aK fr s (k n)= .fail
  ·exact .inl hf
  ·obtain⟨m,e⟩:=qn hf rfl
   exact .inr (rY h2 hf (((gZ h3 h4 aK m fr s).1 n).eq e hf)).symm
 ·obtain⟨m,e⟩:=qn hb rfl
  obtain⟨N,hN⟩:=(gZ h3 h4 aK m fr s).2 (by rw[e];exact hb)
  exact⟨N,fun n hn=>rY (h1 n) hb ((hN n hn).trans e)⟩
theorem EE:jP (fun n st aK fr s k=>cY st aK n fr s k) bX:=fun st su aK fr s k l h1 h2 h3 h4=>by
 refine⟨fun n=>?_,fun hb=>?_⟩
 ·by_cases hf:cY (st n) aK n fr s (k n)= .fail
  ·exact .inl hf
  ·exact .inr (rY h2 hf (((gZ h3 h4 aK n fr s).1 n).eq rfl hf)).symm
 ·obtain⟨m,e⟩:=qn hb rfl
  obtain⟨N,hN⟩:=(gZ h3 h4 aK m fr s).2 (by rw[e];exact hb)
  exact⟨max N m,fun n hn=>lM (h1 n) hb ((hN n (by omega)).trans e) n (by omega)⟩
theorem If(m:Nat):jP (fun i st aK fr s k=>cY st aK (if i=0 then m else m+1) fr s k) (fun st aK fr s k=>cY st aK (m+1) fr s k):=fun st su aK fr s k l h1 h2 h3 h4=>by
 refine⟨fun n=>?_,fun hb=>?_⟩
 ·simp only
  split
  ·by_cases hf:cY (st n) aK m fr s (k n)= .fail
   ·exact .inl hf
   ·exact .inr ((lM h2 hf (((gZ h3 h4 aK m fr s).1 n).eq rfl hf) (m+1) (by omega)).symm)
  ·exact(gZ h3 h4 aK (m+1) fr s).1 n
 ·obtain⟨N,hN⟩:=(gZ h3 h4 aK (m+1) fr s).2 hb
  exact⟨max N 1,fun n hn=>by simp only[show n≠0 by omega,↓reduceIte];exact hN n (by omega)⟩
def EV(G:Nat→AV)(c:Nat→List AV→St→ax)(l:SS→Mk→SS):Env:={F:=.not,aP:=G,call:=c,loop:=l}
section
variable{G:Nat→AV}{c:Nat→Nat→List AV→St→ax}{cu:Nat→List AV→St→ax}{l:Nat→SS→Mk→SS}{lu:SS→Mk→SS}(hc:∀f args s,je (fun n=>c n f args s) (cu f args s))
include hc
theorem EF(s:St)(f:Nat)(args:List AV):je (fun n=>cV (EV G (c n) (l n)) s .ok .panic f args) (cV (EV G cu lu) s .ok .panic f args):=by
 have e:∀E:Env,cV E s .ok .panic f args=ax.bind (E.call f args s) (fun v s'=>bif Nat.beq s'.aa s.aa then .ok v s' else .fail) .panic:=fun E=>by
  unfold cV
  cases E.call f args s <;> rfl
 simp only[e]
 exact(hc f args s).bind (fun _ _=>.const _) (fun _ _=>.const _)
theorem BL(s:St)(f:Nat)(args:List AV):je (fun n=>i9 (EV G (c n) (l n)) s .ok f args) (i9 (EV G cu lu) s .ok f args):=by
 have e:∀E:Env,i9 E s .ok f args=bif AV.ba args then ax.bind (E.call f args {own:=[],up:=[],ro:=[]}) (fun v _=>bif v.bo then .ok v s else .fail) (fun _ _=>.fail) else .fail:=fun E=>by
  unfold i9
  cases AV.ba args <;> try rfl
  cases E.call f args _ <;> rfl
 simp only[e]
 cases AV.ba args
 ·exact .fail
 ·exact(hc f args _).bind (fun _ _=>.const _) (fun _ _=>.const _)
theorem BM(s:St)(xs:List (Option Nat×AV))(f:Nat)(args:List AV):je (fun n=>i6 (EV G (c n) (l n)) s .ok .panic xs f args) (i6 (EV G cu lu) s .ok .panic xs f args):=by
 have e:∀E:Env,i6 E s .ok .panic xs f args=ax.bind (E.call f args s) (fun v s'=>bif Nat.beq s'.aa s.aa then(bif xs.all fun x=>rf (du s x.1 x.2) (du s' x.1 x.2) then .ok v s' else .fail) else .fail) .panic:=fun E=>by
  unfold i6 cV
  cases E.call f args s <;> rfl
 simp only[e]
 exact(hc f args s).bind (fun _ _=>.const _) (fun _ _=>.const _)
theorem MN(fr:Nat→AV)(s:St)(op:ib):je (fun n=>bp (EV G (c n) (l n)) fr s .ok .panic op) (bp (EV G cu lu) fr s .ok .panic op):=by
 cases op with
 | call f args=>
  show je (fun n=>cV (EV G (c n) (l n)) s .ok .panic f (args.map fun x=>(aM G fr x).av s.aa)) (cV (EV G cu lu) s .ok .panic f (args.map fun x=>(aM G fr x).av s.aa))
  exact EF hc s f _
 | kO ks f args=>
  show je (fun n=>i6 (EV G (c n) (l n)) s .ok .panic (ks.map fun x=>(x.1,aM G fr x.2)) f (args.map fun x=>(aM G fr x).av s.aa)) (i6 (EV G cu lu) s .ok .panic (ks.map fun x=>(x.1,aM G fr x.2)) f (args.map fun x=>(aM G fr x).av s.aa))
  exact BM hc s _ f _
 | lF ks f args=>
  show je (fun n=>ni (EV G (c n) (l n)) s .ok .panic (ks.map fun x=>(x.1,aM G fr x.2)) (aM G fr f) (args.map fun x=>(aM G fr x).av s.aa)) (ni (EV G cu lu) s .ok .panic (ks.map fun x=>(x.1,aM G fr x.2)) (aM G fr f) (args.map fun x=>(aM G fr x).av s.aa))
  cases aM G fr f with
  | fn g ez=>exact BM hc s _ g _
  | _=>exact .fail
 | jI f args=>
  show je (fun n=>i9 (EV G (c n) (l n)) s .ok f (args.map fun x=>(aM G fr x).av s.aa)) (i9 (EV G cu lu) s .ok f (args.map fun x=>(aM G fr x).av s.aa))
  exact BL hc s f _
 | cV f args=>
  show je (fun n=>og (EV G (c n) (l n)) s .ok .panic (aM G fr f) (args.map fun x=>(aM G fr x).av s.aa)) (og (EV G cu lu) s .ok .panic (aM G fr f) (args.map fun x=>(aM G fr x).av s.aa))
  cases aM G fr f with
  | fn g ez=>exact EF hc s g _
  | _=>exact .fail
 | pc f args=>
  show je (fun n=>mg (EV G (c n) (l n)) s .ok (aM G fr f) (args.map fun x=>(aM G fr x).av s.aa)) (mg (EV G cu lu) s .ok (aM G fr f) (args.map fun x=>(aM G fr x).av s.aa))
  cases aM G fr f with
  | fn g ez=>exact BL hc s g _
  | _=>exact .fail
 | _=>exact .of_eq (fun n=>rfl)
theorem J0(fr:Nat→AV)(s:St)(op:ib){k kp:Nat→AV→St→ax}{m mp:AV→St→ax}(hk:∀v s,je (fun n=>k n v s) (m v s))(hp:∀v s,je (fun n=>kp n v s) (mp v s)):
  je (fun n=>bp (EV G (c n) (l n)) fr s (k n) (kp n) op) (bp (EV G cu lu) fr s m mp op):=by
 have e:∀n,bp (EV G (c n) (l n)) fr s (k n) (kp n) op=ax.bind (bp (EV G (c n) (l n)) fr s .ok .panic op) (k n) (kp n):=fun n=>lL rfl _ _ _ _ _
 rw[lL (E:=EV G cu lu) rfl]
 simp only[e]
 exact(MN hc fr s op).bind hk hp
theorem pU:∀(d i:Nat) (v:AV) {k:Nat→Tr→ax} {m:Tr→ax} (_:∀fr,je (fun n=>k n fr) (m fr)) (fr:Tr),je (fun n=>fr.kN d i v (k n)) (fr.kN d i v m)
 | 0,_,_,_,_,_,_=>.fail
 | d+1,i,v,k,m,h, .e=>by
  simp only[Tr.kN]
  cases Nat.beq i 0 with
  | true=>exact h _
  | false=>
   cases Nat.beq (i % 2) 1 with
   | true=>exact pU d _ v (fun l=>h _) _
   | false=>exact pU d _ v (fun l=>h _) _
 | d+1,i,v,k,m,h, .n a x b=>by
  simp only[Tr.kN]
  cases Nat.beq i 0 with
  | true=>exact h _
  | false=>
   cases Nat.beq (i % 2) 1 with
   | true=>exact pU d _ v (fun l=>h _) _
   | false=>exact pU d _ v (fun l=>h _) _
theorem II(dst:Option Nat)(v:AV){k:Nat→Tr→ax}{m:Tr→ax}(h:∀fr,je (fun n=>k n fr) (m fr))(fr:Tr):je (fun n=>ng fr dst v (k n)) (ng fr dst v m):=by
 cases dst with
 | none=>exact h fr
 | some i=>exact pU hc 12 i v h fr
theorem qW:∀(os:List cJ) (fr:Tr) (s:St) {k:Nat→Tr→St→ax} {m:Tr→St→ax} {kp:Nat→AV→Tr→St→ax} {mp:AV→Tr→St→ax} (_:∀fr s,je (fun n=>k n fr s) (m fr s)) (_:∀v fr s,je (fun n=>kp n v fr s) (mp v fr s)),
  je (fun n=>fp (EV G (c n) (l n)) os fr s (k n) (kp n)) (fp (EV G cu lu) os fr s m mp)
 | [],fr,s,k,m,kp,mp,h,hp=>h fr s
 | o :: os,fr,s,k,m,kp,mp,h,hp=>by
  simp only[fp]
  have key:∀w:Bool,je (fun n=>bif w then bp (EV G (c n) (l n)) fr.get s (fun v s=>ng fr o.dst v fun fr=>fp (EV G (c n) (l n)) os fr s (k n) (kp n)) (fun v s=>kp n v fr s) o.op else ng fr o.dst (.cS []) fun fr=>fp (EV G (c n) (l n)) os fr s (k n) (kp n))
    (bif w then bp (EV G cu lu) fr.get s (fun v s=>ng fr o.dst v fun fr=>fp (EV G cu lu) os fr s m mp) (fun v s=>mp v fr s) o.op else ng fr o.dst (.cS []) fun fr=>fp (EV G cu lu) os fr s m mp):=fun w=>by
   cases w with
   | true=>exact J0 hc fr.get s o.op (fun v s=>II hc o.dst v (fun fr=>qW os fr s h hp) fr) (fun v s=>hp v fr s)
   | false=>exact II hc o.dst _ (fun fr=>qW os fr s h hp) fr
  unfold p8
  split
  ·exact key _
  ·split
   ·exact key _
   ·exact key _
   ·exact .fail
variable(hl:jP l lu)(hm:∀n,jP (fun _=>l n) (l n))(mJ:jP (fun _=>lu) lu)
include hl hm mJ
theorem EG:∀(code:ae),oL (fun n=>exec (EV G (c n) (l n)) code) (exec (EV G cu lu) code)∧(∀n,oL (fun _=>exec (EV G (c n) (l n)) code) (exec (EV G (c n) (l n)) code))∧oL (fun _=>exec (EV G cu lu) code) (exec (EV G cu lu) code):=by
 have gen:∀(code:ae) (c:Nat→Nat→List AV→St→ax) (cu:Nat→List AV→St→ax) (l:Nat→SS→Mk→SS) (lu:SS→Mk→SS),(∀f args s,je (fun n=>c n f args s) (cu f args s))→jP l lu→(∀n,jP (fun _=>l n) (l n))→jP (fun _=>lu) lu→oL (fun n=>exec (EV G (c n) (l n)) code) (exec (EV G cu lu) code):=by
  intro code
  induction code with
  | skip=>intro c cu l lu hc hl hm mJ fr s k m hk;exact hk _ _ _
  | region re ops=>
   intro c cu l lu hc hl hm mJ fr s k m hk
   cases re with
   | none=>exact qW hc ops fr s (fun fr s=>hk _ _ _) (fun v fr s=>.fail)
   | some re=>
    simp only[exec]
    show je (fun n=>bif re.all (xb G fr.get) then _ else _) (bif re.all (xb G fr.get) then _ else _)
    cases re.all (xb G fr.get)
    ·exact .fail
    ·exact qW hc ops fr s (fun fr s=>hk _ _ _) (fun v fr s=>.fail)
  | seq a b Ey Ez=>
   intro c cu l lu hc hl hm mJ fr s k m hk
   simp only[exec]
   refine Ey c cu l lu hc hl hm mJ fr s _ _ (fun x fr s=>?_)
   cases x with
   | norm=>exact Ez c cu l lu hc hl hm mJ fr s k m hk
   | _=>exact hk _ _ _
  | cond x a b Ey Ez=>
   intro c cu l lu hc hl hm mJ fr s k m hk
   simp only[exec]
   show je (fun n=>match aM G fr.get x with | .bool t=>bif t then exec (EV G (c n) (l n)) a fr s (k n) else exec (EV G (c n) (l n)) b fr s (k n) | _=>.fail) (match aM G fr.get x with | .bool t=>bif t then exec (EV G cu lu) a fr s m else exec (EV G cu lu) b fr s m | _=>.fail)
   cases aM G fr.get x with
   | bool t=>cases t with
    | true=>exact Ey c cu l lu hc hl hm mJ fr s k m hk
    | false=>exact Ez c cu l lu hc hl hm mJ fr s k m hk
   | _=>exact .fail
  | mask m' a ih=>
   intro c cu l lu hc hl hm mJ fr s k m hk
   simp only[exec,jO]
   exact ih c cu l lu hc hl hm mJ _ s k m hk
  | block id a ih=>
   intro c cu l lu hc hl hm mJ fr s k m hk
   simp only[exec]
   refine ih c cu l lu hc hl hm mJ fr s _ _ (fun x fr s=>?_)
   cases x with
   | exit j=>
    simp only[bu]
    cases Nat.beq j id
    ·exact hk _ _ _
    ·exact hk _ _ _
   | _=>exact hk _ _ _
  | loop aK a ih=>
   intro c cu l lu hc hl hm mJ fr s k m hk
   simp only[exec,jO]
   refine hl _ _ aK _ s k m (fun n=>?_) ?_ (ih c cu l lu hc hl hm mJ) hk
   ·exact(ih (fun _=>c n) (c n) (fun _=>l n) (l n) (fun _ _ _=>.const _) (hm n) (fun _=>hm n) (hm n)).mono
   ·exact(ih (fun _=>cu) cu (fun _=>lu) lu (fun _ _ _=>.const _) mJ (fun _=>mJ) mJ).mono
  | exit id=>intro c cu l lu hc hl hm mJ fr s k m hk;exact hk _ _ _
  | scope a ih=>intro c cu l lu hc hl hm mJ fr s k m hk;simp only[exec];exact ih c cu l lu hc hl hm mJ fr s k m hk
  | ret=>intro c cu l lu hc hl hm mJ fr s k m hk;exact hk _ _ _
 intro code
 exact⟨gen code c cu l lu hc hl hm mJ,fun n=>gen code (fun _=>c n) (c n) (fun _=>l n) (l n) (fun _ _ _=>.const _) (hm n) (fun _=>hm n) (hm n),gen code (fun _=>cu) cu (fun _=>lu) lu (fun _ _ _=>.const _) mJ (fun _=>mJ) mJ⟩
end
theorem oW(m:Nat):jP (fun _ st aK fr s k=>cY st aK m fr s k) (fun st aK fr s k=>cY st aK m fr s k):=fun _ _ aK fr s _ _ _ _ h3 h4=>gZ h3 h4 aK m fr s
theorem yd:∀(vs:List AV) (i:Nat) (fr:Tr) {k:Nat→Tr→ax} {m:Tr→ax} (_:∀fr,je (fun n=>k n fr) (m fr)),je (fun n=>aR vs i fr (k n)) (aR vs i fr m)
 | [],_,fr,_,_,h=>h fr
 | v :: vs,i,fr,k,m,h=>pU (c:=fun _ _ _ _=>.fail) (cu:=fun _ _ _=>.fail) (fun _ _ _=>.fail) 12 i v (fun fr=>yd vs (i+1) fr h) fr
def body(T:Nat→Option bT)(G:Nat→AV)(X:Nat→List AV→St→ax)(c:Nat→List AV→St→ax)(l:SS→Mk→SS)(f:Nat)(args:List AV)(s:St):ax:=
 match T f with
 | none=>X f args s
 | some fn=>
  bif Nat.beq args.length fn.np then
   aR args 0 .e fun fr=>exec (EV G c l) fn.body fr (if fn.aK then s else {own:=[],up:=s.own :: s.up,ro:=s.ro}) (ah7 .not fn)
  else .fail
theorem IJ{T:Nat→Option bT}{G:Nat→AV}{X:Nat→List AV→St→ax}{c:Nat→Nat→List AV→St→ax}{cu:Nat→List AV→St→ax}{l:Nat→SS→Mk→SS}{lu:SS→Mk→SS}(hc:∀f args s,je (fun n=>c n f args s) (cu f args s))(hl:jP l lu)(hm:∀n,jP (fun _=>l n) (l n))(mJ:jP (fun _=>lu) lu)(f:Nat)(args:List AV)(s:St):
  je (fun n=>body T G X (c n) (l n) f args s) (body T G X cu lu f args s):=by
 unfold body
 cases T f with
 | none=>exact .const _
 | some fn=>
  simp only
  cases Nat.beq args.length fn.np with
  | false=>exact .fail
  | true=>
   simp only[cond_true]
   refine yd args 0 .e (fun fr=>(EG hc hl hm mJ fn.body).1 fr _ _ _ (fun x fr s=>?_))
   cases x <;> exact .const _
theorem s0(T:Nat→Option bT)(G:Nat→AV)(X:Nat→List AV→St→ax)(n f:Nat)(args:List AV)(s:St):call .not T G X (n+1) f args s=body T G X (call .not T G X n) (fun st aK fr s k=>cY st aK n fr s k) f args s:=rfl
section
variable(T:Nat→Option bT)(G:Nat→AV)(X:Nat→List AV→St→ax)
theorem MO:∀(n f:Nat) (args:List AV) (s:St),Le (call .not T G X n f args s) (call .not T G X (n+1) f args s)
 | 0,f,args,s=>.inl rfl
 | n+1,f,args,s=>by
  have h:=IJ (T:=T) (G:=G) (X:=X) (c:=fun i=>call .not T G X (if i=0 then n else n+1)) (cu:=call .not T G X (n+1)) (fun f args s=>⟨fun i=>by
    simp only
    split
    ·exact MO n f args s
    ·exact .refl _,fun _=>⟨1,fun i hi=>by simp [show i≠0 by omega]⟩⟩) (If n) (fun i=>by by_cases hi:i=0 <;> simp only[hi,↓reduceIte] <;> exact oW _) (oW (n+1)) f args s
  have:=h.1 0
  simp only[↓reduceIte] at this
  rw[s0,s0]
  exact this
theorem ye{n f:Nat}{args:List AV}{s:St}{r:ax}(hr:r≠.fail)(e:call .not T G X n f args s=r):∀m,n≤m→call .not T G X m f args s=r:=by
 intro m hm
 induction hm with
 | refl=>exact e
 | step _ ih=>exact(MO T G X _ f args s).eq ih hr
noncomputable def aJ(f:Nat)(args:List AV)(s:St):ax:=if h:∃n,call .not T G X n f args s≠.fail then call .not T G X h.choose f args s else .fail
theorem u7{n f:Nat}{args:List AV}{s:St}{r:ax}(hr:r≠.fail)(e:call .not T G X n f args s=r):aJ T G X f args s=r:=by
 have hx:∃n,call .not T G X n f args s≠.fail:=⟨n,by rw[e];exact hr⟩
 unfold aJ
 rw[dif_pos hx]
 have h1:=hx.choose_spec
 exact(ye T G X h1 rfl (max hx.choose n) (by omega)).symm.trans (ye T G X hr e (max hx.choose n) (by omega))
theorem wJ{f:Nat}{args:List AV}{s:St}{r:ax}(hr:r≠.fail)(e:aJ T G X f args s=r):∃n,call .not T G X n f args s=r:=by
 unfold aJ at e
 split at e
 ·exact⟨_,e⟩
 ·exact absurd e.symm hr
theorem Us(f:Nat)(args:List AV)(s:St):je (fun n=>call .not T G X n f args s) (aJ T G X f args s):=by
 refine⟨fun n=>?_,fun hb=>?_⟩
 ·by_cases hf:call .not T G X n f args s= .fail
  ·exact .inl hf
  ·exact .inr (u7 T G X hf rfl).symm
 ·obtain⟨n,e⟩:=wJ T G X hb rfl
  exact⟨n,fun m hm=>ye T G X hb e m hm⟩
theorem MP(f:Nat)(args:List AV)(s:St):aJ T G X f args s=body T G X (aJ T G X) bX f args s:=by
 have h:=IJ (T:=T) (G:=G) (X:=X) (Us T G X) EE (fun n=>oW n) sZ f args s
 by_cases hf:body T G X (aJ T G X) bX f args s= .fail
 ·rw[hf]
  by_cases hc:aJ T G X f args s= .fail
  ·exact hc
  ·obtain⟨n,e⟩:=wJ T G X hc rfl
   have:=ye T G X hc e (n+1) (by omega)
   rw[s0] at this
   exact absurd ((h.1 n).eq this hc) (by rw[hf];exact fun q=>hc q.symm)
 ·obtain⟨N,hN⟩:=h.2 hf
  have e:=(s0 T G X N f args s).trans (hN N (Nat.le_refl _))
  exact u7 T G X hf e
end
theorem MQ{G:Nat→AV}{cu:Nat→List AV→St→ax}(code:ae)(aK:Mk)(fr:Tr)(s:St)(k:KK):bX (exec (EV G cu bX) code) aK fr s k=exec (EV G cu bX) code fr s (cA aK (bX (exec (EV G cu bX) code) aK) k):=by
 have hL:=(EG (G:=G) (c:=fun _=>cu) (cu:=cu) (l:=fun _=>bX) (lu:=bX) (fun _ _ _=>.const _) sZ (fun _=>sZ) sZ code).1
 have hM:=hL.mono
 have hk:YY (fun n=>cA aK (cY (exec (EV G cu bX) code) aK n) k) (cA aK (bX (exec (EV G cu bX) code) aK) k):=fun x fr s=>by
  cases x with
  | norm=>
   simp only[cA,jO]
   generalize Tr.mask aK fr=fr
   refine⟨fun n=>?_,fun hb=>?_⟩
   ·by_cases hf:cY (exec (EV G cu bX) code) aK n fr s k= .fail
    ·exact .inl hf
    ·exact .inr (rY hM hf rfl).symm
   ·obtain⟨n,e⟩:=qn hb rfl
    exact⟨n,fun m hm=>lM hM hb e m hm⟩
  | _=>exact .const _
 have h:=hL fr s _ _ hk
 generalize hR:exec (EV G cu bX) code fr s (cA aK (bX (exec (EV G cu bX) code) aK) k)=R at h ⊢
 by_cases hf:R= .fail
 ·rw[hf]
  by_cases hc:bX (exec (EV G cu bX) code) aK fr s k= .fail
  ·exact hc
  ·obtain⟨n,e⟩:=qn hc rfl
   have:=(lg _ _ _ _ _ _).symm.trans (lM hM hc e (n+1) (by omega))
   exact absurd ((h.1 n).eq this hc) (by rw[hf];exact fun q=>hc q.symm)
 ·obtain⟨N,hN⟩:=h.2 hf
  exact rY hM hf ((lg _ _ _ _ _ _).trans (hN N (Nat.le_refl _)))
end Go.Ab
end
section
namespace Go.Ab
def aqp(x:AV)(s:St)(k:AV→St→ax):ax:=bif x.fF then k (.bO (x.av s.aa).cells) s else .fail
def EH(x:AV)(s:St)(k:AV→St→ax):ax:=bif x.fF then k (.ref (.l s.own.length) 0) (s.new (.cells (x.av s.aa).cells)) else .fail
def J1(d:Nat):List AV→List (Nat×Nat×AV)→Option (List AV)
 | cs,[]=>some cs
 | cs,(off,sz,x) :: ps=>
  let v:=x.av d
  bif v.fF && Nat.beq v.cells.length sz && Nat.ble (off+sz) cs.length then J1 d (di cs off v.cells) ps else none
def YZ(zero:List AV)(ps:List (Nat×Nat×AV))(s:St)(k:AV→St→ax):ax:=
 match (J1 s.aa zero ps).map .agg with
 | some v=>k v s
 | none=>.fail
def tI(o:Option AV)(d:Nat):Option Nat:=
 match o with
 | none=>some d
 | some x=>eE x
def hSub(x:AV)(lo hi:Option AV)(s:St)(k:AV→St→ax):ax:=
 match x with
 | .str bs=>
  match tI lo 0,tI hi bs.length with
  | some l,some h=>bif Nat.ble l h && Nat.ble h bs.length then k (.str ((bs.drop l).take (h - l))) s else .fail
  | _,_=>.fail
 | _=>.fail
def oi(z:Nat)(x:AV)(lo hi mx:Option AV)(s:St)(k:AV→St→ax):ax:=
 match x with
 | .sl sz es g=>
  match tI lo 0,tI hi es.length with
  | some l,some h=>
   match mx with
   | none=>
    bif Nat.beq z sz && Nat.ble l h && Nat.ble h es.length && uV g l h es then
     k (.sl sz ((es.drop l).take (h - l)) (match g with
      | .nil=>.nil
      | .exact=>if h=es.length then .exact else .any
      | .bJ a=>if l=0∧h=es.length then .bJ a else .any
      | .any=>.any)) s
    else .fail
   | some x=>
    match eE x,g with
    | _, .nil=>.fail
    | some m,_=>bif Nat.beq z sz && Nat.ble l h && Nat.ble h m && Nat.ble m es.length && tO g es then k (.sl sz ((es.drop l).take (h - l)) (if h=m then .exact else .any)) s else .fail
    | _,_=>.fail
  | _,_=>.fail
 | .ck a off len cap sz=>
  match tI lo 0,tI hi len,tI mx cap with
  | some l,some h,some m=>
   bif Nat.beq z sz && Nat.ble l h && Nat.ble h m && Nat.ble m cap && Nat.ble len cap then k (.ck a (if m=l then off else off+l * sz) (h - l) (m - l) sz) s else .fail
  | _,_,_=>.fail
 | _=>.fail
def MR(z n:Nat)(x:AV)(lo hi mx:Option AV)(s:St)(k:AV→St→ax):ax:=
 match x with
 | .ref a off=>
  match tI lo 0,tI hi n,tI mx n with
  | some l,some h,some m=>bif Nat.ble l h && Nat.ble h m && Nat.ble m n then k (.ck a (if m=l then off else off+l * z) (h - l) (m - l) z) s else .fail
  | _,_,_=>.fail
 | _=>.fail
def Ig(v:AV):Option Loc:=
 match v with
 | .ref a _=>some a
 | .map a=>some a
 | _=>none
def J2(v:AV)(want:Bool)(op:(AV→St→ax)→ax)(s:St)(k:AV→St→ax):ax:=
 match v with
 | .bool b=>bif b == want then op k else k (.cS []) s
 | .cS _=>k (.cS []) s
 | _=>.fail
def ayx(v:AV)(a b:ax):ax:=
 match v with
 | .bool t=>bif t then a else b
 | _=>.fail
def gB(s:St)(v:AV)(n:Option Nat):Option AV:=
 match v with
 | .ref a off=>
  match s.get a,n with
  | some (.cells cs),none=>cs[off]?
  | some (.cells cs),some n=>if Nat.ble (off+n) cs.length then some (.agg ((cs.drop off).take n)) else none
  | _,_=>none
 | _=>none
def t9(aK:Bool)(rs:List (Option AV))(s:St):ax:=
 match iT (fun x=>x) rs with
 | some vs=>
  bif aK then .ok (xe (vs.map (AV.av s.aa))) s
  else
   match iT (freeze s) vs with
   | some vs=>
    match s.up with
    | own :: up=>.ok (xe vs) {own,up,ro:=s.ro}
    | []=>.fail
   | none=>.fail
 | none=>.fail
def St.ai(s:St):St:={own:=[],up:=s.own :: s.up,ro:=s.ro}
abbrev K1:=AV→St→ax
structure rZ where
 bB:Nat→AV
 aW:SS→Mk→SS
 aE:Mk→ae→SS
 aI:Bool→List (Option AV)→St→ax
 fG:AV→St→K1→ax
 aZ:St→K1→AV→AV→AV→ax
 dN:AV→St→K1→ax
 mZ:AV→St→K1→ax
 dh:List AV→List (Nat×Nat×AV)→St→K1→ax
 aF:St→K1→Nat→List AV→ax
 MS:St→K1→AV→ax
 aq:St→K1→Option Nat→AV→ax
 a7:St→K1→Nat→AV→AV→ax
 aG:St→K1→AV→ax
 ak:St→K1→Option AV→ax
 bc:St→K1→IntKind→AV→ax
 IK:St→K1→AV→ax
 mq:St→K1→AV→ax
 oj:St→K1→AV→ax
 kK:St→K1→List AV→Nat→AV→AV→ax
 qo:AV→Option AV→Option AV→St→K1→ax
 lh:Nat→AV→Option AV→Option AV→Option AV→St→K1→ax
 aj:St→K1→Nat→AV→ax
 MT:St→K1→Nat→Option Nat→AV→ax
 aX:St→K1→Nat→AV→AV→ax
 jQ:St→K1→Nat→Nat→AV→AV→ax
 cZ:St→K1→AV→AV→ax
 IL:St→K1→Nat→Nat→Option Nat→AV→AV→ax
 bk:St→K1→Nat→AV→ax
 aB:St→K1→Nat→List AV→ax
 kr:St→K1→AV→List AV→ax
 qp:St→K1→Nat→List AV→ax
 IM:St→K1→AV→List AV→ax
 mu:St→K1→List (Option Nat×AV)→Nat→List AV→ax
 r9:St→K1→List (Option Nat×AV)→AV→List AV→ax
 aV:St→K1→Bool→AV→ax
 cz:St→K1→Nat→Nat→Option Loc→AV→AV→ax
 EI:St→K1→Nat→Nat→Option Loc→AV→AV→ax
 EJ:St→K1→Nat→Nat→Option Loc→AV→AV→ax
 ua:St→K1→Nat→List AV→ax
 mL:St→K1→Nat→Nat→AV→AV→ax
 IP:Nat→Nat→AV→Option AV→Option AV→Option AV→St→K1→ax
 yf:St→K1→Nat→AV→AV→ax
 yg:St→K1→(AV→AV→Option AV)→List AV→ax
 ta:St→K1→Option Loc→ax
 m0:St→K1→KD→AV→AV→AV→ax
 n5:St→K1→KD→AV→Bool→AV→AV→ax
 ah:AV→Bool→(K1→ax)→St→K1→ax
 aH:AV→ax→ax→ax
def pC(G:Nat→AV)(fr:Nat→AV):Option bG→Option AV
 | none=>none
 | some x=>some (aM G fr x)
def J3(G:Nat→AV)(fr:Nat→AV):Option bG→Option Loc
 | none=>some (.l 0)
 | some x=>Ig (aM G fr x)
def partsOf(G:Nat→AV)(fr:Nat→AV):List (Nat×Nat×bG)→List (Nat×Nat×AV)
 | []=>[]
 | (off,sz,x) :: ps=>(off,sz,aM G fr x) :: partsOf G fr ps
def wK(P:rZ)(fr:Nat→AV)(s:St)(k:K1)(op:ib):ax:=
 match op with
 | .move x=>k (aM P.bB fr x) s
 | .pick c a b=>P.aZ s k (aM P.bB fr c) (aM P.bB fr a) (aM P.bB fr b)
 | .alloc zero=>P.fG (.ref (.l s.own.length) 0) (s.new (.cells zero)) k
 | .dO x=>P.dN (aM P.bB fr x) s k
 | .jE x=>P.mZ (aM P.bB fr x) s k
 | .build zero parts=>P.dh zero (partsOf P.bB fr parts) s k
 | .buildSlice sz parts=>P.aF s k sz (parts.map (aM P.bB fr))
 | .tM x=>P.MS s k (aM P.bB fr x)
 | .load n a=>P.aq s k n (aM P.bB fr a)
 | .store n a v=>P.a7 s k n (aM P.bB fr a) ((aM P.bB fr v).av s.aa)
 | .nilCheck x=>P.aG s k (aM P.bB fr x)
 | .bin op x y=>P.ak s k (au op (aM P.bB fr x) (aM P.bB fr y))
 | .eq neg e x y=>P.ak s k ((tE e (aM P.bB fr x) (aM P.bB fr y)).map fun b=>.bool (bif neg then !b else b))
 | .un op x=>P.ak s k (kL op (aM P.bB fr x))
 | .oE d x=>P.bc s k d (aM P.bB fr x)
 | .sG x=>P.IK s k (aM P.bB fr x)
 | .f6 x=>P.mq s k (aM P.bB fr x)
 | .ji x=>P.oj s k (aM P.bB fr x)
 | .dD t x=>P.fG (.iface t ((aM P.bB fr x).av s.aa)) s k
 | .i5 f ez=>P.fG (.fn f (ez.map fun x=>(aM P.bB fr x).av s.aa)) s k
 | .makeSlice zero bytes l c=>P.kK s k zero bytes (aM P.bB fr l) (aM P.bB fr c)
 | .gu x lo hi=>P.qo (aM P.bB fr x) (pC P.bB fr lo) (pC P.bB fr hi) s k
 | .slice z x lo hi mx=>P.lh z (aM P.bB fr x) (pC P.bB fr lo) (pC P.bB fr hi) (pC P.bB fr mx) s k
 | .fieldAddr off a=>P.aj s k off (aM P.bB fr a)
 | .field off n x=>P.MT s k off n (aM P.bB fr x)
 | .gh sz x i=>P.aX s k sz (aM P.bB fr x) (aM P.bB fr i)
 | .gz sz len x i=>P.jQ s k sz len (aM P.bB fr x) (aM P.bB fr i)
 | .cO x i=>P.cZ s k (aM P.bB fr x) (aM P.bB fr i)
 | .sH sz len n x i=>P.IL s k sz len n (aM P.bB fr x) (aM P.bB fr i)
 | .extract x i=>P.bk s k i (aM P.bB fr x)
 | .call f args=>P.aB s k f (args.map fun x=>(aM P.bB fr x).av s.aa)
 | .cV f args=>P.kr s k (aM P.bB fr f) (args.map fun x=>(aM P.bB fr x).av s.aa)
 | .jI f args=>P.qp s k f (args.map fun x=>(aM P.bB fr x).av s.aa)
 | .pc f args=>P.IM s k (aM P.bB fr f) (args.map fun x=>(aM P.bB fr x).av s.aa)
 | .kO ks f args=>P.mu s k (ks.map fun x=>(x.1,aM P.bB fr x.2)) f (args.map fun x=>(aM P.bB fr x).av s.aa)
 | .lF ks f args=>P.r9 s k (ks.map fun x=>(x.1,aM P.bB fr x.2)) (aM P.bB fr f) (args.map fun x=>(aM P.bB fr x).av s.aa)
 | .len b x=>P.aV s k b (aM P.bB fr x)
 | .append q bytes b x y=>P.cz s k q bytes (J3 P.bB fr b) (aM P.bB fr x) (aM P.bB fr y)
 | .nf q bytes b x y=>P.EJ s k q bytes (J3 P.bB fr b) (aM P.bB fr x) (aM P.bB fr y)
 | .iD sz parts=>P.ua s k sz (parts.map fun x=>(aM P.bB fr x).av s.aa)
 | .kP q bytes x y=>P.mL s k q bytes (aM P.bB fr x) (aM P.bB fr y)
 | .mc q bytes b x y=>P.EI s k q bytes (J3 P.bB fr b) (aM P.bB fr x) (aM P.bB fr y)
 | .kG z n x lo hi mx=>P.IP z n (aM P.bB fr x) (pC P.bB fr lo) (pC P.bB fr hi) (pC P.bB fr mx) s k
 | .copy q d x=>P.yf s k q (aM P.bB fr d) (aM P.bB fr x)
 | .min xs=>P.yg s k min2 (xs.map fun x=>(aM P.bB fr x).av s.aa)
 | .max xs=>P.yg s k max2 (xs.map fun x=>(aM P.bB fr x).av s.aa)
 | .makeMap b=>P.ta s k (J3 P.bB fr b)
 | .mB kd m x v=>P.m0 s k kd (aM P.bB fr m) ((aM P.bB fr x).av s.aa) ((aM P.bB fr v).av s.aa)
 | .lookup kd zero ok m x=>P.n5 s k kd zero ok (aM P.bB fr m) ((aM P.bB fr x).av s.aa)
 | .w7 neg x=>P.ak s k (Au neg (aM P.bB fr x))
 | .no=>.fail
def qq(P:rZ):List cJ→Tr→St→(Tr→St→ax)→ax
 | [],fr,s,fin=>fin fr s
 | o :: os,fr,s,fin=>
  match o.guard with
  | none=>wK P fr.get s (fun v s=>ng fr o.dst v fun fr=>qq P os fr s fin) o.op
  | some (t,want)=>P.ah (fr.get t) want (fun k=>wK P fr.get s k o.op) s (fun v s=>ng fr o.dst v fun fr=>qq P os fr s fin)
def aD(P:rZ):ae→SS
 | .skip,fr,s,k=>k .norm fr s
 | .region none ops,fr,s,k=>qq P ops fr s (fun fr s=>k .norm fr s)
 | .region (some []) ops,fr,s,k=>qq P ops fr s (fun fr s=>k .norm fr s)
 | .region (some (_ :: _)) _,_,_,_=>.fail
 | .seq a b,fr,s,k=>aD P a fr s (c9 (aD P b) k)
 | .mask m a,fr,s,k=>P.aE m a (Tr.mask m fr) s k
 | .cond c a b,fr,s,k=>P.aH (aM P.bB fr.get c) (aD P a fr s k) (aD P b fr s k)
 | .block id c,fr,s,k=>aD P c fr s (bu id k)
 | .loop aK c,fr,s,k=>P.aW (aD P c) aK (Tr.mask aK fr) s k
 | .exit id,fr,s,k=>k (.exit id) fr s
 | .scope c,fr,s,k=>aD P c fr s k
 | .ret,fr,s,k=>k .ret fr s
def Y0(fr:Tr)(s:St):Bo→Option AV
 | .t n=>some (fr.get n)
 | .cell a n=>gB s (fr.get a) n
def aO(P:rZ)(fn:bT):KK:=fun x fr s=>
 match x with
 | .norm=>P.aI fn.aK (fn.results.map (Y0 fr s)) s
 | .ret=>P.aI fn.aK (fn.results.map (Y0 fr s)) s
 | _=>.fail
def n6:ae→Bool
 | .region (some (_ :: _)) _=>false
 | .seq a b | .cond _ a b=>n6 a && n6 b
 | .mask _ a | .block _ a | .loop _ a | .scope a=>n6 a
 | _=>true
noncomputable def qt(G:Nat→AV)(c:Nat→List AV→St→ax):rZ where
 bB:=G
 aW:=bX
 aE:=fun _ a fr s k=>exec (EV G c bX) a fr s k
 aI:=t9
 fG:=fun v s k=>k v s
 aZ:=fun s k c' a b=>tP (EV G c bX) s k c' a b
 dN:=aqp
 mZ:=EH
 dh:=YZ
 aF:=fun s k sz es=>jl (EV G c bX) s k sz es
 MS:=fun s k v=>qQ (EV G c bX) s k v
 aq:=fun s k n v=>fK (EV G c bX) s k n v
 a7:=fun s k n a v=>iS (EV G c bX) s k n a v
 aG:=fun s k v=>kS (EV G c bX) s k v
 ak:=fun s k v=>oV (EV G c bX) s k v
 bc:=fun s k d v=>mU (EV G c bX) s k d v
 IK:=fun s k v=>p5 s k v
 mq:=fun s k v=>jk (EV G c bX) s k v
 oj:=fun s k v=>iE (EV G c bX) s k v
 kK:=fun s k z b l c'=>ri (EV G c bX) s k z b l c'
 qo:=hSub
 lh:=oi
 aj:=fun s k off v=>jj (EV G c bX) s k off v
 MT:=fun s k off n v=>pd (EV G c bX) s k off n v
 aX:=fun s k sz x i=>p0 (EV G c bX) s k sz x i
 jQ:=fun s k sz len x i=>kQ (EV G c bX) s k sz len x i
 cZ:=fun s k x i=>kR (EV G c bX) s k x i
 IL:=fun s k sz len n x i=>nh (EV G c bX) s k sz len n x i
 bk:=fun s k i v=>mT (EV G c bX) s k i v
 aB:=fun s k f args=>cV (EV G c bX) s k (fun _ _=>.fail) f args
 kr:=fun s k f args=>og (EV G c bX) s k (fun _ _=>.fail) f args
 qp:=fun s k f args=>i9 (EV G c bX) s k f args
 IM:=fun s k f args=>mg (EV G c bX) s k f args
 mu:=fun s k ks f args=>i6 (EV G c bX) s k (fun _ _=>.fail) ks f args
 r9:=fun s k ks f args=>ni (EV G c bX) s k (fun _ _=>.fail) ks f args
 aV:=fun s k b v=>xc (EV G c bX) s k b v
 cz:=fun s k q bytes b x y=>eA (EV G c bX) s k q bytes b x y
 EJ:=fun s k q bytes b x y=>p7 (EV G c bX) s k q bytes b x y
 ua:=fun s k sz es=>mf (EV G c bX) s k sz es
 mL:=fun s k q bytes x y=>mS (EV G c bX) s k q bytes x y
 EI:=fun s k q bytes b x y=>nQ (EV G c bX) s k q bytes b x y
 IP:=fun z n x lo hi mx s k=>MR z n x lo hi mx s k
 yf:=fun s k q d x=>pf (EV G c bX) s k q d x
 yg:=fun s k f xs=>oh (EV G c bX) s k f xs
 ta:=fun s k b=>mV (EV G c bX) s k b
 m0:=fun s k kd m x v=>mh (EV G c bX) s k kd m x v
 n5:=fun s k kd z ok m x=>mi (EV G c bX) s k kd z ok m x
 ah:=J2
 aH:=ayx
section
variable(G:Nat→AV)(c:Nat→List AV→St→ax)
theorem IQ(d:Nat)(fr:Nat→AV):∀(ps:List (Nat×Nat×bG)) (cs:List AV),J1 d cs (partsOf G fr ps)=fc G d fr cs ps
 | [],cs=>rfl
 | (off,sz,x) :: ps,cs=>by
  simp only[partsOf,J1,fc]
  rw[IQ d fr ps]
theorem J4(fr:Nat→AV)(o:Option bG)(d:Nat):tI (pC G fr o) d=cL G fr o d:=by
 cases o <;> rfl
theorem BN(fr:Nat→AV)(s:St)(k:K1)(op:ib):wK (qt G c) fr s k op=bp (EV G c bX) fr s k (fun _ _=>.fail) op:=by
 cases op <;> try rfl
 case build zero parts=>
  simp only[wK,bp,qt,YZ,IQ,oV]
  show _=match (fc G s.aa fr zero parts).map .agg with | some v=>k v s | none=>.fail
  cases fc G s.aa fr zero parts <;> rfl
 case gu x lo hi=>
  simp only[wK,bp,qt,hSub,me,J4]
  rfl
 case slice z x lo hi mx=>
  simp only[wK,bp,qt,oi,mC,J4]
  show _=mC (EV G c bX) fr s k z (aM G fr x) lo hi mx
  unfold mC
  cases aM G fr x <;> try rfl
  cases mx <;> rfl
 case kG z n x lo hi mx=>
  simp only[wK,bp,qt,MR,kf,J4]
  show _=kf (EV G c bX) fr s k z n (aM G fr x) lo hi mx
  unfold kf
  cases aM G fr x <;> rfl
theorem rz:∀(os:List cJ) (fr:Tr) (s:St) (fin:Tr→St→ax),qq (qt G c) os fr s fin=fp (EV G c bX) os fr s fin (fun _ _ _=>.fail)
 | [],fr,s,fin=>rfl
 | o :: os,fr,s,fin=>by
  simp only[qq,fp]
  have key:(fun(v:AV) (s:St)=>ng fr o.dst v fun fr=>qq (qt G c) os fr s fin)=fun v s=>ng fr o.dst v fun fr=>fp (EV G c bX) os fr s fin (fun _ _ _=>.fail):=by
   funext v s
   congr 1
   funext fr
   exact rz os fr s fin
  cases hg:o.guard with
  | none=>
   simp only[p8,cond_true]
   rw[key,BN]
  | some p=>
   obtain⟨t,want⟩:=p
   simp only[p8,key,BN]
   rw[show(qt G c).ah=J2 from rfl]
   unfold J2
   cases fr.get t <;> rfl
theorem ub:∀(code:ae),n6 code=true→aD (qt G c) code=exec (EV G c bX) code:=by
 intro code
 induction code with
 | skip=>intro _;rfl
 | region re ops=>
  intro h
  cases re with
  | none=>funext fr s k;exact rz G c ops fr s _
  | some re=>
   cases re with
   | nil=>funext fr s k;simp only[aD,exec,List.all_nil,cond_true];exact rz G c ops fr s _
   | cons _ _=>simp [n6] at h
 | seq a b Ey Ez=>
  intro h
  simp only[n6,bD] at h
  funext fr s k
  simp only[aD,exec,Ey h.1,Ez h.2]
 | mask m a ih=>intro h;funext fr s k;simp only[aD,exec,jO];rfl
 | cond x a b Ey Ez=>
  intro h
  simp only[n6,bD] at h
  funext fr s k
  simp only[aD,exec,Ey h.1,Ez h.2]
  rfl
 | block id a ih=>intro h;funext fr s k;simp only[aD,exec,ih h]
 | loop aK a ih=>intro h;funext fr s k;simp only[aD,exec,ih h,jO];rfl
 | exit id=>intro _;rfl
 | scope a ih=>intro h;funext fr s k;simp only[aD,exec,ih h]
 | ret=>intro _;rfl
theorem IR{α β γ:Type}(f:β→Option γ)(g:α→β):∀l:List α,iT f (l.map g)=iT (fun x=>f (g x)) l
 | []=>rfl
 | x :: l=>by simp only[List.map_cons,iT,IR f g l]
theorem Ut(fn:bT):aO (qt G c) fn=ah7 .not fn:=by
 have key:∀fr s,t9 fn.aK (fn.results.map (Y0 fr s)) s=finish .not fn fr s:=fun fr s=>by
  unfold t9 finish
  rw[IR,show(fun x=>Y0 fr s x)=xd fr s from by funext x;cases x <;> rfl]
  cases iT (xd fr s) fn.results with
  | none=>rfl
  | some vs=>cases fn.aK <;> rfl
 funext x fr s
 cases x with
 | norm=>exact key fr s
 | ret=>exact key fr s
 | _=>rfl
end
structure rZ.OK (Z:rZ):Prop where
 m:∀m a fr s k,n6 a=true→Z.aE m a fr s k=aD Z a fr s k
 l:∀c aK fr s k,n6 c=true→Z.aW (aD Z c) aK fr s k=aD Z c fr s (cA aK (Z.aW (aD Z c) aK) k)
theorem rZ.OK.mm{Z:rZ}(h:Z.OK){m:Mk}{a:ae}{fr:Tr}{s:St}{k:KK}{R:ax}(e:n6 a=true:=by kernel_rfl)(e2:aD Z a fr s k=R:=by kernel_rfl):Z.aE m a fr s k=R:=(h.m m a fr s k e).trans e2
theorem rZ.OK.ll{Z:rZ}(h:Z.OK){c:ae}{aK:Mk}{fr:Tr}{s:St}{k:KK}{R:ax}(e:n6 c=true:=by kernel_rfl)(e2:aD Z c fr s (cA aK (Z.aW (aD Z c) aK) k)=R:=by kernel_rfl):Z.aW (aD Z c) aK fr s k=R:=(h.l c aK fr s k e).trans e2
section
variable(T:Nat→Option bT)(G:Nat→AV)(X:Nat→List AV→St→ax)
noncomputable def PP:rZ:=qt G (aJ T G X)
theorem aA:(PP T G X).OK:=by
 refine⟨fun m a fr s k h=>?_,fun c aK fr s k h=>?_⟩
 ·unfold PP
  rw[ub G _ a h]
  rfl
 ·unfold PP
  rw[ub G _ c h]
  exact MQ c aK fr s k
theorem aiC{f:Nat}{fn:bT}{args:List AV}{s:St}(hT:T f=some fn)(hn:Nat.beq args.length fn.np=true)(hc:n6 fn.body=true):
  aJ T G X f args s=aR args 0 .e fun fr=>aD (PP T G X) fn.body fr (bif fn.aK then s else s.ai) (aO (PP T G X) fn):=by
 rw[MP]
 unfold body
 rw[hT]
 simp only[hn,cond_true,PP,ub G _ fn.body hc,Ut]
 congr
 funext fr
 cases fn.aK <;> rfl
theorem aY{f:Nat}{fn:bT}{args:List AV}{s:St}(hT:T f=some fn:=by kernel_rfl)(hn:Nat.beq args.length fn.np=true:=by kernel_rfl)(hc:n6 fn.body=true:=by kernel_rfl):aJ T G X f args s=aR args 0 .e fun fr=>aD (PP T G X) fn.body fr (bif fn.aK then s else s.ai) (aO (PP T G X) fn):=aiC T G X hT hn hc
end
end Go.Ab
end
section
namespace Go.Ab
variable{T:Nat→Option bT}{G:Nat→AV}{X:Nat→List AV→St→ax}{s:St}{k:K1}
theorem nA(n:Option Nat)(v:AV):(PP T G X).aq s k n v=fK (EV G (aJ T G X) bX) s k n v:=rfl
theorem pV(n:Nat)(a v:AV):(PP T G X).a7 s k n a v=iS (EV G (aJ T G X) bX) s k n a v:=rfl
theorem jR(v:AV):(PP T G X).fG v s k=k v s:=rfl
theorem rA(v:AV):(PP T G X).ak s k (some v)=k v s:=rfl
theorem J5(t:Bool)(a b:AV):(PP T G X).aZ s k (.bool t) a b=k (if t=true then a else b) s:=by cases t <;> rfl
theorem cc(t:Bool)(a b:ax):(PP T G X).aH (.bool t) a b=if t=true then a else b:=by cases t <;> rfl
theorem EL(t w:Bool)(op:K1→ax):(PP T G X).ah (.bool t) w op s k=if t=w then op k else k (.cS []) s:=by cases t <;> cases w <;> rfl
theorem eG(l:List AV)(w:Bool)(op:K1→ax):(PP T G X).ah (.cS l) w op s k=k (.cS []) s:=rfl
def EM(v:AV)(op:K1→ax)(s:St)(k:K1):ax:=
 match v with
 | .bool b=>bif b then op k else k (.bool false) s
 | _=>.fail
def orK(v:AV)(op:K1→ax)(s:St)(k:K1):ax:=
 match v with
 | .bool b=>bif b then k (.bool true) s else op k
 | _=>.fail
theorem iG(t:Bool)(op:K1→ax):EM (.bool t) op s k=if t=true then op k else k (.bool false) s:=by cases t <;> rfl
theorem nB(t:Bool)(op:K1→ax):orK (.bool t) op s k=if t=true then k (.bool true) s else op k:=by cases t <;> rfl
theorem Y1(v:AV)(o1:K1→ax)(o2:AV→St→K1→ax):(PP T G X).ah v true (o1) s (fun x1 s1=>(PP T G X).ah v true (o2 x1 s1) s1 (fun x2 s2=>(PP T G X).aZ s2 k v x2 (.bool false)))=EM v (fun k=>o1 (fun x1 s1=>o2 x1 s1 k)) s k:=by
 cases v <;> try rfl
 rename_i b;cases b <;> rfl
theorem EN(v:AV)(o1:K1→ax)(o2:AV→St→K1→ax):(PP T G X).ah v false (o1) s (fun x1 s1=>(PP T G X).ah v false (o2 x1 s1) s1 (fun x2 s2=>(PP T G X).aZ s2 k v (.bool true) x2))=orK v (fun k=>o1 (fun x1 s1=>o2 x1 s1 k)) s k:=by
 cases v <;> try rfl
 rename_i b;cases b <;> rfl
theorem Y2(v:AV)(o1:K1→ax)(o2:AV→St→K1→ax)(o3:AV→St→AV→St→K1→ax):(PP T G X).ah v true (o1) s (fun x1 s1=>(PP T G X).ah v true (o2 x1 s1) s1 (fun x2 s2=>(PP T G X).ah v true (o3 x1 s1 x2 s2) s2 (fun x3 s3=>(PP T G X).aZ s3 k v x3 (.bool false))))=EM v (fun k=>o1 (fun x1 s1=>o2 x1 s1 (fun x2 s2=>o3 x1 s1 x2 s2 k))) s k:=by
 cases v <;> try rfl
 rename_i b;cases b <;> rfl
theorem qu(v:AV)(o1:K1→ax)(o2:AV→St→K1→ax)(o3:AV→St→AV→St→K1→ax):(PP T G X).ah v false (o1) s (fun x1 s1=>(PP T G X).ah v false (o2 x1 s1) s1 (fun x2 s2=>(PP T G X).ah v false (o3 x1 s1 x2 s2) s2 (fun x3 s3=>(PP T G X).aZ s3 k v (.bool true) x3)))=orK v (fun k=>o1 (fun x1 s1=>o2 x1 s1 (fun x2 s2=>o3 x1 s1 x2 s2 k))) s k:=by
 cases v <;> try rfl
 rename_i b;cases b <;> rfl
theorem om(v:AV)(o1:K1→ax)(o2:AV→St→K1→ax)(o3:AV→St→AV→St→K1→ax)(o4:AV→St→AV→St→AV→St→K1→ax):(PP T G X).ah v true (o1) s (fun x1 s1=>(PP T G X).ah v true (o2 x1 s1) s1 (fun x2 s2=>(PP T G X).ah v true (o3 x1 s1 x2 s2) s2 (fun x3 s3=>(PP T G X).ah v true (o4 x1 s1 x2 s2 x3 s3) s3 (fun x4 s4=>(PP T G X).aZ s4 k v x4 (.bool false)))))=EM v (fun k=>o1 (fun x1 s1=>o2 x1 s1 (fun x2 s2=>o3 x1 s1 x2 s2 (fun x3 s3=>o4 x1 s1 x2 s2 x3 s3 k)))) s k:=by
 cases v <;> try rfl
 rename_i b;cases b <;> rfl
theorem EO(v:AV)(o1:K1→ax)(o2:AV→St→K1→ax)(o3:AV→St→AV→St→K1→ax)(o4:AV→St→AV→St→AV→St→K1→ax):(PP T G X).ah v false (o1) s (fun x1 s1=>(PP T G X).ah v false (o2 x1 s1) s1 (fun x2 s2=>(PP T G X).ah v false (o3 x1 s1 x2 s2) s2 (fun x3 s3=>(PP T G X).ah v false (o4 x1 s1 x2 s2 x3 s3) s3 (fun x4 s4=>(PP T G X).aZ s4 k v (.bool true) x4))))=orK v (fun k=>o1 (fun x1 s1=>o2 x1 s1 (fun x2 s2=>o3 x1 s1 x2 s2 (fun x3 s3=>o4 x1 s1 x2 s2 x3 s3 k)))) s k:=by
 cases v <;> try rfl
 rename_i b;cases b <;> rfl
theorem ot(v:AV)(o1:K1→ax)(o2:AV→St→K1→ax)(o3:AV→St→AV→St→K1→ax)(o4:AV→St→AV→St→AV→St→K1→ax)(o5:AV→St→AV→St→AV→St→AV→St→K1→ax):(PP T G X).ah v true (o1) s (fun x1 s1=>(PP T G X).ah v true (o2 x1 s1) s1 (fun x2 s2=>(PP T G X).ah v true (o3 x1 s1 x2 s2) s2 (fun x3 s3=>(PP T G X).ah v true (o4 x1 s1 x2 s2 x3 s3) s3 (fun x4 s4=>(PP T G X).ah v true (o5 x1 s1 x2 s2 x3 s3 x4 s4) s4 (fun x5 s5=>(PP T G X).aZ s5 k v x5 (.bool false))))))=EM v (fun k=>o1 (fun x1 s1=>o2 x1 s1 (fun x2 s2=>o3 x1 s1 x2 s2 (fun x3 s3=>o4 x1 s1 x2 s2 x3 s3 (fun x4 s4=>o5 x1 s1 x2 s2 x3 s3 x4 s4 k))))) s k:=by
 cases v <;> try rfl
 rename_i b;cases b <;> rfl
theorem J6(v:AV)(o1:K1→ax)(o2:AV→St→K1→ax)(o3:AV→St→AV→St→K1→ax)(o4:AV→St→AV→St→AV→St→K1→ax)(o5:AV→St→AV→St→AV→St→AV→St→K1→ax)(o6:AV→St→AV→St→AV→St→AV→St→AV→St→K1→ax):(PP T G X).ah v true (o1) s (fun x1 s1=>(PP T G X).ah v true (o2 x1 s1) s1 (fun x2 s2=>(PP T G X).ah v true (o3 x1 s1 x2 s2) s2 (fun x3 s3=>(PP T G X).ah v true (o4 x1 s1 x2 s2 x3 s3) s3 (fun x4 s4=>(PP T G X).ah v true (o5 x1 s1 x2 s2 x3 s3 x4 s4) s4 (fun x5 s5=>(PP T G X).ah v true (o6 x1 s1 x2 s2 x3 s3 x4 s4 x5 s5) s5 (fun x6 s6=>(PP T G X).aZ s6 k v x6 (.bool false)))))))=EM v (fun k=>o1 (fun x1 s1=>o2 x1 s1 (fun x2 s2=>o3 x1 s1 x2 s2 (fun x3 s3=>o4 x1 s1 x2 s2 x3 s3 (fun x4 s4=>o5 x1 s1 x2 s2 x3 s3 x4 s4 (fun x5 s5=>o6 x1 s1 x2 s2 x3 s3 x4 s4 x5 s5 k)))))) s k:=by
 cases v <;> try rfl
 rename_i b;cases b <;> rfl
theorem Y3(v:AV)(o1:K1→ax)(o2:AV→St→K1→ax)(o3:AV→St→AV→St→K1→ax)(o4:AV→St→AV→St→AV→St→K1→ax)(o5:AV→St→AV→St→AV→St→AV→St→K1→ax)(o6:AV→St→AV→St→AV→St→AV→St→AV→St→K1→ax)(o7:AV→St→AV→St→AV→St→AV→St→AV→St→AV→St→K1→ax):(PP T G X).ah v true (o1) s (fun x1 s1=>(PP T G X).ah v true (o2 x1 s1) s1 (fun x2 s2=>(PP T G X).ah v true (o3 x1 s1 x2 s2) s2 (fun x3 s3=>(PP T G X).ah v true (o4 x1 s1 x2 s2 x3 s3) s3 (fun x4 s4=>(PP T G X).ah v true (o5 x1 s1 x2 s2 x3 s3 x4 s4) s4 (fun x5 s5=>(PP T G X).ah v true (o6 x1 s1 x2 s2 x3 s3 x4 s4 x5 s5) s5 (fun x6 s6=>(PP T G X).ah v true (o7 x1 s1 x2 s2 x3 s3 x4 s4 x5 s5 x6 s6) s6 (fun x7 s7=>(PP T G X).aZ s7 k v x7 (.bool false))))))))=EM v (fun k=>o1 (fun x1 s1=>o2 x1 s1 (fun x2 s2=>o3 x1 s1 x2 s2 (fun x3 s3=>o4 x1 s1 x2 s2 x3 s3 (fun x4 s4=>o5 x1 s1 x2 s2 x3 s3 x4 s4 (fun x5 s5=>o6 x1 s1 x2 s2 x3 s3 x4 s4 x5 s5 (fun x6 s6=>o7 x1 s1 x2 s2 x3 s3 x4 s4 x5 s5 x6 s6 k))))))) s k:=by
 cases v <;> try rfl
 rename_i b;cases b <;> rfl
theorem Y4(v:AV)(o1:K1→ax)(o2:AV→St→K1→ax)(o3:AV→St→AV→St→K1→ax)(o4:AV→St→AV→St→AV→St→K1→ax)(o5:AV→St→AV→St→AV→St→AV→St→K1→ax)(o6:AV→St→AV→St→AV→St→AV→St→AV→St→K1→ax)(o7:AV→St→AV→St→AV→St→AV→St→AV→St→AV→St→K1→ax)(o8:AV→St→AV→St→AV→St→AV→St→AV→St→AV→St→AV→St→K1→ax)(o9:AV→St→AV→St→AV→St→AV→St→AV→St→AV→St→AV→St→AV→St→K1→ax)(o10:AV→St→AV→St→AV→St→AV→St→AV→St→AV→St→AV→St→AV→St→AV→St→K1→ax):(PP T G X).ah v false (o1) s (fun x1 s1=>(PP T G X).ah v false (o2 x1 s1) s1 (fun x2 s2=>(PP T G X).ah v false (o3 x1 s1 x2 s2) s2 (fun x3 s3=>(PP T G X).ah v false (o4 x1 s1 x2 s2 x3 s3) s3 (fun x4 s4=>(PP T G X).ah v false (o5 x1 s1 x2 s2 x3 s3 x4 s4) s4 (fun x5 s5=>(PP T G X).ah v false (o6 x1 s1 x2 s2 x3 s3 x4 s4 x5 s5) s5 (fun x6 s6=>(PP T G X).ah v false (o7 x1 s1 x2 s2 x3 s3 x4 s4 x5 s5 x6 s6) s6 (fun x7 s7=>(PP T G X).ah v false (o8 x1 s1 x2 s2 x3 s3 x4 s4 x5 s5 x6 s6 x7 s7) s7 (fun x8 s8=>(PP T G X).ah v false (o9 x1 s1 x2 s2 x3 s3 x4 s4 x5 s5 x6 s6 x7 s7 x8 s8) s8 (fun x9 s9=>(PP T G X).ah v false (o10 x1 s1 x2 s2 x3 s3 x4 s4 x5 s5 x6 s6 x7 s7 x8 s8 x9 s9) s9 (fun x10 s10=>(PP T G X).aZ s10 k v (.bool true) x10))))))))))=orK v (fun k=>o1 (fun x1 s1=>o2 x1 s1 (fun x2 s2=>o3 x1 s1 x2 s2 (fun x3 s3=>o4 x1 s1 x2 s2 x3 s3 (fun x4 s4=>o5 x1 s1 x2 s2 x3 s3 x4 s4 (fun x5 s5=>o6 x1 s1 x2 s2 x3 s3 x4 s4 x5 s5 (fun x6 s6=>o7 x1 s1 x2 s2 x3 s3 x4 s4 x5 s5 x6 s6 (fun x7 s7=>o8 x1 s1 x2 s2 x3 s3 x4 s4 x5 s5 x6 s6 x7 s7 (fun x8 s8=>o9 x1 s1 x2 s2 x3 s3 x4 s4 x5 s5 x6 s6 x7 s7 x8 s8 (fun x9 s9=>o10 x1 s1 x2 s2 x3 s3 x4 s4 x5 s5 x6 s6 x7 s7 x8 s8 x9 s9 k)))))))))) s k:=by
 cases v <;> try rfl
 rename_i b;cases b <;> rfl
theorem IS(v:AV)(h:v.fF=true):(PP T G X).mZ v s k=k (.ref (.l s.own.length) 0) (s.new (.cells (v.av s.aa).cells)):=by
 show EH v s k=_
 unfold EH
 rw[h];rfl
section
variable(cs:List AV)(kk:IntKind)(n:Int)(b:Bool)(bs:List Nat)(a:Loc)(o sz:Nat)(es:List AV)(g:Gr)(f:Nat)
theorem bE:(PP T G X).dN (.agg cs) s k=k (.bO cs) s:=rfl
end
theorem bt(sz:Nat)(es:List AV)(g:Gr):(PP T G X).aV s k false (.sl sz es g)=k (.int .i64 es.length) s:=rfl
theorem li(a:Loc)(off n c sz:Nat):(PP T G X).aV s k false (.ck a off n c sz)=k (.int .i64 n) s:=rfl
theorem dY(bs:List Nat):(PP T G X).aV s k true (.str bs)=k (.int .i64 bs.length) s:=rfl
theorem bP(c:AV)(cs:List AV):(PP T G X).aq s k none (.bO (c :: cs))=k c s:=rfl
theorem e7(n:Nat)(cs:List AV)(h:n≤cs.length):(PP T G X).aq s k (some n) (.bO cs)=k (.agg (cs.take n)) s:=by
 show(bif Nat.ble n cs.length then _ else _)=_
 rw[show Nat.ble n cs.length=true from dy h];rfl
theorem dF(off:Nat)(cs:List AV):(PP T G X).aj s k off (.bO cs)=k (.bO (cs.drop off)) s:=rfl
theorem aC(off o:Nat)(a:Loc):(PP T G X).aj s k off (.ref a o)=k (.ref a (o+off)) s:=rfl
theorem iW(kk:IntKind)(n:Nat):eE (.int kk (n:Int))=some n:=by simp [eE]
theorem l9(sz:Nat)(es:List AV)(g:Gr)(kk:IntKind)(i:Nat)(e:AV)(h:es[i]? =some e):(PP T G X).aX s k sz (.sl sz es g) (.int kk (i:Int))=k (.bO e.cells) s:=by
 show p0 (EV G (aJ T G X) bX) s k sz (.sl sz es g) (.int kk (i:Int))=_
 unfold p0
 rw[iW]
 simp only[show Nat.beq sz sz=true from Nat.beq_refl sz,cond_true,h]
 rfl
theorem Y5(sz:Nat)(es:List AV)(g:Gr)(kk:IntKind)(i:Int)(e:AV)(h0:0≤i)(h:es[i.toNat]? =some e):(PP T G X).aX s k sz (.sl sz es g) (.int kk i)=k (.bO e.cells) s:=by
 have:=l9 (T:=T) (G:=G) (X:=X) (s:=s) (k:=k) sz es g kk i.toNat e h
 rwa [Int.toNat_of_nonneg h0] at this
theorem dJ{f:Nat}{args:List AV}{v:AV}{s':St}(h:aJ T G X f args s= .ok v s')(hd:s'.aa=s.aa):(PP T G X).aB s k f args=k v s':=by
 show cV _ _ _ _ _ _=_
 unfold cV
 show(match aJ T G X f args s with | .ok v s'=>_ | .panic v s'=>_ | .fail=>_)=_
 rw[h]
 simp only[hd,Nat.beq_refl,cond_true]
theorem aN{f:Nat}{args:List AV}{v:AV}(h:aJ T G X f args s= .ok v s):(PP T G X).aB s k f args=k v s:=dJ h rfl
theorem MU{f:Nat}{ez args:List AV}:(PP T G X).kr s k (.fn f ez) args=(PP T G X).aB s k f (args ++ ez):=rfl
theorem yi{f:Nat}{args:List AV}{v:AV}{s':St}(ha:AV.ba args=true)(h:aJ T G X f args {own:=[],up:=[],ro:=[]}= .ok v s')(hv:v.bo=true):(PP T G X).qp s k f args=k v s:=by
 show i9 _ _ _ _ _=_
 unfold i9
 rw[ha]
 simp only[cond_true]
 show(match aJ T G X f args _ with | .ok v _=>_ | _=>_)=_
 rw[h]
 simp only[hv,cond_true]
theorem gP(i:Nat)(vs:List AV)(v:AV)(h:vs[i]? =some v):(PP T G X).bk s k i (.cS vs)=k v s:=by
 show oV _ _ _ _=_
 rw[h];rfl
section
variable(kk:IntKind)(a b:Int)
theorem ayy:au .add (.int kk a) (.int kk b)=some (.int kk (kk.wrap (a+b))):=by simp [au,gV]
theorem ayz:au .sub (.int kk a) (.int kk b)=some (.int kk (kk.wrap (a - b))):=by simp [au,gV]
theorem ayA:au .mul (.int kk a) (.int kk b)=some (.int kk (kk.wrap (a * b))):=by simp [au,gV]
theorem ayB(h:b≠0):au .quo (.int kk a) (.int kk b)=some (.int kk (kk.wrap (a.tdiv b))):=by simp [au,gV,h]
theorem ayC(h:b≠0):au .rem (.int kk a) (.int kk b)=some (.int kk (a.tmod b)):=by simp [au,gV,h]
theorem ayD:au .eql (.int kk a) (.int kk b)=some (.bool (decide (a=b))):=by
 simp only[au,gV,↓reduceIte];congr 2
theorem ayE:au .neq (.int kk a) (.int kk b)=some (.bool (decide (¬a=b))):=by
 simp only[au,gV,↓reduceIte,bne];congr 2;by_cases h:a=b <;> simp [h]
theorem ayF:au .lss (.int kk a) (.int kk b)=some (.bool (decide (a < b))):=by simp [au,gV]
theorem ayG:au .leq (.int kk a) (.int kk b)=some (.bool (decide (a≤b))):=by simp [au,gV]
theorem ayH:au .gtr (.int kk a) (.int kk b)=some (.bool (decide (b < a))):=by simp [au,gV]
theorem ayI:au .geq (.int kk a) (.int kk b)=some (.bool (decide (b≤a))):=by simp [au,gV]
end
section
variable(kk:IntKind)(a b:Int)
theorem uc:(PP T G X).ak s k (au .add (.int kk a) (.int kk b))=k (.int kk (kk.wrap (a+b))) s:=by rw[ayy];rfl
theorem qv:(PP T G X).ak s k (au .sub (.int kk a) (.int kk b))=k (.int kk (kk.wrap (a - b))) s:=by rw[ayz];rfl
theorem Uu:(PP T G X).ak s k (au .mul (.int kk a) (.int kk b))=k (.int kk (kk.wrap (a * b))) s:=by rw[ayA];rfl
theorem aiE(h:b≠0):(PP T G X).ak s k (au .quo (.int kk a) (.int kk b))=k (.int kk (kk.wrap (a.tdiv b))) s:=by rw[ayB _ _ _ h];rfl
theorem aiF(h:b≠0):(PP T G X).ak s k (au .rem (.int kk a) (.int kk b))=k (.int kk (a.tmod b)) s:=by rw[ayC _ _ _ h];rfl
theorem bj:(PP T G X).ak s k (au .eql (.int kk a) (.int kk b))=k (.bool (decide (a=b))) s:=by rw[ayD];rfl
theorem eO:(PP T G X).ak s k (au .neq (.int kk a) (.int kk b))=k (.bool (decide (¬a=b))) s:=by rw[ayE];rfl
theorem bb:(PP T G X).ak s k (au .lss (.int kk a) (.int kk b))=k (.bool (decide (a < b))) s:=by rw[ayF];rfl
theorem rB:(PP T G X).ak s k (au .leq (.int kk a) (.int kk b))=k (.bool (decide (a≤b))) s:=by rw[ayG];rfl
theorem dV:(PP T G X).ak s k (au .gtr (.int kk a) (.int kk b))=k (.bool (decide (b < a))) s:=by rw[ayH];rfl
theorem gQ:(PP T G X).ak s k (au .geq (.int kk a) (.int kk b))=k (.bool (decide (b≤a))) s:=by rw[ayI];rfl
theorem fh(t:Bool):(PP T G X).ak s k (kL .not (.bool t))=k (.bool (!t)) s:=rfl
end
theorem ie(a:Int)(h1: -9223372036854775808≤a)(h2:a≤9223372036854775807):IntKind.wrap .i64 a=a:=IntWalk.i64_in a ⟨h1,h2⟩
theorem Uv(n:Nat)(h:n < 9223372036854775807):IntKind.wrap .i64 ((n:Int)+1)=((n+1:Nat):Int):=by
 rw[ie _ (by omega) (by omega)];rfl
def AV.plain:AV→Bool
 | .int .. | .bool _ | .str _ | .iz | .fR | .fa | .dI=>true
 | _=>false
theorem Ih{s:St}{v:AV}(h:v.plain=true):freeze s v=some v:=by
 cases v <;> simp [AV.plain] at h <;> rfl
theorem b8(kk:IntKind)(n:Int):(PP T G X).aI false [some (.int kk n)] s.ai= .ok (.int kk n) s:=rfl
theorem bq(b:Bool):(PP T G X).aI false [some (.bool b)] s.ai= .ok (.bool b) s:=rfl
theorem qw(b:List Nat):(PP T G X).aI false [some (.str b)] s.ai= .ok (.str b) s:=rfl
theorem tc(s:St)(o:bg):(s.new o).get (.l s.own.length)=some o:=by simp [St.get,St.new]
theorem Uw(s:St)(o o':bg):(s.new o).set (.l s.own.length) o'=some (s.new o'):=by simp [St.set,St.new]
theorem BO{α:Type}:∀(vs cs:List α),vs.length=cs.length→di cs 0 vs=vs:=by
 intro vs cs h
 apply List.ext_getElem?
 intro j
 rw[iK _ _ _ (by omega)]
 split
 ·simp
 ·rw[List.getElem?_eq_none (by omega),List.getElem?_eq_none (by omega)]
theorem qz(n:Nat)(vs cs:List AV)(h1:vs.length=n)(h2:cs.length=n)(h3:vs.all AV.dU=true):(PP T G X).a7 (s.new (.cells cs)) k n (.ref (.l s.own.length) 0) (.agg vs)=k .dead (s.new (.cells vs)):=by
 rw[pV]
 unfold iS
 simp only[AV.fF,AV.cells,h1,Nat.beq_refl,Bool.and_self,cond_true]
 unfold lG
 simp only[tc]
 have e:di cs 0 vs=vs:=BO _ _ (by omega)
 have e1:Nat.ble (0+vs.length) cs.length=true:=dy (by omega)
 have e2:(s.new (.cells cs)).iR (.l s.own.length) vs=true:=by simp [St.iR,St.At]
 rw[e1,e2,h3]
 simp only[Bool.and_self,cond_true,e]
 show(match (s.new (.cells cs)).set (.l s.own.length) (.cells vs) with | some s=>k .dead s | none=>.fail)=_
 rw[Uw]
theorem J7(n:Nat)(cs:List AV)(h:n≤cs.length):(PP T G X).aq (s.new (.cells cs)) k (some n) (.ref (.l s.own.length) 0)=k (.agg (cs.take n)) (s.new (.cells cs)):=by
 rw[nA]
 simp only[fK,tc,bW,fm]
 rw[show Nat.ble n cs.length=true from dy h]
 rfl
theorem aqr(c0:AV)(cs:List AV):(PP T G X).aq (s.new (.cells (c0 :: cs))) k none (.ref (.l s.own.length) 0)=k c0 (s.new (.cells (c0 :: cs))):=by
 rw[nA]
 simp only[fK,tc]
 rfl
structure Child (s S:St):Prop where
 up:S.up=s.own :: s.up
 ro:S.ro=s.ro
theorem Child.ai(s:St):Child s s.ai:=⟨rfl,rfl⟩
theorem Child.new{s S:St}(h:Child s S)(o:bg):Child s (S.new o):=⟨h.up,h.ro⟩
theorem jv{s S:St}(h:Child s S)(v w:AV)(hw:freeze S v=some w):(PP T G X).aI false [some v] S= .ok w s:=by
 obtain⟨h1,h2⟩:=h
 show t9 false [some v] S=_
 unfold t9
 simp only[iT,jc,e9,cond_false,hw,xe,h1,h2]
theorem iB{s S:St}(h:Child s S)(v1 v2 w1 w2:AV)(e1:freeze S v1=some w1)(e2:freeze S v2=some w2):(PP T G X).aI false [some v1,some v2] S= .ok (.cS [w1,w2]) s:=by
 obtain⟨h1,h2⟩:=h
 show t9 false [some v1,some v2] S=_
 unfold t9
 simp only[iT,jc,e9,cond_false,e1,e2,xe,h1,h2]
theorem lj{s S:St}(h:Child s S)(kk:IntKind)(n:Int):(PP T G X).aI false [some (.int kk n)] S= .ok (.int kk n) s:=jv h _ _ rfl
theorem eH{s S:St}(h:Child s S)(b:Bool):(PP T G X).aI false [some (.bool b)] S= .ok (.bool b) s:=jv h _ _ rfl
theorem dc(d:Nat)(cs:List AV):AV.av d (.agg cs)= .agg cs:=rfl
theorem cD(d:Nat)(kk:IntKind)(n:Int):AV.av d (.int kk n)= .int kk n:=rfl
theorem sd(d:Nat)(b:Bool):AV.av d (.bool b)= .bool b:=rfl
theorem Y6(d f:Nat)(cs:List AV):AV.av d (.fn f cs)= .fn f cs:=rfl
theorem iu(q b:Nat)(at_:Option Loc)(x y:AV):(PP T G X).cz s k q b at_ x y=eA (EV G (aJ T G X) bX) s k q b at_ x y:=rfl
theorem kB(sz:Nat)(es:List AV)(h1:AV.ba es=true)(h2:(es.all fun e=>e.fF && Nat.beq e.cells.length sz)=true):(PP T G X).aF s k sz es=k (.sl sz es .exact) s:=by
 show(bif AV.ba es && es.all (fun e=>e.fF && Nat.beq e.cells.length sz) then _ else _)=_
 rw[h1,h2];rfl
theorem aqs(kk:IntKind)(a b:Int):(PP T G X).yg s k max2 [.int kk a, .int kk b]=k (.int kk (if b > a then b else a)) s:=rfl
inductive iX (S:St):Gr→Nat→Prop
 | nil:iX S .nil 0
 | bJ (j n:Nat) (hn:0 < n) (h:S.own[j]? =some (.tok n)):iX S (.bJ (.l j)) n
theorem iX.inv{S:St}{g:Gr}{n:Nat}(h:iX S g n):(g= .nil∧n=0)∨∃j,g= .bJ (.l j)∧0 < n∧S.own[j]? =some (.tok n):=by
 cases h with
 | nil=>exact .inl ⟨rfl,rfl⟩
 | bJ j n hn h=>exact .inr ⟨j,rfl,hn,h⟩
theorem iX.new{S:St}{g:Gr}{n:Nat}(h:iX S g n)(o:bg):iX (S.new o) g n:=by
 cases h with
 | nil=>exact .nil
 | bJ j n hn h=>
  refine .bJ j n hn ?_
  have hj:=(bZ.1 h).1
  simp only[St.new]
  rw[eZ hj]
  exact h
structure Grown (S S':St) (g:Gr):Prop where
 up:S'.up=S.up
 ro:S'.ro=S.ro
 len:S.own.length≤S'.own.length
 own:∀j o,S.own[j]? =some o→g≠.bJ (.l j)→S'.own[j]? =some o
theorem Grown.child{s S S':St}{g:Gr}(h:Grown S S' g)(hS:Child s S):Child s S':=⟨h.up.trans hS.up,h.ro.trans hS.ro⟩
theorem Grown.grow{S S':St}{g g':Gr}{n:Nat}(h:Grown S S' g)(hg:iX S g' n)(cK:∀j,g'= .bJ (.l j)→g≠.bJ (.l j)):iX S' g' n:=by
 cases hg with
 | nil=>exact .nil
 | bJ j n hn e=>exact .bJ j n hn (h.own j _ e (cK j rfl))
theorem Grown.aa{S S':St}{g:Gr}(h:Grown S S' g):S'.aa=S.aa:=by simp [St.aa,h.up,h.ro]
theorem AO{R:ax}{S:St}{es new:List AV}{g g2:Gr}{q bytes:Nat}(hg:iX S g es.length)(hn:new≠[])(hb:(es.length+new.length) * bytes≤1099511627776)(hc:(new.flatMap AV.cells).all AV.dU=true)
  (hk:∀g' S',iX S' g' (es.length+new.length)→g'≠.nil→(g≠.nil→g'=g)→(g= .nil→g'= .bJ (.l S.own.length))→Grown S S' g→k (.sl q (es ++ new) g') S'=R)(sR:∀a,g2≠.bJ a:=by intro a h;cases h):
  (PP T G X).cz S k q bytes (some (.l 0)) (.sl q es g) (.sl q new g2)=R:=by
 rw[iu]
 unfold eA
 simp only
 unfold fC
 rw[show dl S (.sl q new g2)=some (q,new) from by cases g2 <;> first | rfl | exact absurd rfl (sR _)]
 simp only[Nat.beq_refl,Bool.true_and]
 rw[show Nat.ble ((es.length+new.length) * bytes) 1099511627776=true from dy hb]
 simp only[cond_true]
 cases new with
 | nil=>exact absurd rfl hn
 | cons c cs=>
  rcases hg.inv with⟨rfl,nM⟩ | ⟨j,rfl,kJ,h⟩
  ·simp only[St.gK]
   refine hk _ _ (.bJ _ _ (by simp;omega) ?_) (by simp) (fun h=>absurd rfl h) (fun _=>rfl) ⟨rfl,rfl,by simp [St.new],fun j o h _=>?_⟩
   ·simp [St.new]
   ·simp only[St.new]
    rw[eZ (bZ.1 h).1]
    exact h
  ·have e:S.get (.l j)=some (.tok es.length):=h
   simp only[e,Nat.beq_refl,hc,Bool.and_self,cond_true]
   show(match S.set (.l j) (.tok (es.length+(c :: cs).length)) with | some s=>k (.sl q (es ++ c :: cs) (.bJ (.l j))) s | none=>.fail)=R
   simp only[St.set]
   refine hk _ _ (.bJ _ _ (by simp;omega) ?_) (by simp) (fun _=>rfl) (fun h=>by simp at h) ⟨rfl,rfl,by simp,fun i o hi cK=>?_⟩
   ·simp [(bZ.1 h).1]
   ·have:j≠i:=fun e=>cK (by rw[e])
    simp only
    rw[eM this]
    exact hi
def fO{α:Type}(l:List α):Gr:=if l.isEmpty then .nil else .any
theorem nC{S:St}{sz:Nat}{es:List AV}{g:Gr}(hg:iX S g es.length)(hr:AV.ba es=true:=by rfl):freeze S (.sl sz es g)=some (.sl sz es (fO es)):=by
 rcases hg.inv with⟨rfl,h⟩ | ⟨j,rfl,hn,h⟩
 ·have:es=[]:=List.eq_nil_of_length_eq_zero h
  subst this;rfl
 ·cases es with
  | nil=>simp at hn
  | cons e es=>
   show(if AV.ba (e :: es)=true then some (AV.sl sz (e :: es) .any) else none)=_
   rw[if_pos hr]
   rfl
theorem qA{S:St}(a:Loc)(off len cap sz:Nat)(kk:IntKind)(i:Nat)(h:i < len):(PP T G X).aX S k sz (.ck a off len cap sz) (.int kk (i:Int))=k (.ref a (off+i * sz)) S:=by
 show p0 (EV G (aJ T G X) bX) S k sz (.ck a off len cap sz) (.int kk (i:Int))=_
 unfold p0
 rw[iW]
 simp only[Nat.beq_refl,show Nat.blt i len=true from by simp [Nat.blt_eq,h],Bool.and_self,cond_true]
 rfl
theorem IT{S:St}{j o:Nat}{cs:List AV}{c:AV}(h:S.own[j]? =some (.cells cs))(hc:cs[o]? =some c):(PP T G X).aq S k none (.ref (.l j) o)=k c S:=by
 rw[nA]
 simp only[fK]
 rw[show S.get (.l j)=some (.cells cs) from h]
 simp only[fm]
 have:cs.drop o=c :: cs.drop (o+1):=by
  have ho:=(bZ.1 hc)
  rw[List.drop_eq_getElem_cons ho.1,ho.2]
 rw[this]
 rfl
theorem IU(z:AV):∀c:Nat,(List.replicate c [z]).flatten=List.replicate c z
 | 0=>rfl
 | c+1=>by simp [List.replicate_succ,IU z c]
theorem ow(z:AV)(bytes l c:Nat)(h1:l≤c)(h2:c * bytes≤1099511627776):(PP T G X).kK s k [z] bytes (.int .i64 (l:Int)) (.int .i64 (c:Int))=k (.ck (.l s.own.length) 0 l c 1) (s.new (.cells (List.replicate c z))):=by
 show ri (EV G (aJ T G X) bX) s k [z] bytes (.int .i64 (l:Int)) (.int .i64 (c:Int))=_
 unfold ri
 rw[iW,iW]
 simp only[show Nat.ble l c=true from dy h1,show Nat.ble (c * bytes) 1099511627776=true from dy h2,Bool.and_self,cond_true]
 show k _ (s.new (.cells (List.replicate c [z]).flatten))=_
 rw[IU]
 rfl
abbrev U(n:Nat):AV:=.int .u32 (n:Int)
theorem kC(a:Int):IntKind.wrap .u64 a=a % 18446744073709551616:=by
 unfold IntKind.wrap
 simp [show IntKind.bits .u64=64 from rfl,show IntKind.signed .u64=false from rfl]
theorem wrap_u32(a:Int):IntKind.wrap .u32 a=a % 4294967296:=by
 unfold IntKind.wrap
 simp [show IntKind.bits .u32=32 from rfl,show IntKind.signed .u32=false from rfl]
theorem oz(a b:Nat):(PP T G X).ak s k (au .add (.int .u64 (a:Int)) (.int .u64 (b:Int)))=k (.int .u64 (((a+b) % 18446744073709551616:Nat):Int)) s:=by
 rw[uc,kC];congr 2
def qX(a b:Nat):Nat:=(((a:Int) - (b:Int)) % 18446744073709551616).toNat
theorem td(a b:Nat):(PP T G X).ak s k (au .sub (.int .u64 (a:Int)) (.int .u64 (b:Int)))=k (.int .u64 ((qX a b:Nat):Int)) s:=by
 rw[qv,kC];congr 2
 rw[qX,Int.toNat_of_nonneg (by omega)]
theorem ud(a:Nat):(PP T G X).ak s k (au .sub (.int .u64 (a:Int)) (.int .u64 1))=k (.int .u64 ((qX a 1:Nat):Int)) s:=td a 1
theorem J8(a b:Nat):(PP T G X).ak s k (au .mul (.int .u64 (a:Int)) (.int .u64 (b:Int)))=k (.int .u64 (((a * b) % 18446744073709551616:Nat):Int)) s:=by
 rw[Uu,kC];congr 2
theorem agO(a b:Nat):(PP T G X).ak s k (au .add (.int .u32 (a:Int)) (.int .u32 (b:Int)))=k (.int .u32 (((a+b) % 4294967296:Nat):Int)) s:=by
 rw[uc,wrap_u32];congr 2
theorem C2(a b:Nat)(h:b≠0)(ha:a < 18446744073709551616):(PP T G X).ak s k (au .quo (.int .u64 (a:Int)) (.int .u64 (b:Int)))=k (.int .u64 ((a / b:Nat):Int)) s:=by
 rw[aiE _ _ _ (by omega),kC];congr 2
 have:((a:Int)).tdiv (b:Int)=((a / b:Nat):Int):=by rw[Int.tdiv_eq_ediv_of_nonneg (by omega)];rfl
 rw[this]
 have h2:a / b≤a:=Nat.div_le_self _ _
 generalize a / b=q at *
 omega
theorem J9(a b:Nat)(h:b≠0):(PP T G X).ak s k (au .rem (.int .u64 (a:Int)) (.int .u64 (b:Int)))=k (.int .u64 ((a % b:Nat):Int)) s:=by
 rw[aiF _ _ _ (by omega)];congr 2
theorem yj(kk:IntKind)(a c:Nat)(h:c≤64):(PP T G X).ak s k (au .shl (.int .u64 (a:Int)) (.int kk (c:Int)))=k (.int .u64 ((a * 2 ^ c % 18446744073709551616:Nat):Int)) s:=by
 have e:au .shl (.int .u64 (a:Int)) (.int kk (c:Int))=some (.int .u64 (IntKind.wrap .u64 ((a:Int) * 2 ^ (min (c:Int).toNat 64)))):=by
  have hn:¬((c:Int) < 0):=by omega
  simp [au,qP,hn,show IntKind.bits .u64=64 from rfl]
 rw[e,rA,kC,Int.toNat_natCast,Nat.min_eq_left h]
 congr 2
theorem C3(kk:IntKind)(a c:Nat)(h:c≤64):(PP T G X).ak s k (au .shr (.int .u64 (a:Int)) (.int kk (c:Int)))=k (.int .u64 ((a / 2 ^ c:Nat):Int)) s:=by
 have e:au .shr (.int .u64 (a:Int)) (.int kk (c:Int))=some (.int .u64 ((a:Int).fdiv (2 ^ (min (c:Int).toNat 64)))):=by
  have hn:¬((c:Int) < 0):=by omega
  simp [au,qP,hn,show IntKind.bits .u64=64 from rfl]
 rw[e,rA,Int.toNat_natCast,Nat.min_eq_left h]
 congr 2
 rw[show((2:Int) ^ c)=((2 ^ c:Nat):Int) from by simp,Int.fdiv_eq_ediv_of_nonneg _ (Int.natCast_nonneg _)]
 rfl
theorem wL(kk:IntKind)(a c:Nat)(h:c≤32):(PP T G X).ak s k (au .shr (.int .u32 (a:Int)) (.int kk (c:Int)))=k (.int .u32 ((a / 2 ^ c:Nat):Int)) s:=by
 have e:au .shr (.int .u32 (a:Int)) (.int kk (c:Int))=some (.int .u32 ((a:Int).fdiv (2 ^ (min (c:Int).toNat 32)))):=by
  have hn:¬((c:Int) < 0):=by omega
  simp [au,qP,hn,show IntKind.bits .u32=32 from rfl]
 rw[e,rA,Int.toNat_natCast,Nat.min_eq_left h]
 congr 2
 rw[show((2:Int) ^ c)=((2 ^ c:Nat):Int) from by simp,Int.fdiv_eq_ediv_of_nonneg _ (Int.natCast_nonneg _)]
 rfl
theorem Ux(kk:IntKind)(a c:Nat)(h:c≤32):(PP T G X).ak s k (au .shl (.int .u32 (a:Int)) (.int kk (c:Int)))=k (.int .u32 ((a * 2 ^ c % 4294967296:Nat):Int)) s:=by
 have e:au .shl (.int .u32 (a:Int)) (.int kk (c:Int))=some (.int .u32 (IntKind.wrap .u32 ((a:Int) * 2 ^ (min (c:Int).toNat 32)))):=by
  have hn:¬((c:Int) < 0):=by omega
  simp [au,qP,hn,show IntKind.bits .u32=32 from rfl]
 rw[e,rA,wrap_u32,Int.toNat_natCast,Nat.min_eq_left h]
 congr 2
theorem u9(a:Nat):(PP T G X).ak s k (au .shl (.int .u64 (a:Int)) (.int .u64 32))=k (.int .u64 ((a * 4294967296 % 18446744073709551616:Nat):Int)) s:=yj .u64 a 32 (by decide)
theorem vk(a:Nat):(PP T G X).ak s k (au .shr (.int .u64 (a:Int)) (.int .u64 32))=k (.int .u64 ((a / 4294967296:Nat):Int)) s:=C3 .u64 a 32 (by decide)
theorem IV(a:Nat):(PP T G X).ak s k (au .shr (.int .u64 (a:Int)) (.int .u64 63))=k (.int .u64 ((a / 9223372036854775808:Nat):Int)) s:=C3 .u64 a 63 (by decide)
theorem iH(kk:IntKind)(a:Nat):(PP T G X).bc s k .u32 (.int kk (a:Int))=k (.int .u32 ((a % 4294967296:Nat):Int)) s:=by
 show k (.int .u32 (IntKind.wrap .u32 (a:Int))) s=_
 rw[wrap_u32];congr 2
theorem fW(a:Nat)(h:a < 4294967296):(PP T G X).bc s k .u64 (.int .u32 (a:Int))=k (.int .u64 (a:Int)) s:=by
 show k (.int .u64 (IntKind.wrap .u64 (a:Int))) s=_
 rw[kC];congr 2;omega
theorem iI(a b:Nat)(h:a+b < 9223372036854775808):(PP T G X).ak s k (au .add (.int .i64 (a:Int)) (.int .i64 (b:Int)))=k (.int .i64 ((a+b:Nat):Int)) s:=by
 rw[uc,ie _ (by omega) (by omega)];congr 2
theorem pG(a b:Nat)(h:b≤a)(h2:a < 9223372036854775808):(PP T G X).ak s k (au .sub (.int .i64 (a:Int)) (.int .i64 (b:Int)))=k (.int .i64 ((a - b:Nat):Int)) s:=by
 rw[qv,ie _ (by omega) (by omega)];congr 2;omega
theorem qB(a:Nat)(h:a+1 < 9223372036854775808):(PP T G X).ak s k (au .add (.int .i64 (a:Int)) (.int .i64 1))=k (.int .i64 ((a+1:Nat):Int)) s:=iI a 1 h
theorem ku(a:Nat)(h:1≤a)(h2:a < 9223372036854775808):(PP T G X).ak s k (au .sub (.int .i64 (a:Int)) (.int .i64 1))=k (.int .i64 ((a - 1:Nat):Int)) s:=pG a 1 h h2
theorem MV(a:Nat)(h:2≤a)(h2:a < 9223372036854775808):(PP T G X).ak s k (au .sub (.int .i64 (a:Int)) (.int .i64 2))=k (.int .i64 ((a - 2:Nat):Int)) s:=pG a 2 h h2
theorem m5(a:Nat)(h2:a < 9223372036854775808):(PP T G X).ak s k (au .quo (.int .i64 (a:Int)) (.int .i64 32))=k (.int .i64 ((a / 32:Nat):Int)) s:=by
 rw[aiE _ _ _ (by omega)]
 have:((a:Int)).tdiv 32=((a / 32:Nat):Int):=by rw[Int.tdiv_eq_ediv_of_nonneg (by omega)];rfl
 rw[this,ie _ (by omega) (by omega)]
theorem pW(a:Nat):(PP T G X).ak s k (au .rem (.int .i64 (a:Int)) (.int .i64 32))=k (.int .i64 ((a % 32:Nat):Int)) s:=by
 rw[aiF _ _ _ (by omega)];congr 2
theorem aqt(a b:Nat)(ha:a < 18446744073709551616)(hb:b < 18446744073709551616):((BitVec.ofInt 64 (a:Int) &&& BitVec.ofInt 64 (b:Int)).toNat:Int)=((a &&& b:Nat):Int):=by
 rw[BitVec.toNat_and]
 simp only[BitVec.toNat_ofInt]
 congr 1
 have h1:(((a:Int) % ((2 ^ 64:Nat):Int))).toNat=a:=by omega
 have h2:(((b:Int) % ((2 ^ 64:Nat):Int))).toNat=b:=by omega
 rw[h1,h2]
theorem agP(a:Nat)(h:a < 18446744073709551616):(PP T G X).ak s k (au .and (.int .u64 (a:Int)) (.int .u64 4294967295))=k (.int .u64 ((a % 4294967296:Nat):Int)) s:=by
 have e:au .and (.int .u64 (a:Int)) (.int .u64 ((4294967295:Nat):Int))=some (.int .u64 (IntKind.wrap .u64 ((BitVec.ofInt 64 (a:Int) &&& BitVec.ofInt 64 ((4294967295:Nat):Int)).toNat:Int))):=by
  simp only[au,gV,↓reduceIte]
  rfl
 show(PP T G X).ak s k (au .and (.int .u64 (a:Int)) (.int .u64 ((4294967295:Nat):Int)))=_
 rw[e,aqt a _ h (by omega),rA,kC]
 congr 2
 have:a &&& 4294967295=a % 4294967296:=Nat.and_two_pow_sub_one_eq_mod a 32
 rw[this]
 omega
theorem Uy(a b:Nat)(ha:a < 18446744073709551616)(hb:b < 18446744073709551616):((BitVec.ofInt 64 (a:Int) ||| BitVec.ofInt 64 (b:Int)).toNat:Int)=((a ||| b:Nat):Int):=by
 rw[BitVec.toNat_or]
 simp only[BitVec.toNat_ofInt]
 congr 1
 have h1:(((a:Int) % ((2 ^ 64:Nat):Int))).toNat=a:=by omega
 have h2:(((b:Int) % ((2 ^ 64:Nat):Int))).toNat=b:=by omega
 rw[h1,h2]
theorem ayJ(q b p:Nat)(hb:b < 2 ^ p)(hq:q * 2 ^ p+b < 18446744073709551616):(PP T G X).ak s k (au .or (.int .u64 ((q * 2 ^ p:Nat):Int)) (.int .u64 (b:Int)))=k (.int .u64 ((q * 2 ^ p+b:Nat):Int)) s:=by
 have e:au .or (.int .u64 ((q * 2 ^ p:Nat):Int)) (.int .u64 (b:Int))=some (.int .u64 (IntKind.wrap .u64 ((BitVec.ofInt 64 ((q * 2 ^ p:Nat):Int) ||| BitVec.ofInt 64 (b:Int)).toNat:Int))):=by
  simp only[au,gV,↓reduceIte]
  rfl
 rw[e,Uy _ _ (by omega) (by omega),rA,kC]
 congr 2
 have:q * 2 ^ p ||| b=q * 2 ^ p+b:=by
  rw[Nat.mul_comm,←Nat.two_pow_add_eq_or_of_lt hb]
 rw[this]
 omega
theorem EP(q b:Nat)(hb:b < 4294967296)(hq:q < 4294967296):(PP T G X).ak s k (au .or (.int .u64 ((q * 4294967296:Nat):Int)) (.int .u64 (b:Int)))=k (.int .u64 ((q * 4294967296+b:Nat):Int)) s:=ayJ q b 32 hb (by omega)
theorem gJ(l:List Nat):AV.ba (l.map U)=true:=by
 induction l with
 | nil=>rfl
 | cons x l ih=>simp only[List.map_cons,AV.ba,ih,Bool.and_true];rfl
def te(d:Nat)(g:Gr):Prop:=∀a,g= .bJ a→∃e i,a= .g e i∧e≤d
theorem te.not{g:Gr}(h:∀a,g≠.bJ a)(d:Nat):te d g:=fun a e=>absurd e (h a)
theorem te.le{d e:Nat}{g:Gr}(h:te d g)(hd:d≤e):te e g:=fun a ha=>by
 obtain⟨x,i,h1,h2⟩:=h a ha
 exact⟨x,i,h1,Nat.le_trans h2 hd⟩
inductive Rd (s:St):AV→List Nat→Prop
 | sl (l:List Nat) (g:Gr) (hg:te s.aa g):Rd s (.sl 1 (l.map U) g) l
 | ck (d j off cap:Nat) (cs:List AV) (l:List Nat) (hd:d≤s.aa) (hg:s.get (.g d j)=some (.cells cs)) (hl:(cs.drop off).take l.length=l.map U) (hle:off+l.length≤cs.length) (hc:l.length≤cap):Rd s (.ck (.g d j) off l.length cap 1) l
def Vw(s S:St):Prop:=s.aa≤S.aa∧∀d j o,d≤s.aa→s.get (.g d j)=some o→S.get (.g d j)=some o
theorem Vw.refl(s:St):Vw s s:=⟨Nat.le_refl _,fun _ _ _ _ h=>h⟩
theorem Vw.trans{s S S':St}(h:Vw s S)(k:Vw S S'):Vw s S':=⟨Nat.le_trans h.1 k.1,fun d j o hd e=>k.2 d j o (Nat.le_trans hd h.1) (h.2 d j o hd e)⟩
theorem Child.aa{s S:St}(h:Child s S):S.aa=s.aa+1:=by simp [St.aa,h.up,h.ro];omega
theorem Child.vw{s S:St}(h:Child s S):Vw s S:=by
 refine⟨by rw[h.aa];omega,fun d j o hd e=>?_⟩
 have h1:=h.aa
 simp only[St.get] at e ⊢
 rw[if_neg (by omega),if_pos (by omega),h.up,h.ro]
 by_cases e1:d=s.aa
 ·rw[if_pos e1] at e
  have:S.aa - 1 - d=0:=by omega
  rw[this]
  simpa using e
 ·rw[if_neg e1,if_pos (by omega)] at e
  have:S.aa - 1 - d=(s.aa - 1 - d)+1:=by omega
  rw[this]
  simpa using e
theorem Vw.new(s:St)(o:bg):Vw s (s.new o):=by
 refine⟨Nat.le_refl _,fun d j x hd e=>?_⟩
 simp only[St.get] at e ⊢
 have:(s.new o).aa=s.aa:=rfl
 rw[this]
 split
 ·rename_i h
  rw[if_pos h] at e
  have hj:=(bZ.1 e).1
  simp only[St.new]
  rw[eZ hj]
  exact e
 ·rename_i h
  rw[if_neg h] at e
  exact e
theorem Rd.vw{s S:St}{v:AV}{l:List Nat}(h:Rd s v l)(hv:Vw s S):Rd S v l:=by
 cases h with
 | sl l g hg=>exact .sl l g (hg.le hv.1)
 | ck d j off cap cs l hd hg hl hle hc=>exact .ck d j off cap cs l (Nat.le_trans hd hv.1) (hv.2 d j _ hd hg) hl hle hc
theorem Rd.av{s:St}{v:AV}{l:List Nat}(h:Rd s v l)(d:Nat):v.av d=v:=by
 cases h with
 | sl l g hg=>
  cases g with
  | bJ a=>obtain⟨x,i,rfl,_⟩:=hg a rfl;rfl
  | _=>rfl
 | ck=>rfl
theorem Rd.len{S:St}{v:AV}{l:List Nat}(h:Rd S v l)(k:K1)(S':St):(PP T G X).aV S' k false v=k (.int .i64 (l.length:Int)) S':=by
 cases h with
 | sl l g hg=>rw[bt,cw]
 | ck=>rfl
theorem Rd.get{S:St}{v:AV}{l:List Nat}(h:Rd S v l)(kk:IntKind)(i:Nat)(hi:i < l.length)(k:K1):(PP T G X).aX S (fun v S=>(PP T G X).aq S k none v) 1 v (.int kk (i:Int))=k (U (l.getD i 0)) S:=by
 cases h with
 | sl l g hg=>
  rw[l9 1 _ g kk i (U (l.getD i 0)) (by simp [List.getD,hi])]
  rfl
 | ck d j off cap cs l hd hg hl hle hc=>
  rw[qA _ _ _ _ _ _ _ hi,nA]
  simp only[fK,hg,fm,Nat.mul_one]
  have cM:off+i < cs.length:=by omega
  rw[List.drop_eq_getElem_cons cM]
  have e:cs[off+i]=U (l.getD i 0):=by
   have h1:((cs.drop off).take l.length)[i]? =(l.map U)[i]?:=by rw[hl]
   rw[List.getElem?_take,if_pos hi,List.getElem?_drop,d8 cM] at h1
   simp [hi] at h1
   rw[h1]
   simp [List.getD,hi]
  rw[e]
  rfl
theorem Rd.ptr{S:St}{v:AV}{l:List Nat}(h:Rd S v l)(kk:IntKind)(i:Nat)(hi:i < l.length):∃p,(∀(S':St) (k:K1),(PP T G X).aX S' k 1 v (.int kk (i:Int))=k p S')∧∀k:K1,(PP T G X).aq S k none p=k (U (l.getD i 0)) S:=by
 have hg:=fun k=>h.get (T:=T) (G:=G) (X:=X) kk i hi k
 cases h with
 | sl l g qg=>
  have e:=fun(S':St) (k:K1)=>l9 (T:=T) (G:=G) (X:=X) (s:=S') (k:=k) 1 (l.map U) g kk i (U (l.getD i 0)) (by simp [List.getD,hi])
  refine⟨_,e,fun k=>?_⟩
  have:=hg k
  rw[e] at this
  exact this
 | ck d j off cap cs l hd qg hl hle hc=>
  have e:=fun(S':St) (k:K1)=>qA (T:=T) (G:=G) (X:=X) (S:=S') (k:=k) (.g d j) off l.length cap 1 kk i hi
  refine⟨_,e,fun k=>?_⟩
  have:=hg k
  rw[e] at this
  exact this
def nP(g:Gr)(len n:Nat):Gr:=
 match g with
 | .nil=>.nil
 | .exact=>if n=len then .exact else .any
 | .bJ a=>if 0=0∧n=len then .bJ a else .any
 | .any=>.any
def mw(v:AV)(n:Nat):AV:=
 match v with
 | .sl z es g=>.sl z (es.take n) (nP g es.length n)
 | .ck a off _ cap z=>.ck a off n cap z
 | v=>v
theorem EQ{g:Gr}(hg:∀a,g≠.bJ a)(len n:Nat):∀a,nP g len n≠.bJ a:=fun a=>by
 cases g with
 | bJ b=>exact absurd rfl (hg b)
 | nil=>intro e;cases e
 | exact=>intro e;simp only[nP] at e;split at e <;> cases e
 | any=>intro e;cases e
theorem agQ{d:Nat}{g:Gr}(hg:te d g)(len n:Nat):te d (nP g len n):=fun a e=>by
 cases g with
 | bJ b=>
  simp only[nP] at e
  split at e
  ·exact hg a e
  ·cases e
 | nil=>cases e
 | exact=>simp only[nP] at e;split at e <;> cases e
 | any=>cases e
theorem Rd.slice{S:St}{v:AV}{l:List Nat}(h:Rd S v l)(n:Nat)(hn:n≤l.length)(k:K1)(S':St):(PP T G X).lh 1 v none (some (.int .i64 (n:Int))) none S' k=k (mw v n) S':=by
 cases h with
 | sl l g hg=>
  show oi 1 (.sl 1 (l.map U) g) none (some (.int .i64 (n:Int))) none S' k=_
  unfold oi
  simp only[tI,iW,Nat.beq_refl,dy (Nat.zero_le n),show Nat.ble n (l.map U).length=true from dy (by simpa using hn),show uV g 0 n (l.map U)=true from by cases g <;> first | rfl | (simp only[uV,gJ,Bool.or_true]),Bool.and_self,cond_true,bW,Nat.sub_zero]
  cases g <;> first | rfl | simp [mw,nP]
 | ck d j off cap cs l hd hg hl hle hc=>
  show oi 1 (.ck (.g d j) off l.length cap 1) none (some (.int .i64 (n:Int))) none S' k=_
  unfold oi
  simp only[tI,iW,Nat.beq_refl,dy (Nat.zero_le n),show Nat.ble n cap=true from dy (by omega),show Nat.ble cap cap=true from dy (Nat.le_refl _),dy hc,Bool.and_self,cond_true,Nat.sub_zero,Nat.zero_mul,Nat.add_zero,ite_self]
  rfl
theorem Rd.cut{S:St}{v:AV}{l:List Nat}(h:Rd S v l)(n:Nat)(hn:n≤l.length):Rd S (mw v n) (l.take n):=by
 cases h with
 | sl l g hg=>
  show Rd S (.sl 1 ((l.map U).take n) (nP g (l.map U).length n)) (l.take n)
  rw[←List.map_take]
  exact .sl _ _ (agQ hg _ _)
 | ck d j off cap cs l hd hg hl hle hc=>
  have hln:(l.take n).length=n:=by simp;omega
  have:=Rd.ck (s:=S) d j off cap cs (l.take n) hd hg (by
   rw[hln]
   have h1:((cs.drop off).take l.length).take n=(l.map U).take n:=by rw[hl]
   rw[List.take_take,Nat.min_eq_left hn] at h1
   rw[h1,List.map_take]) (by omega) (by omega)
  rwa [hln] at this
theorem pH:∀(l:List Nat) (n:Nat) (cs:List AV),n=l.length→cs.take n=l.map U→chunk 1 n cs=l.map U
 | [],n,cs,hn,_=>by subst hn;rfl
 | x :: l,n,cs,hn,h=>by
  subst hn
  cases cs with
  | nil=>simp at h
  | cons c cs=>
   simp only[cP,List.take_succ_cons,List.map_cons,List.cons.injEq] at h
   simp only[cP,chunk,dT,bW]
   rw[pH l l.length cs rfl h.2,List.map_cons,h.1]
   rfl
def Fz(v:AV)(l:List Nat):Prop:=∃g,v= .sl 1 (l.map U) g∧∀a,g≠.bJ a
theorem Fz.rd{v:AV}{l:List Nat}(h:Fz v l)(s:St):Rd s v l:=by
 obtain⟨g,rfl,hg⟩:=h
 exact .sl l g (te.not hg _)
theorem Fz.nil:Fz (.sl 1 [] .nil) []:=⟨.nil,rfl,fun a e=>by cases e⟩
theorem Rd.same{s S:St}{v:AV}{l:List Nat}(h:Rd s v l)(hS:Child s S):Ab.freeze S v=some v:=by
 have xo:=hS.aa
 cases h with
 | sl l g hg=>
  show dE S _=_
  cases g with
  | bJ a=>
   obtain⟨x,i,rfl,hx⟩:=hg a rfl
   simp only[dE]
   rw[if_pos (by omega)]
  | _=>rfl
 | ck d j off cap cs l hd hg hl hle hc=>
  show dE S (.ck (.g d j) off l.length cap 1)=_
  simp only[dE]
  rw[if_neg (by omega),if_pos (by omega)]
theorem m6{S:St}{j off n cap:Nat}{cs:List AV}(l:List Nat)(hn:n=l.length)(hg:S.own[j]? =some (.cells cs))(hl:(cs.drop off).take l.length=l.map U)(hle:off+l.length≤cs.length):∃v',Ab.freeze S (.ck (.g S.aa j) off n cap 1)=some v'∧Fz v' l:=by
 subst hn
 refine⟨.sl 1 (l.map U) (if l.length=cap then .exact else .any),?_,_,rfl,fun a=>?_⟩
 ·show dE S (.ck (.g S.aa j) off l.length cap 1)=_
  simp only[dE,if_true,jW,hg]
  rw[pH l l.length (cs.drop off) rfl hl,gJ]
  rw[if_pos]
  simp only[Nat.mul_one,Bool.true_and,bD]
  exact⟨dy hle,rfl⟩
 ·split <;> (intro e;cases e)
theorem Rd.freeze{s S:St}{v:AV}{l:List Nat}(h:Rd S v l)(hS:Child s S):∃v',Ab.freeze S v=some v'∧Rd s v' l:=by
 have xo:=hS.aa
 cases h with
 | sl l g hg=>
  cases g with
  | bJ a=>
   obtain⟨x,i,rfl,hx⟩:=hg a rfl
   by_cases hxd:x < S.aa
   ·refine⟨.sl 1 (l.map U) (.bJ (.g x i)),?_, .sl l _ (fun a e=>⟨x,i,by cases e;rfl,by omega⟩)⟩
    show(if x < S.aa then some (AV.sl 1 (l.map U) (.bJ (.g x i))) else _)=_
    rw[if_pos hxd]
   ·refine⟨.sl 1 (l.map U) .any,?_, .sl l _ (fun a e=>by cases e)⟩
    show(if x < S.aa then _ else if AV.ba (l.map U)=true then some (AV.sl 1 (l.map U) .any) else none)=_
    rw[if_neg hxd,if_pos (gJ l)]
  | nil=>exact⟨_,rfl, .sl l _ (fun a e=>by cases e)⟩
  | exact=>exact⟨_,rfl, .sl l _ (fun a e=>by cases e)⟩
  | any=>exact⟨_,rfl, .sl l _ (fun a e=>by cases e)⟩
 | ck d j off cap cs l hd hg hl hle hc=>
  by_cases e:d=S.aa
  ·subst e
   have kH:S.own[j]? =some (.cells cs):=by simpa [St.get] using hg
   refine⟨.sl 1 (l.map U) (if l.length=cap then .exact else .any),?_, .sl l _ (fun a=>?_)⟩
   ·show dE S (.ck (.g S.aa j) off l.length cap 1)=_
    simp only[dE,if_true,jW,kH]
    rw[pH l l.length (cs.drop off) rfl hl,gJ]
    rw[if_pos]
    simp only[Nat.mul_one,Bool.true_and,bD]
    exact⟨dy hle,rfl⟩
   ·split <;> (intro e;cases e)
  ·have cM:d < S.aa:=by omega
   refine⟨.ck (.g d j) off l.length cap 1,?_, .ck d j off cap cs l (by omega) ?_ hl hle hc⟩
   ·show dE S (.ck (.g d j) off l.length cap 1)=_
    simp only[dE]
    rw[if_neg e,if_pos cM]
   ·simp only[St.get] at hg ⊢
    rw[if_neg e,if_pos cM,hS.up,hS.ro] at hg
    by_cases e1:d=s.aa
    ·rw[if_pos e1]
     have:S.aa - 1 - d=0:=by omega
     rw[this] at hg
     simpa using hg
    ·rw[if_neg e1,if_pos (by omega)]
     have:S.aa - 1 - d=(s.aa - 1 - d)+1:=by omega
     rw[this] at hg
     simpa using hg
theorem Rd.own{S:St}{j off n cap:Nat}{cs:List AV}(l:List Nat)(hn:n=l.length)(hg:S.own[j]? =some (.cells cs))(hl:(cs.drop off).take l.length=l.map U)(hle:off+l.length≤cs.length)(hc:l.length≤cap):Rd S (.ck (.g S.aa j) off n cap 1) l:=by
 subst hn
 exact .ck S.aa j off cap cs l (Nat.le_refl _) (by simpa [St.get] using hg) hl hle hc
def gj(S:St)(j:Nat)(l:List Nat):Prop:=S.own[j]? =some (.cells (l.map U))
def St.put(S:St)(j:Nat)(l:List Nat):St:={S with own:=S.own.set j (.cells (l.map U))}
theorem gj.put{S:St}{j:Nat}{l:List Nat}(h:gj S j l)(l':List Nat):gj (S.put j l') j l':=by
 have hj:=(bZ.1 h).1
 simp [gj,St.put,hj]
theorem Child.put{s S:St}(h:Child s S)(j:Nat)(l:List Nat):Child s (S.put j l):=⟨h.up,h.ro⟩
theorem gj.get{S:St}{j:Nat}{l:List Nat}(h:gj S j l)(i n cap:Nat)(hi:i < l.length)(hn:i < n)(k:K1):(PP T G X).aX S (fun v S=>(PP T G X).aq S k none v) 1 (.ck (.l j) 0 n cap 1) (.int .i64 (i:Int))=k (U (l.getD i 0)) S:=by
 rw[qA _ _ _ _ _ _ _ hn,IT h (c:=U (l.getD i 0)) (by simp [List.getD,hi])]
theorem gj.st{S:St}{j:Nat}{l:List Nat}(h:gj S j l)(i n cap x:Nat)(hi:i < l.length)(hn:i < n)(k:K1):(PP T G X).aX S (fun v S=>(PP T G X).a7 S k 1 v (U x)) 1 (.ck (.l j) 0 n cap 1) (.int .i64 (i:Int))=k .dead (S.put j (l.set i x)):=by
 rw[qA _ _ _ _ _ _ _ hn,pV]
 have oK:(U x).fF=true:=rfl
 simp only[iS,oK,AV.cells,cP,eh,Nat.zero_add,Nat.beq_refl,Bool.and_self,cond_true]
 unfold lG
 rw[show S.get (.l j)=some (.cells (l.map U)) from h]
 simp only[Nat.mul_one,cP,eh,Nat.zero_add,show Nat.ble (i+1) (l.map U).length=true from dy (by simp;omega),show S.iR (.l j) [U x]=true from by simp [St.iR,St.At],List.all_cons,show(U x).dU=true from rfl,List.all_nil,Bool.and_self,cond_true]
 show k .dead {S with own:=S.own.set j (.cells ((l.map U).set i (U x)))}=_
 rw[St.put,List.map_set]
theorem gj.make(S:St)(n:Nat):gj (S.new (.cells (List.replicate n (U 0)))) S.own.length (List.replicate n 0):=by
 simp [gj,St.new]
theorem gj.rd{S:St}{j:Nat}{l:List Nat}(h:gj S j l)(n cap:Nat)(hn:n≤l.length)(hc:n≤cap):Rd S (.ck (.g S.aa j) 0 n cap 1) (l.take n):=by
 refine Rd.own (l.take n) (by simp;omega) h ?_ (by simp;omega) (by simp;omega)
 simp [List.map_take]
theorem fX(d i o l c z:Nat):AV.av d (.ck (.l i) o l c z)= .ck (.g d i) o l c z:=rfl
theorem BP:∀l:List Nat,(l.map U).flatMap AV.cells=l.map U
 | []=>rfl
 | x :: l=>by simp only[List.map_cons,List.flatMap_cons,BP l];rfl
theorem BQ:∀l:List Nat,(l.map U).all AV.dU=true
 | []=>rfl
 | x :: l=>by simp only[List.map_cons,List.all_cons,BQ l,Bool.and_true];rfl
theorem Rd.nD{S:St}{v:AV}{l:List Nat}(h:Rd S v l):dl S v=some (1,l.map U):=by
 cases h with
 | sl l g hg=>
  cases g with
  | bJ a=>simp only[dl,gJ,if_true]
  | _=>rfl
 | ck d j off cap cs l hd hg hl hle hc=>
  simp only[dl,hg]
  rw[pH l l.length (cs.drop off) rfl hl,gJ]
  rw[if_pos]
  simp only[Nat.mul_one,Bool.true_and,bD]
  exact⟨dy hle,rfl⟩
theorem MW(vs cs:List AV)(h:vs.length≤cs.length):di cs 0 vs=vs ++ cs.drop vs.length:=by
 apply List.ext_getElem?
 intro j
 rw[iK _ _ _ (by omega)]
 by_cases hj:j < vs.length
 ·rw[if_pos (by omega),eZ hj];rfl
 ·rw[if_neg (by omega),List.getElem?_append_right (by omega),List.getElem?_drop]
  congr 1;omega
theorem gj.copy{S:St}{v:AV}{l l0:List Nat}{j n:Nat}(h:gj S j l0)(hv:Rd S v l)(hl:l.length≤l0.length)(hn:n=l0.length)(k:K1):(PP T G X).yf S k 1 (.ck (.l j) 0 n n 1) v=k (.int .i64 (l.length:Int)) (S.put j (l ++ l0.drop l.length)):=by
 subst hn
 show pf _ S k 1 (.ck (.l j) 0 l0.length l0.length 1) v=_
 unfold pf
 simp only[Nat.beq_refl,cond_true]
 unfold copyV
 simp only[hv.nD,show S.get (.l j)=some (.cells (l0.map U)) from h,cw,Nat.min_eq_left hl,Nat.beq_refl,Bool.true_and,Nat.zero_add,Nat.mul_one,dy (Nat.le_refl _)]
 rw[show(l.map U).take l.length=l.map U from List.take_of_length_le (by simp),BP,BQ]
 simp only[cond_true]
 rw[MW _ _ (by simpa using hl)]
 simp only[cw]
 show k _ {S with own:=S.own.set j (.cells (l.map U ++ (l0.map U).drop l.length))}=_
 rw[←List.map_drop,←List.map_append]
 rfl
theorem se{S:St}{j n:Nat}{cs vs:List AV}(h:S.own[j]? =some (.cells cs))(h1:vs.length=n)(h2:cs.length=n)(h3:vs.all AV.dU=true):(PP T G X).a7 S k n (.ref (.l j) 0) (.agg vs)=k .dead {S with own:=S.own.set j (.cells vs)}:=by
 rw[pV]
 unfold iS
 simp only[AV.fF,AV.cells,h1,Nat.beq_refl,Bool.and_self,cond_true]
 unfold lG
 rw[show S.get (.l j)=some (.cells cs) from h]
 have e:di cs 0 vs=vs:=BO _ _ (by omega)
 have e1:Nat.ble (0+vs.length) cs.length=true:=dy (by omega)
 have e2:S.iR (.l j) vs=true:=by simp [St.iR,St.At]
 simp only[e1,e2,h3,Bool.and_self,cond_true,e]
 rfl
theorem mM{S:St}{j n:Nat}{cs:List AV}(h:S.own[j]? =some (.cells cs))(hn:cs.length=n):gB S (.ref (.l j) 0) (some n)=some (.agg cs):=by
 unfold gB
 simp only[show S.get (.l j)=some (.cells cs) from h,Nat.zero_add,bW]
 rw[if_pos (dy (by omega)),List.take_of_length_le (by omega)]
theorem Fz.freeze{v:AV}{l:List Nat}(h:Fz v l)(S:St):Ab.freeze S v=some v:=by
 obtain⟨g,rfl,hg⟩:=h
 show dE S _=_
 cases g <;> first | rfl | exact absurd rfl (hg _)
theorem Fz.av{v:AV}{l:List Nat}(h:Fz v l)(d:Nat):v.av d=v:=(h.rd default).av d
theorem Fz.dE{v:AV}{l:List Nat}(h:Fz v l)(S:St):Ab.dE S v=some v:=by
 obtain⟨g,rfl,hg⟩:=h
 cases g <;> first | rfl | exact absurd rfl (hg _)
theorem Fz.bo{v:AV}{l:List Nat}(h:Fz v l):v.bo=true:=by
 obtain⟨g,rfl,hg⟩:=h
 cases g <;> first | rfl | exact absurd rfl (hg _)
theorem Fz.dU{v:AV}{l:List Nat}(h:Fz v l):v.dU=true:=by
 obtain⟨g,rfl,hg⟩:=h;rfl
theorem Fz.cut{v:AV}{l:List Nat}(h:Fz v l)(n:Nat):Fz (mw v n) (l.take n):=by
 obtain⟨g,rfl,hg⟩:=h
 exact⟨nP g (l.map U).length n,by simp [mw,List.map_take],EQ hg _ _⟩
theorem Fz.bs(l:List Nat):Fz (.sl 1 (l.map U) .exact) l:=⟨.exact,rfl,fun a e=>by cases e⟩
theorem agR{S:St}{j:Nat}{l:List Nat}(h:gj S j l):S.put j l=S:=by
 obtain⟨own,up,ro⟩:=S
 simp only[gj] at h
 simp only[St.put]
 congr 1
 apply List.ext_getElem?
 intro i
 by_cases e:j=i
 ·subst e
  rw[List.getElem?_set_self (bZ.1 h).1,h]
 ·rw[eM e]
theorem gj.Y7{S:St}{i j:Nat}{l:List Nat}(h:gj S j l)(cK:i≠j)(l':List Nat):gj (S.put i l') j l:=by
 simp only[gj,St.put] at h ⊢
 rw[eM cK];exact h
theorem gj.new{S:St}{j:Nat}{l:List Nat}(h:gj S j l)(o:bg):gj (S.new o) j l:=by
 simp only[gj,St.new] at h ⊢
 rw[eZ (bZ.1 h).1];exact h
theorem gj.lt{S:St}{j:Nat}{l:List Nat}(h:gj S j l):j < S.own.length:=(bZ.1 h).1
theorem lm(a:AV)(l:List AV):(PP T G X).bk s k 0 (.cS (a :: l))=k a s:=gP _ _ _ rfl
theorem lq(a b:AV)(l:List AV):(PP T G X).bk s k 1 (.cS (a :: b :: l))=k b s:=gP _ _ _ rfl
theorem AP(a b c:AV)(l:List AV):(PP T G X).bk s k 2 (.cS (a :: b :: c :: l))=k c s:=gP _ _ _ rfl
theorem oM(l:List Nat):(PP T G X).aF s k 1 (l.map U)=k (.sl 1 (l.map U) .exact) s:=by
 refine kB 1 _ (gJ l) ?_
 induction l with
 | nil=>rfl
 | cons x l ih=>simp only[List.map_cons,List.all_cons,ih,Bool.and_true];rfl
end Go.Ab
end
section
namespace Go.Ab
def ue:St:={own:=[],up:=[],ro:=[]}
def gC(w:World):bR:={F:=fun a=>if a.spot=none then w.cell? a else none,n:=fun _=>0,loc:=fun _ _=>0,tk:=fun _ _ _=>none}
theorem dk.init(w:World):dk (gC w) ue w:=by
 have tR:∀d i,ue.get (.g d i)=none:=by intro d i;simp [St.get,ue]
 refine⟨fun a v h=>?_,fun d l h=>?_,fun d i o h=>?_,fun d i o d' i' o' b h=>?_⟩
 ·simp only[gC] at h
  split at h
  ·rename_i hs;exact⟨hs,h⟩
  ·cases h
 ·unfold St.fr ue at h
  simp at h
  simp [h,gC]
 ·rw[tR] at h;cases h
 ·rw[tR] at h;cases h
structure Left (w w':World):Prop where
 size:w.heap.size≤w'.heap.size
 os:w'.os=w.os
 tape:w'.tape=w.tape
 output:w'.output=w.output
 pj:∀b,b < w.heap.size→w'.heap[b]? =w.heap[b]?
theorem iA.left{w w':World}{κ':bR}{s':St}(h:iA (gC w) ue w κ' s' w'):Left w w':=
 ⟨h.size,h.os,h.tape,h.output,fun b hb=>h.chg b hb (fun⟨d,i,o,hg,_⟩=>by simp [St.get,ue] at hg)⟩
section
variable{P:Program}(hm:P.follows .mixedOrders=true){T:TT}(hT:T.OK P){yb:Nat→Option bT}(IH:Uq P T yb){G:Nat→AV}{X:Nat→List AV→St→ax}(hX:XOK P yb G X)
include hm hT IH hX
theorem MX{n f:Nat}{args:List AV}{s':St}{w:World}{xs:List Value}(h:call .not yb G X n f args ue= .ok (.bool true) s')(hf:yb f≠none)(hG:nV (gC w) G)(hx:dS (gC w) 1 args xs):
  Calls P f xs.toArray w fun e w'=>e= .returned (.bool true)∧Left w w':=by
 have AI:∃fn,P.funcs[f]? =some fn∧fn.body.isSome=true∧(fn.name == "runtime.NumGoroutine")=false:=by
  cases ht:yb f with
  | none=>exact absurd ht hf
  | some lc=>
   obtain⟨fn,h1,h2⟩:=IH f lc ht
   unfold EA at h2
   cases hb:fn.body with
   | none=>rw[hb] at h2;cases h2
   | some c=>
    rw[hb] at h2
    simp only[bD,Bool.not_eq_true'] at h2
    exact⟨fn,h1,by simp [hb],h2.1.1.1.1⟩
 have JY:∀x w',qm (gC w) ue w (.bool true) s' x w'→x= .bool true∧Left w w':=fun x w' ⟨κ',h1,_,h3⟩=>by
  exact⟨VR.iO (b:=true) h3,h1.left⟩
 rcases(EC hm hT IH hX n 0).ok f args ue _ s' (gC w) w xs h (dk.init w) hG hx with⟨x,w',h1,h2⟩ | ⟨h1,h2⟩
 ·obtain⟨fn,q1,q2,q3⟩:=AI
  exfalso
  have q3':¬fn.name= "runtime.NumGoroutine" :=by simpa using q3
  cases hb:fn.body with
  | none=>rw[hb] at q2;cases q2
  | some c=>simp [callFunc,q1,q3',hb] at h1
 ·exact h2.mono fun e w' ⟨x,he,hA⟩=>by
   obtain⟨e1,e2⟩:=JY x w' hA
   exact⟨by rw[he,e1],e2⟩
end
inductive Sh where
 | bool | int (k:IntKind) | str | sl (e:Sh) | st (fs:List Sh)
mutual
def Sh.size:Sh→Nat
 | .st fs=>Sh.uf fs
 | _=>1
def Sh.uf:List Sh→Nat
 | []=>0
 | s :: ss=>s.size+Sh.uf ss
end
def elemV:List AV→AV
 | [c]=>c
 | cs=>.agg cs
section
variable{H:Type}
mutual
def il:Sh→DataW H→List AV
 | .bool,d=>match d with | .lit (.bool b)=>[.bool b] | _=>[]
 | .int k,d=>match d with | .lit (.int _ n)=>[.int k n] | _=>[]
 | .str,d=>match d with | .lit (.string bs)=>[.str (bs.map UInt8.toNat)] | _=>[]
 | .sl e,d=>match d with | .slice es _=>[.sl e.size (es.map fun x=>elemV (il e x)) .any] | _=>[.sl e.size [] .nil]
 | .st fs,d=>match d with | .agg ds=>tf fs ds | _=>[]
def tf:List Sh→List (DataW H)→List AV
 | [],_=>[]
 | s :: ss,l=>match l with | d :: ds=>il s d ++ tf ss ds | []=>[]
end
mutual
def jw:Sh→DataW H→Prop
 | .bool,d=>∃b,d= .lit (.bool b)
 | .int k,d=>∃n,d= .lit (.int k n)∧(Lit.int k n).wf=true
 | .str,d=>∃bs,d= .lit (.string bs)∧bs.length≤maxLen
 | .sl e,d=>d= .nil∨∃es rest,d= .slice es rest∧es.length+rest.length≤maxLen∧∀x,x∈es→jw e x
 | .st fs,d=>∃ds,d= .agg ds∧jf fs ds
def jf:List Sh→List (DataW H)→Prop
 | [],l=>l=[]
 | s :: ss,l=>∃d ds,l=d :: ds∧jw s d∧jf ss ds
end
mutual
def qC(P:Program):Sh→TypeId→Bool
 | .bool,t=>match P.underlying t with | some .bool=>true | _=>false
 | .int k,t=>match P.underlying t with | some (.int k')=>decide (k'=k) | _=>false
 | .str,t=>match P.underlying t with | some .string=>true | _=>false
 | .sl e,t=>match P.underlying t with | some (.slice u)=>qC P e u && Nat.beq (P.cellsOf u) e.size && Nat.blt 0 e.size | _=>false
 | .st fs,t=>match P.underlying t with | some (.struct fl)=>AQ P fs fl.toList 0 && Nat.beq (P.cellsOf t) (Sh.uf fs) | _=>false
def AQ(P:Program):List Sh→List Field→Nat→Bool
 | [],fl,_=>match fl with | []=>true | _=>false
 | s :: ss,fl,off=>match fl with | f :: fl=>Nat.beq f.offset off && Nat.beq (P.cellsOf f.type) s.size && qC P s f.type && AQ P ss fl (off+s.size) | []=>false
end
structure RD (κ:bR) (D:Nat) (n:Nat) (as:List AV) (cs:List Value):Prop where
 vr:dS κ D as cs
 len:cs.length=n
 ref:AV.ba as=true
 one:∀c,c∈as→c.cells=[c]
theorem RD.aiG{κ:bR}{D n:Nat}{as:List AV}{cs:List Value}(h:RD κ D n as cs):as.length=n:=by rw[←h.vr.1,h.len]
theorem RD.elem{κ:bR}{D n:Nat}{as:List AV}{cs:List Value}(h:RD κ D n as cs):(elemV as).cells=as∧(elemV as).bo=true:=by
 unfold elemV
 split
 ·rename_i c
  have:=h.ref
  simp only[AV.ba,Bool.and_true] at this
  exact⟨h.one c (by simp),this⟩
 ·exact⟨rfl,by simpa [AV.bo] using h.ref⟩
theorem yk:∀{a b:List AV},AV.ba a=true→AV.ba b=true→AV.ba (a ++ b)=true
 | [],b,_,h=>h
 | x :: a,b,h,k=>by
  simp only[AV.ba,bD] at h
  simp only[List.cons_append,AV.ba,h.1,yk h.2 k,Bool.and_self]
theorem RD.append{κ:bR}{D n m:Nat}{as bs:List AV}{cs ds:List Value}(h:RD κ D n as cs)(k:RD κ D m bs ds):RD κ D (n+m) (as ++ bs) (cs ++ ds):=
 ⟨h.vr.append k.vr,by simp [h.len,k.len],yk h.ref k.ref,fun c hc=>by
  rcases List.mem_append.1 hc with h1 | h1
  ·exact h.one c h1
  ·exact k.one c h1⟩
theorem RD.single{κ:bR}{D:Nat}{a:AV}{v:Value}(h:VR κ D a v)(hr:a.bo=true)(h1:a.cells=[a]):RD κ D 1 [a] [v]:=
 ⟨.cons h (.nil _ _),rfl,by simp [AV.ba,hr],fun c hc=>by simp only[List.mem_singleton] at hc;subst hc;exact h1⟩
variable{enc:TypeId×Value→H}{P:Program}{w:World}
mutual
theorem ug(D:Nat):∀(sh:Sh) (t:TypeId) (fuel:Nat) (cs:List Value) (d:DataW H) (ps:List MemPlace),qC P sh t=true→DataW.trod enc P w 0 (fun _=>true) true fuel t cs=some (d,ps)→
  RD (gC w) D sh.size (il sh d) cs∧jw sh d
 | .bool,t,fuel,cs,d,ps,hs,h=>by
  simp only[qC] at hs
  split at hs <;> try cases hs
  rename_i hu
  obtain⟨b,rfl,e⟩:=DataW.trod_bool hu h
  cases e
  exact⟨.single (.bool b) rfl rfl,by simp only[jw];exact⟨b,rfl⟩⟩
 | .int k,t,fuel,cs,d,ps,hs,h=>by
  simp only[qC] at hs
  split at hs <;> try cases hs
  rename_i k' hu
  have hk:k'=k:=of_decide_eq_true hs
  subst hk
  obtain⟨n,rfl,e,hw⟩:=DataW.trod_int hu h
  cases e
  exact⟨.single (.int k' n) rfl rfl,by simp only[jw];exact⟨n,rfl,hw⟩⟩
 | .str,t,fuel,cs,d,ps,hs,h=>by
  simp only[qC] at hs
  split at hs <;> try cases hs
  rename_i hu
  obtain⟨s,rfl,e,hw⟩:=DataW.trod_string hu h
  cases e
  exact⟨.single (.str _ s rfl) rfl rfl,by simp only[jw];exact⟨_,rfl,hw⟩⟩
 | .sl e,t,fuel,cs,d,ps,hs,h=>by
  simp only[qC] at hs
  split at hs <;> try cases hs
  rename_i u hu
  simp only[bD] at hs
  obtain⟨⟨hsu,dM⟩,kJ⟩:=hs
  have dM:=cQ dM
  have kJ:0 < e.size:=by simpa [Nat.blt_eq] using kJ
  rcases DataW.trod_slice hu h with⟨rfl,e1⟩ | ⟨a,len,cap,nD,rest,n,rfl,rfl,e1,_,CL,Bx,hlen,mH,hre,_⟩
  ·cases e1
   exact⟨.single (.nR _) rfl rfl,by simp only[jw];exact .inl trivial⟩
  ·cases e1
   have row:∀i,i < len→∃x r,nD[i]? =some x∧(∀j,j < e.size→w.cell? (a.add (i * e.size+j))=r[j]?)∧RD (gC w) D e.size (il e x.1) r∧jw e x.1:=fun i hi=>by
    have h1:=mH i hi
    obtain⟨x,hx⟩:∃x,nD[i]? =some x:=⟨_,d8 (by omega)⟩
    rw[hx] at h1
    obtain⟨r,hr,h2⟩:=Option.bind_eq_some_iff.1 h1
    obtain⟨_,jM,D8⟩:=World.cells?_some hr
    obtain⟨k1,k2⟩:=ug D e u n r x.1 x.2 hsu h2
    refine⟨x,r,hx,fun j hj=>?_,k1,k2⟩
    have:=D8 j (by omega)
    rw[add_add,dM] at this
    exact this
   have ayK:=(hre rfl).1
   have kj:∀y,y∈nD→∃r,RD (gC w) D e.size (il e y.1) r∧jw e y.1:=fun y hy=>by
    obtain⟨i,hi,hy⟩:=List.getElem_of_mem hy
    obtain⟨x,r,hx,_,k1,k2⟩:=row i (by omega)
    have:x=y:=by rw[d8 hi,hy] at hx;exact(Option.some.inj hx).symm
    subst this
    exact⟨r,k1,k2⟩
   have Y8:∀y,y∈(nD.map (·.1)).map (fun x=>elemV (il e x))→y.cells.length=e.size∧y.bo=true:=fun y hy=>by
    simp only[List.map_map,List.mem_map,Function.comp] at hy
    obtain⟨z,hz,rfl⟩:=hy
    obtain⟨r,k1,_⟩:=kj z hz
    exact⟨by rw[k1.elem.1,k1.aiG],k1.elem.2⟩
   have HJ:((nD.map (·.1)).map (fun x=>elemV (il e x))).length=len:=by simp [hlen]
   have aiH:=eU ((nD.map (·.1)).map (fun x=>elemV (il e x))) e.size (fun y hy=>(Y8 y hy).1)
   rw[HJ] at aiH
   have cell:∀j,j < len * e.size→∃c v,(((nD.map (·.1)).map (fun x=>elemV (il e x))).flatMap AV.cells)[j]? =some c∧w.cell? (a.add j)=some v∧VR (gC w) D c v:=fun j hj=>by
    have hq:j / e.size < len:=Nat.div_lt_of_lt_mul (by rw[Nat.mul_comm];exact hj)
    have jm:j % e.size < e.size:=Nat.mod_lt _ kJ
    have Md:j / e.size * e.size+j % e.size=j:=by rw[Nat.mul_comm];exact Nat.div_add_mod j e.size
    obtain⟨x,r,hx,hc,k1,_⟩:=row _ hq
    have hc:=hc _ jm
    rw[Md] at hc
    have e1:((nD.map (·.1)).map (fun x=>elemV (il e x)))[j / e.size]? =some (elemV (il e x.1)):=by simp [hx]
    have f1:=rO _ e.size _ _ (fun y hy=>(Y8 y hy).1) e1 _ jm
    rw[Md,k1.elem.1] at f1
    obtain⟨c,hcc⟩:∃c,(il e x.1)[j % e.size]? =some c:=⟨_,d8 (by rw[k1.aiG];exact jm)⟩
    obtain⟨v,hv,MY⟩:=k1.vr.get hcc
    exact⟨c,v,by rw[f1,hcc],by rw[hc,hv],MY⟩
   have aiI:0 < len→a.spot=none:=fun h0=>by
    obtain⟨c,v,_,hv,_⟩:=cell 0 (Nat.mul_pos h0 kJ)
    have:a.add 0=a:=by simp [Addr.add]
    rw[this] at hv
    exact World.cell?_spot hv
   refine⟨.single ?_ (by simp [AV.bo]) rfl,?_⟩
   ·have key:VR (gC w) D (.sl e.size ((nD.map (·.1)).map (fun x=>elemV (il e x))) .any) (.slice (some a) ((nD.map (·.1)).map (fun x=>elemV (il e x))).length cap):=by
     refine .sl e.size _ .any a cap (fun j=>(w.cell? (a.add j)).getD undef) trivial (by rw[HJ];exact CL) (fun cK=>aiI ?_) (fun y hy=>(Y8 y hy).1) (.inl fun y hy=>(Y8 y hy).2) (fun j hj=>?_) (fun j c hc=>?_)
     ·rw[←HJ];exact List.length_pos_iff.2 cK
     ·rw[aiH] at hj
      obtain⟨c,v,_,hv,_⟩:=cell j hj
      have h0:0 < len:=Nat.pos_of_ne_zero fun e0=>by rw[e0] at hj;simp at hj
      simp only[gC,qc (aiI h0),if_true,hv,Option.getD_some]
     ·have hj:j < len * e.size:=by rw[←aiH];exact(bZ.1 hc).1
      obtain⟨c',v,nT,hv,MY⟩:=cell j hj
      rw[hc] at nT
      cases nT
      simp only[hv,Option.getD_some]
      exact MY
    rw[HJ] at key
    exact key
   ·simp only[jw]
    refine .inr ⟨_,_,rfl,by simp [hlen,ayK];omega,fun x hx=>?_⟩
    simp only[List.mem_map] at hx
    obtain⟨y,hy,rfl⟩:=hx
    exact(kj y hy).choose_spec.2
 | .st fs,t,fuel,cs,d,ps,hs,h=>by
  simp only[qC] at hs
  split at hs <;> try cases hs
  rename_i fl hu
  simp only[bD] at hs
  have dM:=cQ hs.2
  obtain⟨xs,n,rfl,e1,hl,gY,hf⟩:=DataW.trod_struct hu h
  cases e1
  have:=yn D fs fl.toList 0 n cs xs hs.1 (by simpa using gY) (by rw[hl,dM];omega) (fun i f hi=>by simpa using hf i f (by simpa using hi))
  refine⟨?_,?_⟩
  ·simpa [il,Sh.size] using this.1
  ·simp only[jw];exact⟨_,rfl,this.2⟩
theorem yn(D:Nat):∀(ss:List Sh) (fl:List Field) (off n:Nat) (cs:List Value) (xs:List (DataW H×List MemPlace)),AQ P ss fl off=true→xs.length=fl.length→cs.length=off+Sh.uf ss→
  (∀(i:Nat) (f:Field),fl[i]? =some f→DataW.trod enc P w 0 (fun _=>true) true n f.type ((cs.drop f.offset).take (P.cellsOf f.type))=xs[i]?)→
  RD (gC w) D (Sh.uf ss) (tf ss (xs.map (·.1))) (cs.drop off)∧jf ss (xs.map (·.1))
 | [],fl,off,n,cs,xs,hs,hx,hl,hf=>by
  cases fl with
  | cons f fl=>simp [AQ] at hs
  | nil=>
   obtain rfl:xs=[]:=List.eq_nil_of_length_eq_zero (by simpa using hx)
   simp only[Sh.uf,Nat.add_zero] at hl
   rw[List.drop_of_length_le (by omega)]
   exact⟨⟨.nil _ _,rfl,rfl,fun c hc=>by simp [tf] at hc⟩,by simp [jf]⟩
 | s :: ss,fl,off,n,cs,xs,hs,hx,hl,hf=>by
  cases fl with
  | nil=>simp [AQ] at hs
  | cons f fl=>
   simp only[AQ,bD] at hs
   obtain⟨⟨⟨h1,h2⟩,h3⟩,h4⟩:=hs
   have h1:=cQ h1
   have h2:=cQ h2
   cases xs with
   | nil=>simp at hx
   | cons x xs=>
    have g0:=hf 0 f rfl
    simp only[List.getElem?_cons_zero] at g0
    rw[h1,h2] at g0
    obtain⟨k1,k2⟩:=ug D s f.type n _ x.1 x.2 h3 g0
    simp only[Sh.uf] at hl
    obtain⟨m1,m2⟩:=yn D ss fl (off+s.size) n cs xs h4 (by simpa using hx) (by omega) (fun i f' hi=>by simpa using hf (i+1) f' (by simpa using hi))
    refine⟨?_,?_⟩
    ·have e1:cs.drop off=(cs.drop off).take s.size ++ cs.drop (off+s.size):=by
      rw[←List.drop_drop];exact(List.take_append_drop _ _).symm
     rw[e1]
     simpa [tf,Sh.uf] using k1.append m1
    ·simp only[List.map_cons,jf]
     exact⟨_,_,rfl,k2,m2⟩
end
end
end Go.Ab
end
section
namespace Go.Ab
open Go.ChangeShapes Go.WideShapes
section
variable{H:Type}{enc:TypeId×Value→H}{P:Program}
def MZ:Sh→DataW H→AV
 | .st fs,d=>.agg (il (.st fs) d)
 | sh,d=>(il sh d).headD .dead
theorem Uz{W:World}(D:Nat){sh:Sh}{t:TypeId}{v:Value}{d:DataW H}{ps:List MemPlace}{base:Nat}(hs:qC P sh t=true)(hv:Value.okWide P W .any base t v)(h:DataW.Trod enc P W 0 (fun _=>true) true t v d ps):
  VR (gC W) D (MZ sh d) v∧jw sh d:=by
 obtain⟨fuel,h⟩:=h
 obtain⟨h1,h2⟩:=ug D sh t fuel _ d ps hs h
 refine⟨?_,h2⟩
 have single:sh.size=1→(∀cs,v≠.agg cs)→VR (gC W) D ((il sh d).headD .dead) v:=fun hz cK=>by
  have hc:v.cells.toList=[v]:=by
   cases v <;> try rfl
   exact absurd rfl (cK _)
  rw[hc] at h1
  have ya:=h1.aiG
  rw[hz] at ya
  match hq:il sh d,ya with
  | [c],_=>
   obtain⟨x,hx,hr⟩:=h1.vr.get (j:=0) (c:=c) (by rw[hq];rfl)
   cases hx
   exact hr
 cases sh with
 | st fs=>
  simp only[qC] at hs
  split at hs <;> try cases hs
  rename_i fl hu
  unfold Value.okWide at hv
  rw[hu] at hv
  obtain⟨cs,rfl,_,_⟩:=hv
  exact .agg _ cs.toList h1.vr.1 h1.vr.2
 | bool=>
  refine single rfl fun cs e=>?_
  subst e
  simp only[qC] at hs
  split at hs <;> try cases hs
  rename_i hu
  simp [Value.okWide,hu,Cell.okWide,Cell.ok] at hv
 | int k=>
  refine single rfl fun cs e=>?_
  subst e
  simp only[qC] at hs
  split at hs <;> try cases hs
  rename_i hu
  simp [Value.okWide,hu,Cell.okWide,Cell.ok] at hv
 | str=>
  refine single rfl fun cs e=>?_
  subst e
  simp only[qC] at hs
  split at hs <;> try cases hs
  rename_i hu
  simp [Value.okWide,hu,Cell.okWide,Cell.ok] at hv
 | sl e=>
  refine single rfl fun cs e=>?_
  subst e
  simp only[qC] at hs
  split at hs <;> try cases hs
  rename_i hu
  simp [Value.okWide,hu,Cell.okWide,Cell.ok] at hv
def aiJ:List Sh→List (DataW H)→List AV
 | s :: ss,d :: ds=>MZ s d :: aiJ ss ds
 | _,_=>[]
def ER(P:Program):List Sh→List TypeId→Bool
 | [],[]=>true
 | s :: ss,t :: ts=>qC P s t && ER P ss ts
 | _,_=>false
theorem BR{W:World}(D:Nat){base:Nat}:∀(shs:List Sh) (ts:List TypeId) (vs:List Value) (ds:List (DataW H)) (ps:List MemPlace),ER P shs ts=true→(∀(j:Nat) t v,ts[j]? =some t→vs[j]? =some v→Value.okWide P W .any base t v)→
  DataW.TrodAll enc P W 0 (fun _=>true) true ts vs ds ps→dS (gC W) D (aiJ shs ds) vs∧jf shs ds
 | [],[],vs,ds,ps,_,_,h=>by
  cases vs with
  | cons v vs=>simp [DataW.TrodAll] at h
  | nil=>
   cases ds with
   | cons d ds=>simp [DataW.TrodAll] at h
   | nil=>exact⟨.nil _ _,by simp [jf]⟩
 | s :: ss,[],_,_,_,hs,_,_=>by simp [ER] at hs
 | [],t :: ts,_,_,_,hs,_,_=>by simp [ER] at hs
 | s :: ss,t :: ts,vs,ds,ps,hs,hv,h=>by
  cases vs with
  | nil=>cases ds <;> simp [DataW.TrodAll] at h
  | cons v vs=>
   cases ds with
   | nil=>simp [DataW.TrodAll] at h
   | cons d ds=>
    simp only[DataW.TrodAll] at h
    obtain⟨p,q,h1,h2,_⟩:=h
    simp only[ER,bD] at hs
    obtain⟨k1,k2⟩:=Uz D hs.1 (hv 0 t v rfl rfl) h1
    obtain⟨m1,m2⟩:=BR D ss ts vs ds q hs.2 (fun j t' v' ht xr=>hv (j+1) t' v' (by simpa using ht) (by simpa using xr)) h2
    refine⟨.cons k1 m1,?_⟩
    simp only[jf]
    exact⟨_,_,rfl,k2,m2⟩
theorem Left.sameAt{W W':World}(h:Left W W'){p:MemPlace}(hp:p.block < W.heap.size):W.sameAt W' p:=by
 cases p with
 | cell b off=>
  show W'.cell? _=W.cell? _
  unfold World.cell?
  simp only[h.pj b hp]
 | map b=>exact h.pj b hp
theorem IW{W W':World}(hl:laidOutB P=true)(hL:Left W W'):∀(ts:List TypeId) (vs:List Value) (ds:List (DataW H)) (ps:List MemPlace),(∀t,t∈ts→P.readableRec t=true∧t < P.types.size)→(∀p,p∈ps→p.block < W.heap.size)→
  DataW.TrodAll enc P W 0 (fun _=>true) true ts vs ds ps→DataW.TrodAll enc P W' 0 (fun b=>decide (b < W.heap.size)) true ts vs ds ps
 | [],vs,ds,ps,_,_,h=>by
  cases vs <;> cases ds <;> simp only[DataW.TrodAll] at h ⊢
  exact h
 | t :: ts,vs,ds,ps,ht,hp,h=>by
  cases vs with
  | nil=>cases ds <;> simp [DataW.TrodAll] at h
  | cons v vs=>
   cases ds with
   | nil=>simp [DataW.TrodAll] at h
   | cons d ds=>
    simp only[DataW.TrodAll] at h ⊢
    obtain⟨p,q,h1,h2,rfl⟩:=h
    have hr:=ht t (by simp)
    exact⟨p,q,WideElems.Trod_stays hl hr.1 hr.2 h1 (fun x hx=>hL.sameAt (hp x (by simp [hx]))) (fun x hx=>by simpa using hp x (by simp [hx])),
     IW hl hL ts vs ds q (fun t' h'=>ht t' (by simp [h'])) (fun x hx=>hp x (by simp [hx])) h2,rfl⟩
theorem Left.keptBut{W W':World}(h:Left W W')(may:MemPlace→Prop):W.keptBut W' may:=by
 refine⟨h.os,h.output,fun i hi=>?_⟩
 rw[h.pj i hi]
 have:∃o,W.heap[i]? =some o:=⟨_,Array.getElem?_eq_getElem hi⟩
 obtain⟨o,ho⟩:=this
 rw[ho]
 cases o <;> simp
theorem UA{f:Func}{s:ChangeSpec}{W W':World}{args:Array Value}{ds gs:List (DataW H)}{before:List MemPlace}(hW:DataW.Whole enc P f.params.toList s.vars false W args.toList ds gs before)(hv:s.vars=[])
  (hf:∀(l:List (DataW H)),l.length=f.params.size→s.fn H l= {results:=[.lit (.bool true)],args:=l,vars:=[]}){tb:TypeId}(hrt:f.resultTypes= #[tb])(htb:P.underlying tb=some .bool)(hl:laidOutB P=true)
  (hps:∀t,t∈f.params.toList→P.readableRec t=true∧t < P.types.size)(hL:Left W W'):s.post enc P f false true false false W args (.bool true) W':=by
 have hW':=hW
 have cM:=hW.lt
 obtain⟨p,q,hA,hV,rfl,_,_⟩:=hW
 rw[hv] at hV
 have hV':gs=[]∧q=[]:=by cases gs <;> simp [DataW.TrodVars] at hV;exact⟨rfl,hV⟩
 obtain⟨rfl,rfl⟩:=hV'
 have hlen:∀(ts:List TypeId) (vs:List Value) (ds:List (DataW H)) (ps:List MemPlace),DataW.TrodAll enc P W 0 (fun _=>true) true ts vs ds ps→ds.length=ts.length:=by
  intro ts
  induction ts with
  | nil=>intro vs ds ps h;cases vs <;> cases ds <;> simp [DataW.TrodAll] at h ⊢
  | cons t ts ih=>
   intro vs ds ps h
   cases vs <;> cases ds <;> simp only[DataW.TrodAll] at h
   obtain⟨_,_,_,h2,_⟩:=h
   simp [ih _ _ _ h2]
 have AI:=hf (ds ++ []) (by simpa using hlen _ _ _ _ hA)
 refine⟨ds,[],p ++ [],[],p,[],hW',?_,?_,?_,hL.keptBut _,fun h=>by cases h⟩
 ·rw[AI,hrt]
  exact⟨[],[],⟨1,by simp [DataW.trod,Value.cells,htb]⟩,rfl,rfl⟩
 ·rw[AI]
  simp only[List.append_nil] at cM ⊢
  exact IW hl hL _ _ _ _ hps cM hA
 ·rw[AI,hv]
  rfl
end
end Go.Ab
end
section
namespace Go.Ab
def aD2:Value→AV
 | .bool b=>.bool b
 | .int k n=>.int k n
 | .string _=>.str []
 | .pointer _=>.iz
 | .slice _ _ _=>.sl 0 [] .nil
 | .map _=>.dI
 | .nilFunc=>.fR
 | .nilIface=>.fa
 | _=>.dead
noncomputable def axJ(P:Program):TT:={dt:=fun t=>P.underlying t,info:=fun t=>(P.info? t).bind fun i=>i.zero.map fun z=>(i.size,i.bytes,z),az:=fun t=>match (P.info? t).bind (·.zero) with | some z=>z.cells.toList.map aD2 | none=>[],eqs:=fun t=> !P.stoodInHeld t && !P.eqGuardType P.depth t}
theorem aiK{o:Option TypeInfo}{n b:Nat}{z:Value}(h:(o.bind fun i=>i.zero.map fun z=>(i.size,i.bytes,z))=some (n,b,z)):∃i,o=some i∧i.size=n∧i.bytes=b∧i.zero=some z:=by
 obtain⟨i,hi,h⟩:=Option.bind_eq_some_iff.1 h
 obtain⟨z',hz,h⟩:=Option.map_eq_some_iff.1 h
 cases h
 exact⟨i,hi,rfl,rfl,hz⟩
theorem aiL(P:Program):(axJ P).OK P where
 dt:=fun _ _ h=>h
 info:=fun t _ _ _ h=>aiK (o:=P.info? t) h
 eqs:=fun t h=>by
  have h':(!P.stoodInHeld t && !P.eqGuardType P.depth t)=true:=h
  simpa using h'
end Go.Ab
end
