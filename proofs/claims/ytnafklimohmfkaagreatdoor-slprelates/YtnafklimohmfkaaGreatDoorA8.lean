/- A part of the proof: no condition. -/
import Derived.Test.YtnafklimohmfkaaGreatDoorA7
set_option linter.unusedSectionVars false
namespace Go.h6
open Go.Ab Go.hd
variable(G:Nat→ai)(X:Nat→List ai→aq→ao)
def di(k:Int):List Int:=
 if k=1 then[1,1] else if k=2 then[1,0] else if k=3∨k=4 then[2,2] else if k=5∨k=8 then[1,1,1,1] else if k=6 then[1,1,1] else if k=7 then[2,2,2] else[]
def jg(l:List aO)(k:Int)(args:List Int):Int:=
 if dy l≠0 then dy l else if(di k).length=0∨(di k).length≠args.length then 102 else if gE l (di k) args=true then 0 else 102
def okW(r:ao)(w:List Int):Bool:=
 match r with
 |.ok (.aW 1 a g) _=>ai.lp a (w.map I)&&(ai.aW 1 a g).bp
 |_=>false
theorem aqm{r:ao}{w:List Int}(h:okW r w=true):∃g s',r=.ok (dx w g) s'∧(dx w g).bp=true:=by
 unfold okW at h;split at h
 ·rename_i a g s';simp only[bL] at h;obtain⟨aD,bz⟩:=h;have bU:=(ai.iV _ _).1 aD;subst bU;exact⟨g,s',rfl,bz⟩
 ·cases h
theorem j6(f:Nat)(k:Int)(h:okW (call .not au G X 60 f [I k] {own:=[],up:=[],ro:=[]}) (di k)=true):∃g s',az au G X f [I k] {own:=[],up:=[],ro:=[]}=.ok (dx (di k) g) s'∧(dx (di k) g).bp=true:=by obtain⟨g,s',aD,aG⟩:=aqm h;exact⟨g,s',lC _ _ _ (by intro e;cases e) aD,aG⟩
theorem aqn:okW (call .not au G X 60 102 [I 1] {own:=[],up:=[],ro:=[]}) (di 1)=true:=by kernel_rfl
theorem aqo:okW (call .not au G X 60 102 [I 2] {own:=[],up:=[],ro:=[]}) (di 2)=true:=by kernel_rfl
theorem aqp:okW (call .not au G X 60 102 [I 3] {own:=[],up:=[],ro:=[]}) (di 3)=true:=by kernel_rfl
theorem aqq:okW (call .not au G X 60 102 [I 4] {own:=[],up:=[],ro:=[]}) (di 4)=true:=by kernel_rfl
theorem aqr:okW (call .not au G X 60 102 [I 5] {own:=[],up:=[],ro:=[]}) (di 5)=true:=by kernel_rfl
theorem aqs:okW (call .not au G X 60 102 [I 6] {own:=[],up:=[],ro:=[]}) (di 6)=true:=by kernel_rfl
theorem aqt:okW (call .not au G X 60 102 [I 7] {own:=[],up:=[],ro:=[]}) (di 7)=true:=by kernel_rfl
theorem aqu:okW (call .not au G X 60 102 [I 8] {own:=[],up:=[],ro:=[]}) (di 8)=true:=by kernel_rfl
theorem aqv:okW (call .not au G X 60 105 [I 1] {own:=[],up:=[],ro:=[]}) (di 1)=true:=by kernel_rfl
theorem aqw:okW (call .not au G X 60 105 [I 2] {own:=[],up:=[],ro:=[]}) (di 2)=true:=by kernel_rfl
theorem aqx:okW (call .not au G X 60 105 [I 3] {own:=[],up:=[],ro:=[]}) (di 3)=true:=by kernel_rfl
theorem aqy:okW (call .not au G X 60 105 [I 4] {own:=[],up:=[],ro:=[]}) (di 4)=true:=by kernel_rfl
theorem aqz:okW (call .not au G X 60 105 [I 5] {own:=[],up:=[],ro:=[]}) (di 5)=true:=by kernel_rfl
theorem aqA:okW (call .not au G X 60 105 [I 6] {own:=[],up:=[],ro:=[]}) (di 6)=true:=by kernel_rfl
theorem aqB:okW (call .not au G X 60 105 [I 7] {own:=[],up:=[],ro:=[]}) (di 7)=true:=by kernel_rfl
theorem aqC:okW (call .not au G X 60 105 [I 8] {own:=[],up:=[],ro:=[]}) (di 8)=true:=by kernel_rfl
theorem aiX(k:Int):∃g s',az au G X 102 [I k] {own:=[],up:=[],ro:=[]}=.ok (dx (di k) g) s'∧(dx (di k) g).bp=true:=by
 by_cases aD:k=1
 ·subst aD;exact j6 G X 102 1 (aqn G X)
 by_cases aG:k=2
 ·subst aG;exact j6 G X 102 2 (aqo G X)
 by_cases bz:k=3
 ·subst bz;exact j6 G X 102 3 (aqp G X)
 by_cases cz:k=4
 ·subst cz;exact j6 G X 102 4 (aqq G X)
 by_cases u:k=5
 ·subst u;exact j6 G X 102 5 (aqr G X)
 by_cases h:k=6
 ·subst h;exact j6 G X 102 6 (aqs G X)
 by_cases r:k=7
 ·subst r;exact j6 G X 102 7 (aqt G X)
 by_cases y:k=8
 ·subst y;exact j6 G X 102 8 (aqu G X)
 have e:di k=[]:=by unfold di;rw[if_neg aD,if_neg aG,if_neg (by omega),if_neg (by omega),if_neg h,if_neg r]
 rw[e];refine⟨.nil,{own:=[],up:=[],ro:=[]},?_,rfl⟩;rw[QK,ahB];simp only[bi,LD,LC,LB,aM aD,aM aG,aM bz,aM cz,aM u,aM h,aM r,aM y,bc];exact gV (Child.af _) _ _ rfl
theorem aiY(k:Int):∃g s',az au G X 105 [I k] {own:=[],up:=[],ro:=[]}=.ok (dx (di k) g) s'∧(dx (di k) g).bp=true:=by
 by_cases aD:k=1
 ·subst aD;exact j6 G X 105 1 (aqv G X)
 by_cases aG:k=2
 ·subst aG;exact j6 G X 105 2 (aqw G X)
 by_cases bz:k=3
 ·subst bz;exact j6 G X 105 3 (aqx G X)
 by_cases cz:k=4
 ·subst cz;exact j6 G X 105 4 (aqy G X)
 by_cases u:k=5
 ·subst u;exact j6 G X 105 5 (aqz G X)
 by_cases h:k=6
 ·subst h;exact j6 G X 105 6 (aqA G X)
 by_cases r:k=7
 ·subst r;exact j6 G X 105 7 (aqB G X)
 by_cases y:k=8
 ·subst y;exact j6 G X 105 8 (aqC G X)
 have e:di k=[]:=by unfold di;rw[if_neg aD,if_neg aG,if_neg (by omega),if_neg (by omega),if_neg h,if_neg r]
 rw[e];refine⟨.nil,{own:=[],up:=[],ro:=[]},?_,rfl⟩;rw[QL,ahC];simp only[bi,LH,LG,LF,aM aD,aM aG,aM bz,aM cz,aM u,aM h,aM r,aM y,bc];exact gV (Child.af _) _ _ rfl
section
variable(l:List aO)(g:cd)(bD:∀a,g≠.bQ a)(br:l.length<9223372036854775806)(b6:∀o,o∈l→mh o)(k:Int)(args:List Int)(g0:cd)(jw:args.length<9223372036854775807)(s:aq)
include bD br b6 jw
theorem RA(ws:List Int)(e:cd)(V:ws.length=args.length):∀n i:Nat,i+n=args.length→
  xU (aH au G X) (bP l g) (dx ws e) (dx args g0) (.int .i64 (args.length:Int)) (.int .i64 (i:Int)) s.af=.ok (I (if gE l (ws.drop i) (args.drop i)=true then 0 else 102)) s:=by
 intro n
 induction n with
 |zero=>intro i bk;rw[AB,be,aM (by omega),bc,Pt,hl (by omega),hl (by omega)];exact b1 _ _
 |succ n B=>
  intro i bk;have r:i<args.length:=by omega
  have u:i<ws.length:=by omega
  have H:(args.map I)[i]? =some (I args[i]):=by simp [r]
  have J:(ws.map I)[i]? =some (I ws[i]):=by simp [u]
  have K:∀k:a1,(aH au G X).aZ s.af k 1 (dx args g0) (.int .i64 (i:Int))=k (.bM [I args[i]]) s.af:=fun k=>iw (T:=au) (G:=G) (X:=X) (s:=s.af) (k:=k) 1 _ g0 .i64 i _ H
  have L:∀k:a1,(aH au G X).aZ s.af k 1 (dx ws e) (.int .i64 (i:Int))=k (.bM [I ws[i]]) s.af:=fun k=>iw (T:=au) (G:=G) (X:=X) (s:=s.af) (k:=k) 1 _ e .i64 i _ J
  have M:=fun S k=>fJ G X S k i (by omega)
  have fin:=fun n=>b1 (T:=au) (G:=G) (X:=X) (s:=s) .i64 n
  rw[AB,be,a7 (by omega),ba,Ps,K,bu,be,gl r,gl u,gE];unfold n9;by_cases aD:args[i]<0
  ·have aG:¬(0≤args[i]∧args[i]<(l.length:Int)):=by omega
   simp only[a7 aD,ej,cR,ba,fin,aM aG,c1,co,if_false]
  ·by_cases aG:(l.length:Int)≤args[i]
   ·have bz:¬(0≤args[i]∧args[i]<(l.length:Int)):=by omega
    simp only[aM aD,de,df,bg,b2,fG,a7 aG,ej,cR,ba,fin,aM bz,c1,co,if_false]
   ·have bz:0≤args[i]∧args[i]<(l.length:Int):=by omega
    have h:args[i].toNat<l.length:=by omega
    have N:(l.map aO.enc)[args[i].toNat]? =some l[args[i].toNat].enc:=by simp [h]
    have O:l[args[i].toNat]? =some l[args[i].toNat]:=dM h;have ip:=fun(k:a1)=>xi (T:=au) (G:=G) (X:=X) (s:=s.af) (k:=k) 12 _ g .i64 args[i] _ bz.1 N
    have hV:l[args[i].toNat]∈l:=h4 h;generalize Y:l[args[i].toNat]=o at *;have NL:=E5 G X o {own:=[],up:=[],ro:=[]};have Q:ai.bj [o.enc]=true:=by simp only[ai.bj,(b6 o hV).bp,eD]
    have y3:=L9 G X ws[i] (dg o.op) s.af;have y:=fun(k:a1)=>ed (T:=au) (G:=G) (X:=X) (s:=s.af) (k:=k) 12 o.cs (aX 12)
    rw[xY] at y;have R:∀k:a1,(aH au G X).aj s.af k (some 12) (.bM o.enc.cells)=k o.enc s.af:=y;have U:∀d,ai.ak d o.enc=o.enc:=fun d=>rfl
    simp only[aM aD,de,df,bg,b2,fG,aM aG,L,bu];rw[ip,R,U,k7 Q NL rfl,cy,cy,aK y3,eY];simp only[O,a7 bz,cG];cases Z:acc ws[i] (dg o.op) with
    |false=>simp only[eC,ba,fin,c1,co,if_false]
    |true=>simp only[eV,bc,cG,Pr,M];exact B (i+1) (by omega)
theorem aqD:az au G X 62 [bP l g,.agg [I k,dx args g0]] s=.ok (I (jg l k args)) s:=by
 have aU:=du l bD s.af.aa;have c:=x0 G X l g bD s.af br b6;obtain⟨e,s',h,r⟩:=aiX G X k;have fin:=fun n=>b1 (T:=au) (G:=G) (X:=X) (s:=s) .i64 n
 rw[aaL,apF,bx,aU];refine(aK c).trans ?_;rw[dC];unfold jg;by_cases cL:dy l=0
 ·rw[aM (by simp [cL]),bc,if_neg (by simp [cL]),Pv,c3,bT,bu];refine(k7 rfl h r).trans ?_;rw[bg,b2,bi];by_cases aD:(di k).length=0
  ·rw[if_pos (.inl aD)];simp only[a7 (show((di k).length:Int)=0 by omega),ej,cR,ba,fin]
  ·by_cases aG:(di k).length=args.length
   ·rw[if_neg (by omega)];have aQ:=RA G X l g bD br b6 args g0 jw s (di k) e aG args.length 0 (by omega);simp only[aM (show¬((di k).length:Int)=0 by omega),de,df,bg,b2,c3,dt,bT,bu,dC,aM (show¬¬((di k).length:Int)=(args.length:Int) by omega),bc,Pu];exact aQ
   ·rw[if_pos (.inr aG)];simp only[aM (show¬((di k).length:Int)=0 by omega),de,df,bg,b2,c3,dt,bT,bu,dC,a7 (show¬((di k).length:Int)=(args.length:Int) by omega),ba,fin]
 ·rw[a7 cL,ba,if_pos cL];exact fin _
theorem RB(B:∀o,o∈l→dg o.op≠0)(ws:List Int)(e:cd)(V:ws.length=args.length):∀n i:Nat,i+n=args.length→
  xV (aH au G X) (bP l g) (.bM [I k,dx args g0]) (dx ws e) (.int .i64 (i:Int)) s.af=.ok (I (if gE l (ws.drop i) (args.drop i)=true then 0 else 102)) s:=by
 have r:(ws.map I).length=ws.length:=b2 ..;intro n
 induction n with
 |zero=>intro i bk;rw[AC,bg,r,be,aM (by omega),bc,Py,hl (by omega),hl (by omega)];exact b1 _ _
 |succ n H=>
  intro i bk;have u:i<args.length:=by omega
  have y:i<ws.length:=by omega
  have J:(args.map I)[i]? =some (I args[i]):=by simp [u]
  have L:(ws.map I)[i]? =some (I ws[i]):=by simp [y]
  have M:∀k:a1,(aH au G X).aZ s.af k 1 (dx args g0) (.int .i64 (i:Int))=k (.bM [I args[i]]) s.af:=fun k=>iw (T:=au) (G:=G) (X:=X) (s:=s.af) (k:=k) 1 _ g0 .i64 i _ J
  have N:∀k:a1,(aH au G X).aZ s.af k 1 (dx ws e) (.int .i64 (i:Int))=k (.bM [I ws[i]]) s.af:=fun k=>iw (T:=au) (G:=G) (X:=X) (s:=s.af) (k:=k) 1 _ e .i64 i _ L
  have O:=fun S k=>fJ G X S k i (by omega)
  have fin:=fun n=>b1 (T:=au) (G:=G) (X:=X) (s:=s) .i64 n
  rw[AC,bg,r,be,a7 (by omega),ba,Px,c3,dt,bT,bu,M,bu,be,gl u,gl y,gE];unfold n9;by_cases aD:args[i]<0
  ·have aG:¬(0≤args[i]∧args[i]<(l.length:Int)):=by omega
   simp only[a7 aD,ej,cR,ba,fin,aM aG,c1,co,if_false]
  ·by_cases aG:(l.length:Int)≤args[i]
   ·have bz:¬(0≤args[i]∧args[i]<(l.length:Int)):=by omega
    simp only[aM aD,de,df,bg,b2,fG,a7 aG,ej,cR,ba,fin,aM bz,c1,co,if_false]
   ·have bz:0≤args[i]∧args[i]<(l.length:Int):=by omega
    have h:args[i].toNat<l.length:=by omega
    have Q:(l.map aO.enc)[args[i].toNat]? =some l[args[i].toNat].enc:=by simp [h]
    have R:l[args[i].toNat]? =some l[args[i].toNat]:=dM h;have ip:=fun(k:a1)=>xi (T:=au) (G:=G) (X:=X) (s:=s.af) (k:=k) 12 _ g .i64 args[i] _ bz.1 Q
    have hV:l[args[i].toNat]∈l:=h4 h;generalize Y:l[args[i].toNat]=o at *;have NM:=E4 G X o.op {own:=[],up:=[],ro:=[]};have Gl:=Zz G X (dg o.op) ws[i] s.af (uz _) (fun _=>B o hV);have U:∀K:a1,(aH au G X).aj s.af K none (.bM (o.enc.cells.drop 1))=K (I o.op) s.af:=fun K=>rfl
    simp only[aM aD,de,df,bg,b2,fG,aM aG];rw[ip,c3,U,cy,k7 rfl NM rfl];rw[N,bu,cy,cy,aK Gl,eY];simp only[R,a7 bz,cG];cases Z:acc ws[i] (dg o.op) with
    |false=>simp only[eC,ba,fin,c1,co,if_false]
    |true=>simp only[eV,bc,cG,Pw,O];exact H (i+1) (by omega)
theorem aqE:az au G X 64 [bP l g,.agg [I k,dx args g0]] s=.ok (I (jg l k args)) s:=by
 have aU:=du l bD s.af.aa;have c:=x1 G X l g bD s.af br b6;obtain⟨e,s',h,r⟩:=aiY G X k;have fin:=fun n=>b1 (T:=au) (G:=G) (X:=X) (s:=s) .i64 n
 rw[aaM,apG,bx,aU];refine(aK c).trans ?_;rw[dC];unfold jg;by_cases cL:dy l=0
 ·have u:∀o,o∈l→dg o.op≠0:=uG (rest:=[]) (by simp) (mX cL).1;rw[aM (by simp [cL]),bc,if_neg (by simp [cL]),PA,c3,bT,bu];refine(k7 rfl h r).trans ?_;rw[bg,b2,bi];by_cases aD:(di k).length=0
  ·rw[if_pos (.inl aD)];simp only[a7 (show((di k).length:Int)=0 by omega),ej,cR,ba,fin]
  ·by_cases aG:(di k).length=args.length
   ·rw[if_neg (by omega)];have aQ:=RB G X l g bD br b6 k args g0 jw s u (di k) e aG args.length 0 (by omega);simp only[aM (show¬((di k).length:Int)=0 by omega),de,df,bg,b2,c3,dt,bT,bu,dC,aM (show¬¬(args.length:Int)=((di k).length:Int) by omega),bc,Pz];exact aQ
   ·rw[if_pos (.inr aG)];simp only[aM (show¬((di k).length:Int)=0 by omega),de,df,bg,b2,c3,dt,bT,bu,dC,a7 (show¬(args.length:Int)=((di k).length:Int) by omega),ba,fin]
 ·rw[a7 cL,ba,if_pos cL];exact fin _
end
def vv(l:List aO)(k:Int)(args:List Int):List Nat:=ds (decide (k=7)) (args.map (eT l))
def nV(l:List aO)(args:List Int):Bool:=decide (args.length=2)&&decide ((args.map (eT l))[1]? =some 3)
def mn(A:cj):cj:={A with env:=[],dj:=0,e5:=A.dj}
def oP(l:List aO)(k:Int)(args:List Int)(A:cj):cj:={mn A with env:=qw (vv l k args) ((a4 A.aF args).map Prod.fst)}
def lo(l:List aO)(k:Int)(args:List Int)(A:cj):cj×List Int:=dS (lj k.toNat (nV l args)) (cC (mb k.toNat) (oP l k args A))
structure FI (l:List aO) (k:Int) (args:List Int) (A:cj):Prop where
 gw:1≤k
 hj:k≤8
 Dj:args.length≤4
 awd:∀a∈args,0≤a∧a<(l.length:Int)∧a.toNat<A.aF.length
 qJ:∀v∈A.aF,∀a,v.2≠.bQ a
 t4:∀t∈args.map (eT l),t=1∨t=2∨t=3
 fit:∀p∈(a4 A.aF args).zip (vv l k args),p.1.1.length≤(hy p.2).length
 len:∀v∈A.aF,v.1.length≤7
 ins:A.ins.length+1000<1000000000
 roots:A.roots.length+100<1000000000
 dj:0≤A.dj
theorem RC(k:Int):(di k).length≤4∧((di k).length≠0→1≤k∧k≤8):=by
 unfold di;split
 ·simp;omega
 ·split
  ·simp;omega
  ·split
   ·simp;omega
   ·split
    ·simp;omega
    ·split
     ·simp;omega
     ·split
      ·simp;omega
      ·simp
theorem aqF:di 7=[2,2,2]:=by decide
theorem wY(pre:List aO):∀(ws as:List Int),ws.length=as.length→gE pre ws as=true→∀(i:Nat) (a:Int),as[i]? =some a→∃w,ws[i]? =some w∧n9 pre w a=true
 |[],[],_,_,i,a,h=>by simp at h
 |w::ws,b::as,br,h,i,a,e=>by
  rw[gE,bL] at h;cases i with
  |zero=>injection e with e;subst e;exact⟨w,rfl,h.1⟩
  |succ i=>exact wY pre ws as (by simpa using br) h.2 i a e
theorem vw{l:List aO}{k:Int}{args:List Int}(cL:dy l=0)(aQ:jg l k args=0):FI l k args (gM l):=by
 have r:=CY cL;obtain⟨hw,ac⟩:=mX cL;unfold jg at aQ;rw[if_neg (by simp [cL])] at aQ;by_cases a9:(di k).length=0∨(di k).length≠args.length
 ·rw[if_pos a9] at aQ;cases aQ
 rw[if_neg a9] at aQ;have b6:gE l (di k) args=true:=by
  by_cases h:gE l (di k) args=true
  ·exact h
  ·rw[if_neg h] at aQ;cases aQ
 have hlen:(di k).length=args.length:=by omega
 obtain⟨ad,R⟩:=RC k;obtain⟨gw,hj⟩:=R (by omega);have M:∀o,o∈l→dg o.op≠0:=uG (rest:=[]) (by simp) hw;have J:∀(i:Nat) (a:Int),args[i]? =some a→∃w,(di k)[i]? =some w∧0≤a∧a<(l.length:Int)∧∃o,l[a.toNat]? =some o∧o∈l∧eT l a=(dg o.op).toNat∧acc w (dg o.op)=true:=by
  intro i a e;obtain⟨w,U,u⟩:=wY l _ _ hlen b6 i a e;unfold n9 at u;simp only[bL,ij] at u;obtain⟨⟨ml,y⟩,N⟩:=u;have B:a.toNat<l.length:=by omega
  rw[dM B] at N;exact⟨w,U,ml,y,l[a.toNat],dM B,h4 B,by unfold eT;simp [List.getD,B],N⟩
 have iq:∀o∈l,(dg o.op).toNat=1∨(dg o.op).toNat=2∨(dg o.op).toNat=3:=fun o V=>by
  have aD:=M o V;rcases l9 o.op with h|h|h|h
  ·exact absurd h aD
  ·rw[h];exact .inl rfl
  ·rw[h];exact .inr (.inl rfl)
  ·rw[h];exact .inr (.inr rfl)
 have Y:∀v∈(gM l).aF,v.1.length≤7:=fun v bG=>by
  obtain⟨i,bk⟩:=List.getElem?_of_mem bG;have O:=(bZ.1 bk).1;rw[r.MW] at O
  have:=r.len i l[i] v (dM O) bk;rw[this];unfold nU;split<;> omega
 refine⟨gw,hj,by omega,fun a e=>?_,r.qJ,fun t cB=>?_,fun p aU=>?_,Y,by have:=r.ins;omega,by have:=r.roots;omega,r.CV⟩
 ·obtain⟨i,bk⟩:=List.getElem?_of_mem e;obtain⟨w,_,ml,y,_⟩:=J i a bk;exact⟨ml,y,by rw[r.MW];omega⟩
 ·simp only[List.mem_map] at cB;obtain⟨a,e,rfl⟩:=cB;obtain⟨i,bk⟩:=List.getElem?_of_mem e;obtain⟨w,_,_,_,o,_,H,K,_⟩:=J i a bk;rw[K];exact iq o H
 ·obtain⟨i,bk⟩:=List.getElem?_of_mem aU;rw[List.getElem?_zip_eq_some] at bk;obtain⟨aD,aG⟩:=bk;unfold a4 at aD;rw[fw] at aD;cases e:args[i]? with
  |none=>rw[e] at aD;cases aD
  |some a=>
   rw[e] at aD;injection aD with aD
   obtain⟨w,Q,ml,y,o,Z,H,K,I⟩:=J i a e;have bz:a.toNat<(gM l).aF.length:=by rw[r.MW];omega
   have bG:(gM l).aF.getD a.toNat ([],.nil)=(gM l).aF[a.toNat]:=by simp [List.getD,bz]
   have aa:=r.len a.toNat o _ Z (dM bz);have ab:(gM l).aF.getD a.toNat ([],.nil)=p.1:=aD;rw[←ab,bG,aa];have cB:(args.map (eT l))[i]? =some (eT l a):=by rw[fw,e];rfl
   unfold vv ds at aG;by_cases L:k=7
   ·rw[if_pos (by simp [L])] at aG;rw[fw,cB] at aG;injection aG with aG
    rw[←aG];rw[L,aqF] at Q;have u:w=2:=by
     match i,Q with
     |0,h=>injection h with h;exact h.symm
     |1,h=>injection h with h;exact h.symm
     |2,h=>injection h with h;exact h.symm
     |n+3,h=>simp at h
    subst u
    have:dg o.op=2:=by
     rcases l9 o.op with h|h|h|h
     ·exact absurd h (M o H)
     ·rw[h] at I;exact absurd I (by decide)
     ·exact h
     ·rw[h] at I;exact absurd I (by decide)
    rw[this];show nU 2≤(hy 1).length;decide
   ·rw[if_neg (by simp [L])] at aG;rw[cB] at aG;injection aG with aG
    rw[←aG,K,CU _ (iq o H)];exact aX _
section
variable(l:List aO)(g:cd)(bD:∀a,g≠.bQ a)(br:l.length<9223372036854775806)(b6:∀o,o∈l→mh o)(od:dy l=0)
include bD br b6 od
theorem RD{A:cj}{i7:Nat}{e5:Int}{ck cm b5:cd}(args:List Int)(g0:cd)(y v4 v10:ai)(F0:List bd)(S0:aq)(cp:F0[i7]? =some (.cells (km e5 A.ins ck A.aF cm A.roots b5)))(u9:∀v∈A.aF,∀a,v.2≠.bQ a)(jw:args.length<100)(H:∀a∈args,0≤a∧a<(l.length:Int)∧a.toNat<A.aF.length):
  ∀(rest pre:List Int) (F:List bd) (jb:cd) (tv:ai),args=pre++rest→jX F0 F S0 jb (a4 A.aF pre).length tv (pre.map (eT l))→
  ∃dD r u,xR (aH au G X) (bP l g) y v4 (.ref (.l i7) 0) v10 (.aW 1 ((a4 A.aF pre).map bA) jb) tv (dx args g0) (In args.length) (In pre.length) {S0 with own:=F}=xQ (aH au G X) y v4 v10 (.aW 1 ((a4 A.aF args).map bA) r) u {S0 with own:=dD}∧jX F0 dD S0 r (a4 A.aF args).length u (args.map (eT l)):=by
 intro rest
 induction rest with
 |nil=>intro pre F jb tv aU h;rw[gf] at aU;subst aU;refine⟨F,jb,tv,?_,h⟩;rw[Az,be,aM (by omega),bc]
 |cons a rest J=>
  intro pre F jb tv aU h;obtain⟨K,ad,L⟩:=H a (by rw[aU];simp);obtain⟨n,rfl⟩:=Int.eq_ofNat_of_zero_le K;have ae:pre.length<args.length:=by rw[aU];simp
  have g1:(args.map I)[pre.length]? =some (I (n:Int)):=by rw[aU];simp
  have i1:=fun S k=>ic G X S k 1 (args.map I) g0 .i64 pre.length _ g1
  have M:=fun S k=>show(aH au G X).aj S k none (.bM (ai.cells (I (n:Int))))=k (I (n:Int)) S from rfl
  have bX:n<A.aF.length:=by simpa using L
  have g2:(A.aF.map bA)[n]? =some (bA (A.aF[n])):=by simp [bX]
  have i2:=fun S k=>ic G X S k 1 (A.aF.map bA) cm .i64 n _ g2
  have N:=fun S k=>show(aH au G X).aj S k none (.bM (ai.cells (bA (A.aF[n]))))=k (bA (A.aF[n])) S from rfl
  have O:=fun S k=>fJ G X S k pre.length (by omega)
  have Q:fS l (n:Int)=0:=by unfold fS;rw[if_neg (by simp [od]),if_neg (by omega)]
  have c:=ZQ G X l g bD br b6 (n:Int) {S0 with own:=F};rw[if_pos Q] at c;have R:=fun(k:a1)=>ii G X (S:={S0 with own:=F}) (k:=k) (i:=i7) (o:=0+2) (c:=.aW 1 (A.aF.map bA) cm) (h.e.bf i7 _ cp) rfl
  have hi:(a4 A.aF pre).length=pre.length:=by simp [a4]
  obtain⟨af,r,U,u,aG,V,Y⟩:=jX.app G X h (A.aF[n]) (u9 _ (h4 bX)) (eT l (n:Int)) (by simp;omega) (by omega);have B:a4 A.aF (pre++[(n:Int)])=a4 A.aF pre++[A.aF[n]]:=by simp [a4,List.getD,bX]
  obtain⟨Z,aa,t3,ab,bz⟩:=J (pre++[(n:Int)]) U r u (by rw[aU];simp) (by rw[B,dm,List.map_append];exact aG);refine⟨Z,aa,t3,?_,bz⟩;have ac:I (dg (l.getD (n:Int).toNat default).op)=In (eT l (n:Int)):=by unfold eT;rw[In,po]
  rw[ac] at c;rw[Az,be,a7 (by omega),ba,Pg,i1,M,du l bD];refine(aK c).trans ?_;rw[hv,hx,aA,R,i2,N,qY G X _ (u9 _ (h4 bX))];refine(V _).trans ?_;rw[l8];refine(Y _).trans ?_;rw[Pf,O,←ab,B,dm];rfl
end
def vx(A:cj):ai:=vq A.e5 A.ins (eR A.ins) A.aF (eR A.aF) A.roots (eR A.roots)
def wZ(l:List aO)(k:Int)(args:List Int):ai:=if jg l k args=0 then vx (lo l k args (gM l)).1 else .agg cl
def w0(l:List aO)(k:Int)(args:List Int):ai:=if jg l k args=0 then dx (lo l k args (gM l)).2 (eR (lo l k args (gM l)).2) else .aW 1 [] .nil
theorem oQ{s S:aq}(h:Child s S)(v1 v2 e r u y:ai)(bU:Ab.freeze S v1=some r)(B:Ab.freeze S v2=some u)(H:Ab.freeze S e=some y):(aH au G X).aB false [some v1,some v2,some e] S=.ok (.cT [r,u,y]) s:=by obtain⟨aD,aG⟩:=h;show oy false [some v1,some v2,some e] S=_;unfold oy;simp only[ha,hk,eU,cond_false,bU,B,H,q7,aD,aG]
theorem uL{F:List bd}{S:aq}{A:cj}{ck cm b5:cd}(e:ct F S.aa ck A.ins.length)(h:ct F S.aa cm A.aF.length)(r:ct F S.aa b5 A.roots.length)(bG:∀v∈A.aF,∀a,v.2≠.bQ a):
  Ab.freeze S (.agg [I A.e5,.aW 3 (A.ins.map fR.enc) ck,.aW 1 (A.aF.map bA) cm,dx A.roots b5])=some (vx A):=by
 have f1:=Bh (S:=S) (F:=F) (sz:=3) (es:=A.ins.map fR.enc) (g:=ck) (by rw[b2];exact e) (CX _);have f2:=Bh (S:=S) (F:=F) (sz:=1) (es:=A.aF.map bA) (g:=cm) (by rw[b2];exact h) (nw _ bG);have f3:=Bh (S:=S) (F:=F) (sz:=1) (es:=A.roots.map I) (g:=b5) (by rw[b2];exact r) (lf _);rw[mW] at f1 f2 f3;show(ha (dT S) [I A.e5,.aW 3 (A.ins.map fR.enc) ck,.aW 1 (A.aF.map bA) cm,.aW 1 (A.roots.map I) b5]).map ai.agg=_;simp only[ha,f1,f2,f3,hk,eU,show dT S (I A.e5)=some (I A.e5) from rfl];rfl
section
variable{l:List aO}{g:cd}{A:cj}{k:Int}{args:List Int}{S0:aq}{j i4:Nat}{ck cm b5:cd}
theorem rP:(lo l k args A).1.aF=A.aF:=by have e:=nx (lj k.toNat (nV l args)) (cC (mb k.toNat) (oP l k args A));have d1:=gv (mb k.toNat) (oP l k args A);exact e.1.trans d1.1
theorem avf{F0 F:List bd}{jb:cd}{awv:Nat}{tv:ai}{ts:List Nat}(h:jX F0 F S0 jb awv tv ts)(K:a1):(aH au G X).aY {S0 with own:=F} (fun u s=>(aH au G X).ah s (fun e s=>(aH au G X).ae e true (fun k=>k tv s) s (fun y s=>(aH au G X).ae e true (fun k=>(aH au G X).aZ s k 1 y (.int .i64 1)) s (fun B s=>(aH au G X).ae e true (fun k=>(aH au G X).aj s k none B) s (fun H s=>(aH au G X).ae e true (fun k=>(aH au G X).ah s k (al .eql H (.int .i64 3))) s (fun I s=>(aH au G X).a2 s K e I (.bool false)))))) (al .eql u (.int .i64 2))) false tv=K (.bool (decide (ts.length=2)&&decide (ts[1]? =some 3))) {S0 with own:=F}:=by
 rw[nv.len G X h.t,bi];by_cases aG:ts.length=2
 ·rcases h.t with⟨bU,J⟩|⟨t,bU,L,N,O⟩
  ·rw[J] at aG;cases aG
  ·obtain⟨t0,t1,r⟩:∃t0 t1,ts=[t0,t1]:=by
    match ts,aG with
    |[a,b],_=>exact⟨a,b,rfl⟩
   have M:=fun(k:a1)=>uF G X (S:={S0 with own:=F}) (k:=k) (a:=.l t) (kk:=.i64) ts.length 0 1 (by omega)
   have eQ:=fun(k:a1)=>ii G X (S:={S0 with own:=F}) (k:=k) (i:=t) (o:=1) (c:=In t1) L (by rw[r];rfl)
   rw[a7 (by omega),bU];simp only[dP];refine(M _).trans ?_;rw[eQ,bi,cR,a7 aG,cG,r];congr 2;simp;omega
 ·rw[aM (by omega),aM aG,c1];simp only[fh,df]
theorem RE(aT:FI l k args A)(g0:cd)(F0 F:List bd)(cz:F0[i4]? =some (.cells cl))(V:i4≠j)(Y:iy F0 S0.aa j (mn A) .c4 ck cm b5){s:aq}(Z:Child s S0)(jb:cd)(tv:ai)(h:jX F0 F S0 jb (a4 A.aF args).length tv (args.map (eT l))):
  xQ (aH au G X) (.bM [I k,dx args g0]) (.ref (.l i4) 0) (.ref (.l j) 0) (.aW 1 ((a4 A.aF args).map bA) jb) tv {S0 with own:=F}=.ok (.cT [vx (lo l k args A).1,dx (lo l k args A).2 (eR (lo l k args A).2),I 0]) s:=by
 have aN:=aT.gw;have aO:=aT.hj
 let S:aq:={S0 with own:=F}
 let d:=S0.aa
 have inf:fi S d:=⟨by have:=S0.lG;show S0.ro.length≤S0.aa;omega,aX _⟩;have H:S.cA d=F:=gY S;have aj:iy (S.cA d) d j (mn A) .c4 ck cm b5:=by rw[H];exact iy.ext Y h.e
 have al:=(bZ.1 Y.c).1;have am:=(bZ.1 cz).1;have jw:=aT.Dj;obtain⟨u,an,bU,ab,ac,ao,aP,ap⟩:=ZO G X inf aj (tv:=tv.ak d) (ts:=args.map (eT l)) (by rw[H];exact nv.ak h.t d) (nv.pw h.t d al) (a4 A.aF args) (jb.ak d) (decide (k=7)) (by simp;omega) (fun t cB=>by have:=aT.t4 t cB;omega) (by simp [a4]) aT.fit;rw[H] at ac ao;have ar:S.bH d u= {S0 with own:=u}:=lI S0 F u;rw[ar] at bU ab;obtain⟨n,rfl⟩:=Int.eq_ofNat_of_zero_le (show 0≤k by omega);have K:1≤n:=by omega
 have L:n≤8:=by omega
 let c:=nV l args
 obtain⟨g1,g2,s',f63,av⟩:=aql G X n c K L;obtain⟨aw,ax⟩:=qB n c K L;obtain⟨aQ,aR,ad,aS,ay,az,aV⟩:=uK n c K L
 let A1:=oP l (n:Int) args A
 have aC:dv A1 (e1 (mb n)) (j5 n).length:=⟨by show A.ins.length+_<_;have:=aT.ins;omega,by show A.roots.length+_<_;have:=aT.roots;omega,Int.le_refl 0,by show(0:Int)+_<_;omega⟩;have aD:(cC (mb n) A1).ins.length+j4 (lj n c)<1000000000:=by
  have:=(gv (mb n) A1).2.2.2.2;rw[this];show A.ins.length+_+_<_
  have:=aT.ins;omega
 have M:mI d j an cm b5 {S0 with own:=u} A1 ck:=ab;obtain⟨s2,aE,aG,N,O,ae⟩:=ZJ G X 400 (j5 n) (h8 n c) (mb n) (lj n c) g1 g2 aw ax (by omega) (by omega) (fun p aU=>by have:=(ay p aU).1;omega) (fun p aU=>by have:=az p aU;omega) M aC aD;obtain⟨r,rfl⟩:=ae.ez;have af:({S0 with own:=u}:aq).bH d r= {S0 with own:=r}:=lI S0 u r;rw[af] at N O;have Ck:=ae.Ck;have R:({S0 with own:=u}:aq).cA d=u:=gY {S0 with own:=u};have ag:({S0 with own:=r}:aq).cA d=r:=gY {S0 with own:=r};rw[af,R,ag] at Ck;have aI:dS (lj n c) (cC (mb n) A1)=lo l (n:Int) args A:=rfl;rw[aI] at N O;have B:=O.as;rw[ag] at B;have U:u[i4]? =some (.cells cl):=ac i4 _ (h.e.bf i4 _ cz) V (nv.pw h.t d am);have ah:r[i4]? =some (.cells cl):=by
  refine Ck.bf i4 _ U V (fun e=>?_) (fun e=>?_) (fun e=>ap i4 (by rw[H];have:=h.e.len;omega) e)
  ·have:=M.as.Bj;rw[R] at this;have:=(ct.le (e ▸ this)).1;rw[U] at this;cases this
  ·have:=M.as.wr;rw[R] at this;have:=(ct.le (e ▸ this)).1;rw[U] at this;cases this
 let Q:=lo l (n:Int) args A
 let J:List ai:=[I Q.1.e5,.aW 3 (Q.1.ins.map fR.enc) aE,.aW 1 (Q.1.aF.map bA) cm,dx Q.1.roots aG]
 have aJ:=fun(k:a1)=>ma G X (S:={S0 with own:=r}) (k:=k) (i:=j) (n:=4) B.c (by simp [cj.cells])
 have aK:=fun(k:a1)=>ix (T:=au) (G:=G) (X:=X) (S:={S0 with own:=r}) (k:=k) (j:=i4) (n:=4) (cs:=cl) (vs:=J) ah rfl rfl rfl
 let y:=r.set i4 (.cells J)
 have ad:y[i4]? =some (.cells J):=by have:=(bZ.1 ah).1;simp [y,this]
 have aL:=ht (S:={S0 with own:=y}) (n:=4) ad rfl;have C4:Ab.freeze {S0 with own:=y} (.agg J)=some (vx Q.1):=uL (F:=r) B.Bj B.Q1 B.wr (by rw[rP];exact aT.qJ);have aM:Child s {S0 with own:=y}:=⟨Z.up,Z.ro⟩;have Z9:(decide ((args.map (eT l)).length=2)&&decide ((args.map (eT l))[1]? =some 3))=c:=by rw[b2];rfl
 rw[Ph];refine(avf G X h _).trans ?_;rw[Z9,c3,bT,bu,bi];refine(dc bU (by rfl)).trans ?_;rw[c3,bT,bu];refine(k7 (T:=au) (by rfl) f63 av).trans ?_;refine(dc N (by rfl)).trans ?_;rw[a3,aA];refine(aJ _).trans ?_;refine(aK _).trans ?_;show(aH au G X).aB false [eF {S0 with own:=y} (.ref (.l i4) 0) (some 4),some (dx Q.2 (eR Q.2)),some (.int .i64 0)] {S0 with own:=y}=_;rw[aL];exact oQ G X aM _ _ (I 0) _ _ (I 0) C4 (vf (qz _) _ _ _) rfl
end
section
variable(l:List aO)(g:cd)(bD:∀a,g≠.bQ a)(br:l.length<9223372036854775806)(b6:∀o,o∈l→mh o)(k:Int)(args:List Int)(g0:cd)(jw:args.length<9223372036854775807)(s:aq)
include bD br b6 jw
theorem aqG:az au G X 35 [bP l g,.agg [I k,dx args g0]] s=.ok (.cT [wZ l k args,w0 l k args,I (jg l k args)]) s:=by
 let y:aq:=s.af.new (.cells cl)
 have aU:=fun d=>du l bD d
 have K:∀(S:aq) (k:a1),(aH au G X).cH [.int .i64 0,.aW 3 [] .nil,.aW 1 [] .nil,.aW 1 [] .nil] [] S k=k (.agg cl) S:=fun S k=>rfl
 rw[aaJ,apD,bx,gI,aU];by_cases cL:dy l=0
 ·obtain⟨dD,ck,cm,b5,bU,T,kp,aj⟩:=aiT G X l g bD br b6 y cL
  let A:=gM l
  let u:aq:={y with own:=dD}
  let r:aq:=u.new (.cells (km A.dj A.ins ck A.aF cm A.roots b5))
  have B:=fun(k:a1)=>kx (T:=au) (G:=G) (X:=X) (s:=u) (k:=k) 4 (km A.dj A.ins ck A.aF cm A.roots b5) cl rfl rfl rfl
  have cz:dD[0]? =some (.cells cl):=kp 0 _ rfl;have N:=(bZ.1 cz).1;have DS:=aqD G X l g bD br b6 k args g0 jw r;refine(dc bU rfl).trans ?_;rw[hv,hx,gI];refine(B _).trans ?_;rw[dC,aM (by simp),bc,Pk,ed _ _ (by simp)];refine(aK (by rw[aU];exact DS)).trans ?_;rw[dC];unfold wZ w0;by_cases aQ:jg l k args=0
  ·have aT:=vw cL aQ;rw[aM (by simp [aQ]),bc,if_pos aQ,if_pos aQ,aQ,Pj];have O:r.own[u.own.length]? =some (.cells (km A.dj A.ins ck A.aF cm A.roots b5)):=by
    show(u.own++[_])[u.own.length]? =_;simp
   have Q:=fun(k:a1)=>ma G X (S:=r) (k:=k) (n:=4) O (by simp)
   refine(Q _).trans ?_
   let F0:List bd:=r.own++[.cells ((mn A).cells .c4 ck cm b5)]
   let j:=r.own.length
   have R:∀k:a1,(aH au G X).cH [.int .i64 0,.aW 3 [] .nil,.aW 1 [] .nil,.aW 1 [] .nil,.c4,.int .i64 0] [(0,4,.agg ((km A.dj A.ins ck A.aF cm A.roots b5).take 4))] r k=k (.agg ((mn A).cells .c4 ck cm b5)) r:=fun k=>rfl
   have U:∀k:a1,(aH au G X).hO (.agg ((mn A).cells .c4 ck cm b5)) r k=k (.ref (.l j) 0) {r with own:=F0}:=fun k=>by rw[qG _ rfl];rfl
   refine(R _).trans ?_;refine(U _).trans ?_;rw[c3,dt,bT,bu,bg,b2];have ak:r.own=dD++[.cells (km A.dj A.ins ck A.aF cm A.roots b5)]:=rfl;have up:∀(i:Nat) (o:bd),dD[i]? =some o→F0[i]? =some o:=fun i o L=>by have V:=(bZ.1 L).1;show(dD++[_]++[_])[i]? =_;rw[jY,ev V];exact L
   have H:∀{g':cd} {n:Nat},ct dD y.aa g' n→ct F0 y.aa g' n:=fun h=>ct.bf h (fun t e=>by have cB:=(ct.le (e ▸ h)).1;rw[cB];exact up t _ cB)
   have Y:F0[j]? =some (.cells ((mn A).cells .c4 ck cm b5)):=by simp [F0,j]
   have Z:iy F0 r.aa j (mn A) .c4 ck cm b5:=⟨Y,H (T.b5 0 _ rfl),H (T.b5 1 _ rfl),H (T.b5 2 _ rfl),T.pw 0 1 _ _ (by decide) rfl rfl,T.pw 0 2 _ _ (by decide) rfl rfl,T.pw 1 2 _ _ (by decide) rfl rfl⟩;have ab:F0[dD.length]? =some (.cells (km A.dj A.ins ck A.aF cm A.roots b5)):=by show(dD++[_]++[_])[dD.length]? =_;rw[jY,i9 (aX _)];simp
   have ac:jX F0 F0 r .nil (a4 A.aF []).length (.aW 1 [] .nil) (([]:List Int).map (eT l)):=jX.nil F0 r;obtain⟨ad,jb,tv,ae,ag⟩:=RD G X l g bD br b6 cL (A:=A) args g0 (.bM [I k,dx args g0]) (.ref (.l 0) 0) (.ref (.l j) 0) F0 r ab aT.qJ (by have:=aT.Dj;omega) aT.awd args [] F0 .nil (.aW 1 [] .nil) rfl ac;have ah:=RE G X (S0:=r) (i4:=0) aT g0 F0 ad (up 0 _ cz) (by show 0≠(dD++[_]).length;simp) Z (s:=s) ⟨rfl,rfl⟩ jb tv ag;exact ae.trans ah
  ·have M:r.own[0]? =some (.cells cl):=by
    show(dD++[_])[0]? =_;rw[ev N];exact cz
   have J:=fun(k:a1)=>ix (T:=au) (G:=G) (X:=X) (S:=r) (k:=k) (j:=0) (n:=4) (cs:=cl) (vs:=cl) M rfl rfl rfl
   rw[a7 aQ,ba,if_neg aQ,if_neg aQ,K];refine(J _).trans ?_;have ai:=ht (S:={r with own:=r.own.set 0 (.cells cl)}) (j:=0) (n:=4) (cs:=cl) (by have:=(bZ.1 M).1;simp [this]) rfl;show(aH au G X).aB false [eF {r with own:=r.own.set 0 (.cells cl)} (.ref (.l 0) 0) (some 4),some (.aW 1 [] .nil),some (I (jg l k args))] {r with own:=r.own.set 0 (.cells cl)}=_;rw[ai];exact oQ G X (s:=s) (S:={r with own:=r.own.set 0 (.cells cl)}) ⟨rfl,rfl⟩ (.agg cl) (.aW 1 [] .nil) (I (jg l k args)) (.agg cl) (.aW 1 [] .nil) (I (jg l k args)) rfl rfl rfl
 ·have bU:=aiW G X l g bD br b6 y cL;have aQ:jg l k args=dy l:=by unfold jg;rw[if_pos cL]
  let u:aq:=y.new (.cells cl)
  let r:aq:=u.new (.cells cl)
  have B:=fun(k:a1)=>kx (T:=au) (G:=G) (X:=X) (s:=u) (k:=k) 4 cl cl rfl rfl rfl
  have J:=fun(k:a1)=>ix (T:=au) (G:=G) (X:=X) (S:=r) (k:=k) (j:=0) (n:=4) (cs:=cl) (vs:=cl) rfl rfl rfl rfl
  refine(dc bU rfl).trans ?_;rw[hv,hx,gI];refine(B _).trans ?_;unfold wZ w0;rw[dC,a7 cL,ba,aQ,if_neg cL,if_neg cL,K];refine(J _).trans ?_;exact oQ G X (s:=s) (S:={r with own:=r.own.set 0 (.cells cl)}) ⟨rfl,rfl⟩ (.agg cl) (.aW 1 [] .nil) (I (dy l)) (.agg cl) (.aW 1 [] .nil) (I (dy l)) rfl rfl rfl
end
section
variable(gH v2:ai)(S:aq)
theorem avg:f67 (aH au G X) gH (.int .i64 1) v2 S=(aH au G X).ar S (fun v11 s=>(aH au G X).ar s (fun v s=>(aH au G X).aB false [some v] s) 108 [ai.ak s.aa gH,ai.ak s.aa v11]) 109 []:=by rw[mF];simp -implicitDefEqProofs only[bi,Int.reduceEq,dk,c9,ba,bc]
theorem aqH:f67 (aH au G X) gH (.int .i64 2) (.bool true) S=(aH au G X).ar S (fun v s=>(aH au G X).aB false [some v] s) 108 [ai.ak S.aa gH,ai.ak S.aa (.aW 1 (strs (h8 2 true)) .exact)]:=by rw[mF];simp -implicitDefEqProofs only[bi,jD,jE,Int.reduceEq,dk,c9,ba,bc];rfl
theorem aqI:f67 (aH au G X) gH (.int .i64 2) (.bool false) S=(aH au G X).ar S (fun v s=>(aH au G X).aB false [some v] s) 108 [ai.ak S.aa gH,ai.ak S.aa (.aW 1 (strs (h8 2 false)) .exact)]:=by rw[mF];simp -implicitDefEqProofs only[bi,jD,jE,Int.reduceEq,dk,c9,ba,bc];rfl
theorem avh:f67 (aH au G X) gH (.int .i64 3) v2 S=(aH au G X).ar S (fun v s=>(aH au G X).aB false [some v] s) 108 [ai.ak S.aa gH,ai.ak S.aa (.aW 1 (strs (h8 3 false)) .exact)]:=by rw[mF];simp -implicitDefEqProofs only[bi,jD,jE,Int.reduceEq,dk,c9,ba,bc];rfl
theorem avi:f67 (aH au G X) gH (.int .i64 4) v2 S=(aH au G X).ar S (fun v s=>(aH au G X).aB false [some v] s) 108 [ai.ak S.aa gH,ai.ak S.aa (.aW 1 (strs (h8 4 false)) .exact)]:=by rw[mF];simp -implicitDefEqProofs only[bi,jD,jE,Int.reduceEq,dk,c9,ba,bc];rfl
theorem avj:f67 (aH au G X) gH (.int .i64 6) v2 S=(aH au G X).ar S (fun v s=>(aH au G X).aB false [some v] s) 108 [ai.ak S.aa gH,ai.ak S.aa (.aW 1 (strs (h8 6 false)) .exact)]:=by rw[mF];simp -implicitDefEqProofs only[bi,jD,jE,Int.reduceEq,dk,c9,ba,bc];rfl
theorem avk:f67 (aH au G X) gH (.int .i64 7) v2 S=(aH au G X).ar S (fun v s=>(aH au G X).aB false [some v] s) 108 [ai.ak S.aa gH,ai.ak S.aa (.aW 1 (strs (h8 7 false)) .exact)]:=by rw[mF];simp -implicitDefEqProofs only[bi,jD,jE,Int.reduceEq,dk,c9,ba,bc];rfl
theorem avl:f67 (aH au G X) gH (.int .i64 5) v2 S=(aH au G X).ar S (fun _ s=>(aH au G X).ar s (fun v s=>(aH au G X).aB false [some v] s) 108 [ai.ak s.aa gH,ai.ak s.aa (.aW 1 (strs (h8 5 false)) .exact)]) 110 [ai.ak S.aa gH,ai.ak S.aa (.aW 1 (dV (j5 5)) .exact)]:=by rw[mF];simp -implicitDefEqProofs only[bi,jD,jE,Int.reduceEq,dk,c9,ba,bc];rfl
theorem avm:f67 (aH au G X) gH (.int .i64 8) v2 S=(aH au G X).ar S (fun _ s=>(aH au G X).ar s (fun v s=>(aH au G X).aB false [some v] s) 108 [ai.ak s.aa gH,ai.ak s.aa (.aW 1 (strs (h8 8 false)) .exact)]) 111 [ai.ak S.aa gH,ai.ak S.aa (.int .i64 4)]:=by rw[mF];simp -implicitDefEqProofs only[bi,jD,jE,Int.reduceEq,c9,bc];rw[PB];rfl
end
section
variable{d j:Nat}{S:aq}{A:cj}
abbrev nA(k:Nat)(c:Bool)(A:cj):cj×List Int:=dS (lj k c) (cC (mb k) A)
theorem avn:vt 4 1=mb 8:=by kernel_rfl
theorem pr(k:Nat)(c:Bool)(aD:1≤k)(aG:k≤8)(bX:mb k=[])(h:hL d j S A)(r:dv A 500 100)(he:A.env.length<1000):
  pD G X d j ((aH au G X).ar S (fun v s=>(aH au G X).aB false [some v] s) 108 [ai.ak S.aa (.ref (.g d j) 0),ai.ak S.aa (.aW 1 (strs (h8 k c)) .exact)]) S (nA k c A):=by
 obtain⟨B,u⟩:=qB k c aD aG;obtain⟨H,I,J,K,L,y,M⟩:=uK k c aD aG;have b:=h.lh G X 400 (h8 k c) (lj k c) u (by omega) (fun p aU=>by have:=y p aU;omega) (by have:=r.ins;omega) (by omega);have e:nA k c A=dS (lj k c) A:=by show dS _ (cC (mb k) A)=_;rw[bX];rfl
 rw[e];exact b
theorem avo(c:Bool)(r:dv A 500 100)(he:A.env.length<1000)(S:aq)(h:hL d j S A):pD G X d j (f67 (aH au G X) (.ref (.g d j) 0) (In 5) (.bool c) S) S (nA 5 c A):=by
 obtain⟨y,B⟩:=qB 5 false (by decide) (by decide);obtain⟨K,L,M,N,u,H,O⟩:=uK 5 false (by decide) (by decide);obtain⟨Q,aD,I,J⟩:=h.dK G X 400 (j5 5) (mb 5) y (by omega) (fun p aU=>⟨by have:=(u p aU).1;omega,(u p aU).2⟩) ⟨by have:=r.ins;omega,by have:=r.roots;omega,r.eQ,by have:=r.dj;omega⟩ (by omega);have d1:=gv (mb 5) A;have b:=aD.lh G X 400 (h8 5 false) (lj 5 false) B (by omega) (fun p aU=>by have:=H p aU;omega) (by have:=r.ins;omega) (by rw[f9];omega);have e:nA 5 c A=nA 5 false A:=by cases c<;> rfl
 rw[e];exact .of G X (avl G X (.ref (.g d j) 0) (.bool c) S) (.via G X I (.of G X (J _) b))
theorem avp(c:Bool)(r:dv A 500 100)(he:A.env.length<1000)(S:aq)(h:hL d j S A):pD G X d j (f67 (aH au G X) (.ref (.g d j) 0) (In 8) (.bool c) S) S (nA 8 c A):=by
 obtain⟨H,y⟩:=qB 8 false (by decide) (by decide);obtain⟨I,J,K,L,M,B,N⟩:=uK 8 false (by decide) (by decide);obtain⟨O,bU,aD,u⟩:=MH G X 4 (by decide) h ⟨by have:=r.ins;omega,by have:=r.roots;omega,r.eQ,by have:=r.dj;omega⟩ he;rw[avn] at aD;have d1:=gv (mb 8) A;have b:=aD.lh G X 400 (h8 8 false) (lj 8 false) y (by omega) (fun p aU=>by have:=B p aU;omega) (by have:=r.ins;omega) (by rw[f9];omega);have e:nA 8 c A=nA 8 false A:=by cases c<;> rfl
 rw[e];exact .of G X (avm G X (.ref (.g d j) 0) (.bool c) S) (.via G X u (.of G X (dc bU u.aa) b))
theorem aqJ(k:Nat)(c:Bool)(u:1≤k)(y:k≤8)(e:dv A 500 100)(he:A.env.length<1000)(h:hL d j S A):
  ∃b4,az au G X 67 [.ref (.g d j) 0,In k,.bool c] S=.ok (dx (nA k c A).2 (eR (nA k c A).2)) b4∧hL d j b4 (nA k c A).1∧eM d j S b4:=by
 have body:∀S:aq,hL d j S A→pD G X d j (f67 (aH au G X) (.ref (.g d j) 0) (In k) (.bool c) S) S (nA k c A):=fun S h=>by
  have ind:∀n:Nat,n≠2→∀c:Bool,nA n c A=nA n false A:=fun n bX c=>by
   show dS (lj n c) _=dS (lj n false) _
   have:h8 n c=h8 n false:=by
    cases c
    ·rfl
    ·match n,bX with
     |0,_=>rfl
     |1,_=>rfl
     |2,h=>exact absurd rfl h
     |3,_=>rfl
     |4,_=>rfl
     |5,_=>rfl
     |6,_=>rfl
     |7,_=>rfl
     |8,_=>rfl
     |n+9,_=>rfl
   unfold lj;rw[this]
  have a9:k=1∨k=2∨k=3∨k=4∨k=5∨k=6∨k=7∨k=8:=by omega
  rcases a9 with rfl |rfl |rfl |rfl |rfl |rfl |rfl |rfl
  ·have b:=pr G X 1 false (by decide) (by decide) rfl h e he;rw[ind 1 (by decide) c];refine .of G X (avg G X (.ref (.g d j) 0) (.bool c) S) (.of G X ?_ b);exact aK (Bf G X S)
  ·cases c with
   |false=>exact .of G X (aqI G X (.ref (.g d j) 0) S) (pr G X 2 false (by decide) (by decide) rfl h e he)
   |true=>exact .of G X (aqH G X (.ref (.g d j) 0) S) (pr G X 2 true (by decide) (by decide) rfl h e he)
  ·rw[ind 3 (by decide) c];exact .of G X (avh G X (.ref (.g d j) 0) (.bool c) S) (pr G X 3 false (by decide) (by decide) rfl h e he)
  ·rw[ind 4 (by decide) c];exact .of G X (avi G X (.ref (.g d j) 0) (.bool c) S) (pr G X 4 false (by decide) (by decide) rfl h e he)
  ·exact avo G X c e he S h
  ·rw[ind 6 (by decide) c];exact .of G X (avj G X (.ref (.g d j) 0) (.bool c) S) (pr G X 6 false (by decide) (by decide) rfl h e he)
  ·rw[ind 7 (by decide) c];exact .of G X (avk G X (.ref (.g d j) 0) (.bool c) S) (pr G X 7 false (by decide) (by decide) rfl h e he)
  ·exact avp G X c e he S h
 obtain⟨src,n,r⟩:=h;rw[aaN];exact pD.call G X ⟨src,n,r⟩ (body S.af ⟨src,n,r.af⟩)
end
structure pz (F0 F:List bd) (S0:aq) (g1:cd) (h5:Nat) (g2:cd) (hW:Nat):Prop where
 e:gi F0 F
 a:Mv F0.length {S0 with own:=F} g1 h5
 b:Mv F0.length {S0 with own:=F} g2 hW
 pw:∀t:Nat,g1=.bQ (.l t)→g2≠.bQ (.l t)
section
variable{F0 F:List bd}{S0:aq}{g1 g2:cd}{h5 hW:Nat}
theorem pz.swap(h:pz F0 F S0 g1 h5 g2 hW):pz F0 F S0 g2 hW g1 h5:=⟨h.e,h.b,h.a,fun t e r=>h.pw t r e⟩
theorem pz.nil(F0:List bd)(S0:aq):pz F0 F0 S0 .nil 0 .nil 0:=⟨.refl _,⟨.nil,fun t e=>by cases e⟩,⟨.nil,fun t e=>by cases e⟩,fun t e=>by cases e⟩
theorem pz.app{es:List ai}{bytes:Nat}(v:ai)(h:pz F0 F S0 g1 es.length g2 hW)(a9:v.cells.all ai.dZ=true)(L:(es.length+1)*bytes≤1099511627776):
  ∃g' dD,pz F0 dD S0 g' (es.length+1) g2 hW∧∀k:a1,(aH au G X).cn {S0 with own:=F} k 1 bytes (some (.l 0)) (.aW 1 es g1) (.aW 1 [v] .exact)=k (.aW 1 (es++[v]) g') {S0 with own:=dD}:=by
 obtain⟨g',b4,gw,hj,I,J,B,M⟩:=qv G X (S:={S0 with own:=F}) (q:=1) (bytes:=bytes) (es:=es) (new:=[v]) (g:=g1) (g2:=.exact) h.a.b5 (by simp) L (by simpa using a9) (fun a e=>by cases e);have N:b4= {S0 with own:=b4.own}:=by
  obtain⟨o,u,r⟩:=b4
  have:=B.up;have:=B.ro;simp only at *
  subst_vars
  rfl
 have O:({S0 with own:=F}:aq).own.length=F.length:=rfl;refine⟨g',b4.own,⟨⟨Nat.le_trans h.e.len B.len,fun i o K=>B.own i o (h.e.bf i o K) (fun e=>?_)⟩,⟨gW.own gw rfl,fun t e=>?_⟩,⟨gW.own (B.grow h.b.b5 (fun j e y=>h.pw j y e)) rfl,h.b.eQ⟩,fun t e y=>?_⟩,fun k=>by rw[M];exact congrArg _ N⟩
 ·have:=h.a.eQ i e
  have:=(bZ.1 K).1;omega
 ·by_cases bX:g1=.nil
  ·have:=J bX;rw[this] at e;injection e with e;injection e with e;rw[←e,O];exact h.e.len
  ·rw[I bX] at e;exact h.a.eQ t e
 ·by_cases bX:g1=.nil
  ·have Q:=J bX;rw[Q] at e;injection e with e
   injection e with e
   rcases h.b.b5.inv with⟨H,_⟩|⟨u,H,_,R⟩
   ·rw[H] at y;cases y
   ·rw[H] at y;injection y with y
    injection y with y
    have:=(bZ.1 R).1;omega
  ·rw[I bX] at e;exact h.pw t e y
end
theorem lJ.awm{F:List bd}{d:Nat}{a b c:cd×Nat}(T:lJ F d [a,b,c]):lJ F d [a,b,c,(.nil,0),(.nil,0)]:=by
 refine⟨fun k p aU=>?_,fun k jh p x3 r aU h u e y=>?_⟩
 ·match k,aU with
  |0,aU=>exact T.b5 0 p aU
  |1,aU=>exact T.b5 1 p aU
  |2,aU=>exact T.b5 2 p aU
  |3,aU=>injection aU with aU;subst aU;exact .inl ⟨rfl,rfl⟩
  |4,aU=>injection aU with aU;subst aU;exact .inl ⟨rfl,rfl⟩
  |n+5,aU=>simp at aU
 ·match k,jh,aU,h with
  |3,_,aU,_=>injection aU with aU;subst aU;cases e
  |4,_,aU,_=>injection aU with aU;subst aU;cases e
  |_,3,_,h=>injection h with h;subst h;cases y
  |_,4,_,h=>injection h with h;subst h;cases y
  |n+5,_,aU,_=>simp at aU
  |_,n+5,_,h=>simp at h
  |0,0,_,_=>exact r rfl
  |1,1,_,_=>exact r rfl
  |2,2,_,_=>exact r rfl
  |0,1,aU,h=>exact T.pw 0 1 p x3 r aU h u e y
  |0,2,aU,h=>exact T.pw 0 2 p x3 r aU h u e y
  |1,0,aU,h=>exact T.pw 1 0 p x3 r aU h u e y
  |1,2,aU,h=>exact T.pw 1 2 p x3 r aU h u e y
  |2,0,aU,h=>exact T.pw 2 0 p x3 r aU h u e y
  |2,1,aU,h=>exact T.pw 2 1 p x3 r aU h u e y
theorem lJ.ext{F dD:List bd}{d:Nat}{L:List (cd×Nat)}(T:lJ F d L)(bo:gi F dD):lJ dD d L:=
 ⟨fun k p aU=>ct.bf (T.b5 k p aU) (fun t e=>by have cB:=(ct.le (e ▸ T.b5 k p aU)).1;rw[cB];exact bo.bf t _ cB),T.pw⟩
theorem hL.ext{S0:aq}{F dD:List bd}{j:Nat}{A:cj}(h:hL S0.aa j {S0 with own:=F} A)(bo:gi F dD):hL S0.aa j {S0 with own:=dD} A:=by obtain⟨src,n,h⟩:=h;obtain⟨ck,cm,b5,oe,pq,c,T⟩:=h.c;have bU:({S0 with own:=F}:aq).cA S0.aa=F:=gY {S0 with own:=F};have e:({S0 with own:=dD}:aq).cA S0.aa=dD:=gY {S0 with own:=dD};rw[bU] at c T;exact⟨src,n,⟨h.fd.eQ,h.fd.bk⟩,⟨ck,cm,b5,oe,pq,by rw[e];exact bo.bf j _ c,by rw[e];exact T.ext bo⟩,h.l,h.b⟩
def jH(l:List aO)(k:Int)(as:List Int):List Nat:=ds (decide (k=7)) (as.map (eT l))
theorem RF(l:List aO)(k:Int)(as:List Int)(a:Int):jH l k (as++[a])=jH l k as++[if k=7 then 1 else eT l a]:=by unfold jH ds;by_cases h:k=7<;> simp [h]
theorem oR(l:List aO)(k:Int)(as:List Int):(jH l k as).length=as.length:=by unfold jH ds;split<;> simp
theorem abc(l:List aO)(k:Int):jH l k []=[]:=by unfold jH ds;split<;> rfl
section
variable(l:List aO)(g:cd)(bD:∀a,g≠.bQ a)(br:l.length<9223372036854775806)(b6:∀o,o∈l→mh o)(od:dy l=0)
include bD br b6 od
theorem RG{A:cj}{i7:Nat}{e5:Int}{ck cm b5:cd}(k:Int)(args:List Int)(g0:cd)(v4 r:ai)(F0:List bd)(S0:aq)(cp:F0[i7]? =some (.cells (km e5 A.ins ck A.aF cm A.roots b5)))(u9:∀v∈A.aF,∀a,v.2≠.bQ a)(jw:args.length<100)(Q:∀a∈args,0≤a∧a<(l.length:Int)∧a.toNat<A.aF.length):
  ∀(rest pre:List Int) (F:List bd) (jb gt:cd),args=pre++rest→pz F0 F S0 jb pre.length gt pre.length→
  ∃dD u B,xT (aH au G X) (bP l g) (.bM [I k,dx args g0]) v4 (.ref (.l i7) 0) r (.aW 1 ((a4 A.aF pre).map bA) jb) (.aW 1 ((jH l k pre).map In) gt) (In pre.length) {S0 with own:=F}=ud (aH au G X) (.bM [I k,dx args g0]) v4 r (.aW 1 ((a4 A.aF args).map bA) u) (.aW 1 ((jH l k args).map In) B) {S0 with own:=dD}∧gi F0 dD:=by
 intro rest
 induction rest with
 |nil=>intro pre F jb gt aU h;rw[gf] at aU;subst aU;refine⟨F,jb,gt,?_,h.e⟩;rw[AA,c3,dt,bT,bu,bg,b2,be,aM (by omega),bc]
 |cons a rest R=>
  intro pre F jb gt aU h;obtain⟨U,ak,V⟩:=Q a (by rw[aU];simp);obtain⟨n,rfl⟩:=Int.eq_ofNat_of_zero_le U;have al:pre.length<args.length:=by rw[aU];simp
  have g1:(args.map I)[pre.length]? =some (I (n:Int)):=by rw[aU];simp
  have i1:=fun S k=>ic G X S k 1 (args.map I) g0 .i64 pre.length _ g1
  have H:=fun S k=>show(aH au G X).aj S k none (.bM (ai.cells (I (n:Int))))=k (I (n:Int)) S from rfl
  have bX:n<A.aF.length:=by simpa using V
  have g2:(A.aF.map bA)[n]? =some (bA (A.aF[n])):=by simp [bX]
  have i2:=fun S k=>ic G X S k 1 (A.aF.map bA) cm .i64 n _ g2
  have Y:=fun S k=>show(aH au G X).aj S k none (.bM (ai.cells (bA (A.aF[n]))))=k (bA (A.aF[n])) S from rfl
  have Z:=fun S k=>fJ G X S k pre.length (by omega)
  have aa:fS l (n:Int)=0:=by unfold fS;rw[if_neg (by simp [od]),if_neg (by omega)]
  have ab:=fun(k:a1)=>ii G X (S:={S0 with own:=F}) (k:=k) (i:=i7) (o:=0+2) (c:=.aW 1 (A.aF.map bA) cm) (h.e.bf i7 _ cp) rfl
  have hi:(a4 A.aF pre).length=pre.length:=by simp [a4]
  obtain⟨u,J,K,ac⟩:=pz.app G X (es:=(a4 A.aF pre).map bA) (bytes:=24) (bA (A.aF[n])) (by rw[b2,hi];exact h) rfl (by rw[b2,hi];omega);rw[b2,hi] at K
  let t:Nat:=if k=7 then 1 else eT l (n:Int)
  obtain⟨B,ad,L,ae⟩:=pz.app G X (es:=(jH l k pre).map In) (bytes:=8) (In t) (by rw[b2,oR];exact K.swap) rfl (by rw[b2,oR];omega);rw[b2,oR] at L;have xb:=ZR G X l g bD br b6 (n:Int) {S0 with own:=J};rw[if_pos aa] at xb;have af:I (dg (l.getD (n:Int).toNat default).op)=In (eT l (n:Int)):=by unfold eT;rw[In,po]
  rw[af] at xb;have ag:a4 A.aF (pre++[(n:Int)])=a4 A.aF pre++[A.aF[n]]:=by simp [a4,List.getD,bX]
  obtain⟨M,N,O,ah,bz⟩:=R (pre++[(n:Int)]) ad u B (by rw[aU];simp) (by rw[dm];exact L.swap);refine⟨M,N,O,?_,bz⟩;have fin:xS (aH au G X) (bP l g) (.bM [I k,dx args g0]) v4 (.ref (.l i7) 0) r (.aW 1 ((a4 A.aF pre).map bA++[bA A.aF[n]]) u) (.aW 1 ((jH l k pre).map In) gt) (In pre.length) (In t) {S0 with own:=J}=ud (aH au G X) (.bM [I k,dx args g0]) v4 r (.aW 1 ((a4 A.aF args).map bA) N) (.aW 1 ((jH l k args).map In) O) {S0 with own:=M}:=by rw[Pm,l8];refine(ae _).trans ?_;rw[Pl,Z,←ah,ag,RF,dm,List.map_append,List.map_append];rfl
  rw[AA,c3,dt,bT,bu,bg,b2,be,a7 (by omega),ba,Pn,aA,ab,c3,dt,bT,bu,i1,H,i2,Y,qY G X _ (u9 _ (h4 bX))];refine(ac _).trans ?_;rw[c3,dt,bT,bu,i1,H,du l bD];refine(aK xb).trans ?_;rw[hv,hx,c3,bT,bu,bi,←fin];by_cases y:k=7
  ·rw[a7 y,ba,show t=1 from if_pos y];rfl
  ·rw[aM y,bc,show t=eT l (n:Int) from if_neg y]
end
section
variable{l:List aO}{g:cd}{A:cj}{k:Int}{args:List Int}{S0:aq}{j i4:Nat}
theorem avq(ts:List Nat)(gt:cd)(K:a1)(S:aq):(aH au G X).aY S (fun h s=>(aH au G X).ah s (fun e s=>(aH au G X).ae e true (fun k=>k (.aW 1 (ts.map In) gt) s) s (fun r s=>(aH au G X).ae e true (fun k=>(aH au G X).aZ s k 1 r (.int .i64 1)) s (fun u s=>(aH au G X).ae e true (fun k=>(aH au G X).aj s k none u) s (fun y s=>(aH au G X).ae e true (fun k=>(aH au G X).ah s k (al .eql y (.int .i64 3))) s (fun B s=>(aH au G X).a2 s K e B (.bool false)))))) (al .eql h (.int .i64 2))) false (.aW 1 (ts.map In) gt)=K (.bool (decide (ts.length=2)&&decide (ts[1]? =some 3))) S:=by
 rw[bg,b2,bi];by_cases aG:ts.length=2
 ·obtain⟨t0,t1,H⟩:∃t0 t1,ts=[t0,t1]:=by
   match ts,aG with
   |[a,b],_=>exact⟨a,b,rfl⟩
  subst H;have i0:=fun S k=>ic G X S k 1 ([t0,t1].map In) gt .i64 1 (In t1) rfl
  have I:=fun S k=>show(aH au G X).aj S k none (.bM (ai.cells (In t1)))=k (In t1) S from rfl
  rw[a7 (by simp),a7 aG,cG];simp only[dP];refine(i0 _ _).trans ?_;simp only[I,bi,cR];congr 2;simp;omega
 ·rw[aM (by omega),aM aG,c1];simp only[fh,df]
theorem RH(aT:FI l k args A)(g0:cd)(F0 F:List bd)(cz:F0[i4]? =some (.cells cl))(M:i4≠j)(ac:hL S0.aa j {S0 with own:=F0} (mn A)){s:aq}(N:Child s S0)(jb gt:cd)(bo:gi F0 F):
  ud (aH au G X) (.bM [I k,dx args g0]) (.ref (.l i4) 0) (.ref (.l j) 0) (.aW 1 ((a4 A.aF args).map bA) jb) (.aW 1 ((jH l k args).map In) gt) {S0 with own:=F}=.ok (.cT [vx (lo l k args A).1,dx (lo l k args A).2 (eR (lo l k args A).2),I 0]) s:=by
 have aC:=aT.gw;have aE:=aT.hj
 let S:aq:={S0 with own:=F}
 let d:=S0.aa
 have jw:=aT.Dj;have hi:(a4 A.aF args).length=args.length:=by simp [a4]
 have ad:hL d j S (mn A):=ac.ext bo;have ae:∀t∈jH l k args,t=1∨t=2∨t=3:=by
  unfold jH ds;split
  ·intro t cB;simp only[List.mem_map] at cB;obtain⟨_,_,rfl⟩:=cB;exact .inl rfl
  ·exact aT.t4
 have O:∀r∈a4 A.aF args,r.1.length≤7:=fun r aQ=>by
  unfold a4 at aQ;simp only[List.mem_map] at aQ;obtain⟨a,af,rfl⟩:=aQ;obtain⟨_,_,R⟩:=aT.awd a af
  have:A.aF.getD a.toNat ([],.nil)=A.aF[a.toNat]:=by simp [List.getD,R]
  rw[this];exact aT.len _ (h4 R)
 obtain⟨ag,bU,aD,K⟩:=ZS G X (s:=S) (d:=d) (j:=j) (A:=mn A) (a4 A.aF args) (jb.ak d) (gt.ak d) (jH l k args) (by rw[oR];omega) (by rw[hi,oR]) ae (fun r aQ=>by have:=O r aQ;omega) ad;have ah:hL d j ag (oP l k args A):=aD;have j0:(oP l k args A).env.length<1000:=by
  have:=rO (jW (vv l k args) fun _=>0) (vv l k args) ((a4 A.aF args).map Prod.fst) (fun _=>0) [] (fun v bG=>by simp only[List.mem_map] at bG;obtain⟨r,hF,rfl⟩:=bG;exact O r hF)
  show(qw (vv l k args) ((a4 A.aF args).map Prod.fst)).length<1000;unfold qw;rw[b2] at this;simp only[ek] at this;omega
 have aj:dv (oP l k args A) 500 100:=⟨by have:=aT.ins;show A.ins.length+500<_;omega,by have:=aT.roots;show A.roots.length+100<_;omega,Int.le_refl 0,by show(0:Int)+100<_;omega⟩;obtain⟨n,rfl⟩:=Int.eq_ofNat_of_zero_le (show 0≤k by omega);have al:1≤n:=by omega
 have am:n≤8:=by omega
 let c:=decide ((jH l (n:Int) args).length=2)&&decide ((jH l (n:Int) args)[1]? =some 3)
 obtain⟨aI,B,aG,H⟩:=aqJ G X n c al am aj j0 ah;have ku:nA n c (oP l (n:Int) args A)=lo l (n:Int) args A:=by
  show dS (lj n c) _=dS (lj n (nV l args)) _;by_cases an:n=7
  ·subst an
   have:∀c og:Bool,lj 7 c=lj 7 og:=fun c og=>by cases c<;> cases og<;> rfl
   rw[this c (nV l args)];rfl
  ·have e:jH l (n:Int) args=args.map (eT l):=by unfold jH ds;rw[if_neg (by simp;omega)]
   have:c=nV l args:=by show(decide ((jH l (n:Int) args).length=2)&&decide ((jH l (n:Int) args)[1]? =some 3))=_;rw[e,b2];rfl
   rw[this];rfl
 rw[ku] at B aG
 let Q:=lo l (n:Int) args A
 obtain⟨aJ,oh,ao⟩:=aG;obtain⟨ck,cm,b5,oe,pq,L,T⟩:=ao.c;obtain⟨u,rfl⟩:=K.ez;have ap:S.bH d u= {S0 with own:=u}:=lI S0 F u;rw[ap] at bU B K H;obtain⟨h,rfl⟩:=H.ez;have ar:({S0 with own:=u}:aq).bH d h= {S0 with own:=h}:=lI S0 u h;rw[ar] at B H L T;have as:S.cA d=F:=gY S;have U:({S0 with own:=u}:aq).cA d=u:=gY {S0 with own:=u};have V:({S0 with own:=h}:aq).cA d=h:=gY {S0 with own:=h};have Y:=K.x2;have Z:=H.x2;rw[as,U] at Y;rw[U,V] at Z;rw[V] at L T;have ab:h[i4]? =some (.cells cl):=Z.bf i4 _ (Y.bf i4 _ (bo.bf i4 _ cz) M) M
 let J:List ai:=[I Q.1.e5,.aW 3 (Q.1.ins.map fR.enc) ck,.aW 1 (Q.1.aF.map bA) cm,dx Q.1.roots b5]
 have av:=fun(k:a1)=>ma G X (S:={S0 with own:=h}) (k:=k) (i:=j) (n:=4) L (by simp [ef])
 have aw:=fun(k:a1)=>ix (T:=au) (G:=G) (X:=X) (S:={S0 with own:=h}) (k:=k) (j:=i4) (n:=4) (cs:=cl) (vs:=J) ab rfl rfl rfl
 let y:=h.set i4 (.cells J)
 have ax:y[i4]? =some (.cells J):=by have:=(bZ.1 ab).1;simp [y,this]
 have ay:=ht (S:={S0 with own:=y}) (n:=4) ax rfl;have C4:Ab.freeze {S0 with own:=y} (.agg J)=some (vx Q.1):=uL (F:=h) (T.b5 0 _ rfl) (T.b5 1 _ rfl) (T.b5 2 _ rfl) (by rw[rP];exact aT.qJ);have az:Child s {S0 with own:=y}:=⟨N.up,N.ro⟩;rw[Po];refine(dc bU (by rfl)).trans ?_;refine(avq G X (jH l (n:Int) args) gt _ _).trans ?_;rw[c3,bT,bu];refine(dc B (by rfl)).trans ?_;rw[a3,aA];refine(av _).trans ?_;refine(aw _).trans ?_;show(aH au G X).aB false [eF {S0 with own:=y} (.ref (.l i4) 0) (some 4),some (dx Q.2 (eR Q.2)),some (.int .i64 0)] {S0 with own:=y}=_;rw[ay];exact oQ G X az _ _ (I 0) _ _ (I 0) C4 (vf (qz _) _ _ _) rfl
end
section
variable(l:List aO)(g:cd)(bD:∀a,g≠.bQ a)(br:l.length<9223372036854775806)(b6:∀o,o∈l→mh o)(k:Int)(args:List Int)(g0:cd)(jw:args.length<9223372036854775807)(s:aq)
include bD br b6 jw
theorem aqK:az au G X 36 [bP l g,.agg [I k,dx args g0]] s=.ok (.cT [wZ l k args,w0 l k args,I (jg l k args)]) s:=by
 let r:aq:=s.af.new (.cells cl)
 have aU:=fun d=>du l bD d
 have B:∀(S:aq) (k:a1),(aH au G X).cH [.int .i64 0,.aW 3 [] .nil,.aW 1 [] .nil,.aW 1 [] .nil] [] S k=k (.agg cl) S:=fun S k=>rfl
 rw[aaK,apE,bx,gI,aU];by_cases cL:dy l=0
 ·obtain⟨dD,ck,cm,b5,bU,T,kp,ag⟩:=aiU G X l g bD br b6 r cL
  let A:=gM l
  let h:aq:={r with own:=dD}
  let e:aq:=h.new (.cells (km A.dj A.ins ck A.aF cm A.roots b5))
  have u:=fun(k:a1)=>kx (T:=au) (G:=G) (X:=X) (s:=h) (k:=k) 4 (km A.dj A.ins ck A.aF cm A.roots b5) cl rfl rfl rfl
  have cz:dD[0]? =some (.cells cl):=kp 0 _ rfl;have M:=(bZ.1 cz).1;have xa:=aqE G X l g bD br b6 k args g0 jw e;refine(dc bU rfl).trans ?_;rw[hv,hx,gI];refine(u _).trans ?_;rw[dC,aM (by simp),bc,Pq,ed _ _ (by simp)];refine(aK (by rw[aU];exact xa)).trans ?_;rw[dC];unfold wZ w0;by_cases aQ:jg l k args=0
  ·have aT:=vw cL aQ;rw[aM (by simp [aQ]),bc,if_pos aQ,if_pos aQ,aQ,Pp];have N:e.own[h.own.length]? =some (.cells (km A.dj A.ins ck A.aF cm A.roots b5)):=by
    show(h.own++[_])[h.own.length]? =_;simp
   have O:=fun(k:a1)=>ma G X (S:=e) (k:=k) (n:=4) N (by simp)
   refine(O _).trans ?_
   let F0:List bd:=e.own++[.cells (ef (mn A) ck cm b5 .nil .nil [] 0)]
   let j:=e.own.length
   have Q:∀k:a1,(aH au G X).cH [.int .i64 0,.aW 3 [] .nil,.aW 1 [] .nil,.aW 1 [] .nil,.aW 1 [] .nil,.aW 1 [] .nil,.str [],.int .i64 0,.int .i64 0] [(0,4,.agg ((km A.dj A.ins ck A.aF cm A.roots b5).take 4))] e k=k (.agg (ef (mn A) ck cm b5 .nil .nil [] 0)) e:=fun k=>rfl
   have R:∀k:a1,(aH au G X).hO (.agg (ef (mn A) ck cm b5 .nil .nil [] 0)) e k=k (.ref (.l j) 0) {e with own:=F0}:=fun k=>by rw[qG _ rfl];rfl
   refine(Q _).trans ?_;refine(R _).trans ?_;have H:gi dD F0:=⟨by show dD.length≤(dD++[_]++[_]).length;simp,fun i o J=>by have U:=(bZ.1 J).1;show(dD++[_]++[_])[i]? =_;rw[jY,ev U];exact J⟩
   have V:F0[j]? =some (.cells (ef (mn A) ck cm b5 .nil .nil [] 0)):=by simp [F0,j]
   have b7:({e with own:=F0}:aq).cA e.aa=F0:=gY {e with own:=F0};have Y:hL e.aa j {e with own:=F0} (mn A):=⟨[],0,⟨by have:=e.lG;show e.ro.length≤e.aa;omega,aX _⟩,⟨ck,cm,b5,.nil,.nil,by rw[b7];exact V,by rw[b7];exact(lJ.awm T).ext H⟩,aX _,by decide⟩;have Z:F0[dD.length]? =some (.cells (km A.dj A.ins ck A.aF cm A.roots b5)):=by show(dD++[_]++[_])[dD.length]? =_;rw[jY,i9 (aX _)];simp
   obtain⟨ab,jb,gt,K,ac⟩:=RG G X l g bD br b6 cL (A:=A) k args g0 (.ref (.l 0) 0) (.ref (.l j) 0) F0 e Z aT.qJ (by have:=aT.Dj;omega) aT.awd args [] F0 .nil .nil rfl (pz.nil F0 e);rw[abc] at K;have ad:=RH G X (S0:=e) (i4:=0) aT g0 F0 ab (H.bf 0 _ cz) (by show 0≠(dD++[_]).length;simp) Y (s:=s) ⟨rfl,rfl⟩ jb gt ac;exact K.trans ad
  ·have L:e.own[0]? =some (.cells cl):=by
    show(dD++[_])[0]? =_;rw[ev M];exact cz
   have y:=fun(k:a1)=>ix (T:=au) (G:=G) (X:=X) (S:=e) (k:=k) (j:=0) (n:=4) (cs:=cl) (vs:=cl) L rfl rfl rfl
   rw[a7 aQ,ba,if_neg aQ,if_neg aQ,B];refine(y _).trans ?_;have ae:=ht (S:={e with own:=e.own.set 0 (.cells cl)}) (j:=0) (n:=4) (cs:=cl) (by have:=(bZ.1 L).1;simp [this]) rfl;show(aH au G X).aB false [eF {e with own:=e.own.set 0 (.cells cl)} (.ref (.l 0) 0) (some 4),some (.aW 1 [] .nil),some (I (jg l k args))] {e with own:=e.own.set 0 (.cells cl)}=_;rw[ae];exact oQ G X (s:=s) (S:={e with own:=e.own.set 0 (.cells cl)}) ⟨rfl,rfl⟩ (.agg cl) (.aW 1 [] .nil) (I (jg l k args)) (.agg cl) (.aW 1 [] .nil) (I (jg l k args)) rfl rfl rfl
 ·have bU:=aiV G X l g bD br b6 r cL;have aQ:jg l k args=dy l:=by unfold jg;rw[if_pos cL]
  let h:aq:=r.new (.cells cl)
  let e:aq:=h.new (.cells cl)
  have u:=fun(k:a1)=>kx (T:=au) (G:=G) (X:=X) (s:=h) (k:=k) 4 cl cl rfl rfl rfl
  have y:=fun(k:a1)=>ix (T:=au) (G:=G) (X:=X) (S:=e) (k:=k) (j:=0) (n:=4) (cs:=cl) (vs:=cl) rfl rfl rfl rfl
  refine(dc bU rfl).trans ?_;rw[hv,hx,gI];refine(u _).trans ?_;unfold wZ w0;rw[dC,a7 cL,ba,aQ,if_neg cL,if_neg cL,B];refine(y _).trans ?_;exact oQ G X (s:=s) (S:={e with own:=e.own.set 0 (.cells cl)}) ⟨rfl,rfl⟩ (.agg cl) (.aW 1 [] .nil) (I (dy l)) (.agg cl) (.aW 1 [] .nil) (I (dy l)) rfl rfl rfl
end
theorem abd(l:List aO)(k:Int)(args:List Int){A:cj}(aT:FI l k args A):(lo l k args A).1.ins.length<9223372036854775807∧(lo l k args A).1.aF.length=A.aF.length∧(lo l k args A).1.roots.length≤9223372036854775807∧(lo l k args A).2.length≤9223372036854775807:=by
 have u:=aT.gw;have y:=aT.hj;obtain⟨n,rfl⟩:=Int.eq_ofNat_of_zero_le (show 0≤k by omega);obtain⟨B,H,I,J,K,L,M⟩:=uK n (nV l args) (by omega) (by omega);obtain⟨N,O⟩:=qB n (nV l args) (by omega) (by omega);have e:=nx (lj n (nV l args)) (cC (mb n) (oP l (n:Int) args A));have d1:=gv (mb n) (oP l (n:Int) args A);have bU:(oP l (n:Int) args A).ins=A.ins:=rfl;have h:(oP l (n:Int) args A).roots=A.roots:=rfl;have r:(oP l (n:Int) args A).aF=A.aF:=rfl;rw[bU,h,r] at d1;have aD:=aT.ins;have aG:=aT.roots;have br:(lj n (nV l args)).length≤200:=by
  have:∀k,k<9→1≤k→∀c:Bool,(lj k c).length≤200:=by decide +kernel
  exact this n (by omega) (by omega) _
 refine⟨?_,?_,?_,?_⟩
 ·show(dS (lj n (nV l args)) (cC (mb n) _)).1.ins.length<_;rw[e.2.2.2,d1.2.2.2.2];omega
 ·show(dS (lj n (nV l args)) (cC (mb n) _)).1.aF.length=_;rw[e.1,d1.1]
 ·show(dS (lj n (nV l args)) (cC (mb n) _)).1.roots.length≤_;rw[e.2.1];omega
 ·show(dS (lj n (nV l args)) _).2.length≤_;rw[vp];omega
section
variable(l:List aO)(g:cd)(bD:∀a,g≠.bQ a)(br:l.length<9223372036854775806)(b6:∀o,o∈l→mh o)(k:Int)(args:List Int)(g0:cd)(jw:args.length<9223372036854775807)(s:aq)
include bD br b6 jw
theorem avr{M:aq}(N:az au G X 10 [] {own:=[],up:=[],ro:=[]}=.ok (.bool true) M):
  az au G X 7 [bP l g,.agg [I k,dx args g0]] s=.ok (.bool true) s:=by
 have key:∃(e5:Int) (ins:List fR) (ck:cd) (aF:List (List Int×cd)) (cm:cd) (roots:List Int) (b5:cd) (o:List Int) (go:cd),wZ l k args=vq e5 ins ck aF cm roots b5∧w0 l k args=dx o go∧(∀a,go≠.bQ a)∧ins.length<9223372036854775807∧aF.length<9223372036854775807∧(∀v∈aF,v.1.length≤9223372036854775807)∧roots.length≤9223372036854775807∧o.length≤9223372036854775807:=by
  unfold wZ w0;by_cases aQ:jg l k args=0
  ·have cL:dy l=0:=by
    by_cases cL:dy l=0
    ·exact cL
    ·unfold jg at aQ;rw[if_pos cL] at aQ;exact absurd aQ cL
   have aT:=vw cL aQ;obtain⟨ml,y,B,H⟩:=abd l k args aT;obtain⟨_,O,Q,_⟩:=abb cL;rw[if_pos aQ,if_pos aQ];exact⟨_,_,_,_,_,_,_,_,_,rfl,rfl,qz _,ml,by rw[y];exact O,by rw[rP];exact Q,B,H⟩
  ·rw[if_neg aQ,if_neg aQ];exact⟨0,[],.nil,[],.nil,[],.nil,[],.nil,rfl,rfl,(fun a e=>by cases e),by decide,by decide,(fun v h=>absurd h mc),by decide,by decide⟩
 obtain⟨e5,ins,ck,aF,cm,roots,b5,o,go,R,U,V,ml,y,B,H,Y⟩:=key;have J:=aqG G X l g bD br b6 k args g0 jw s.af;have aj:aq:=s.af
 let u:aq:=s.af.new (.cells (km e5 ins ck aF cm roots b5))
 have K:=aqK G X l g bD br b6 k args g0 jw u;rw[R,U] at J K
 let r:aq:=u.new (.cells (km e5 ins ck aF cm roots b5))
 have Z:=aqk G X e5 ins ck ck aF cm cm roots b5 b5 ml y B H r;have L:=Fz G X o o go go r Y;rw[a7 rfl] at L;have n7:=fun(k:a1)=>kx (T:=au) (G:=G) (X:=X) (s:=s.af) (k:=k) 4 (km e5 ins ck aF cm roots b5) cl rfl rfl rfl
 have aa:=fun(k:a1)=>kx (T:=au) (G:=G) (X:=X) (s:=u) (k:=k) 4 (km e5 ins ck aF cm roots b5) cl rfl rfl rfl
 have ab:r.own[s.af.own.length]? =some (.cells (km e5 ins ck aF cm roots b5)):=by show(s.af.own++[_]++[_])[s.af.own.length]? =_;simp
 have ac:r.own[u.own.length]? =some (.cells (km e5 ins ck aF cm roots b5)):=by show(u.own++[_])[u.own.length]? =_;simp
 have ad:=fun(k:a1)=>ma G X (S:=r) (k:=k) (n:=4) ab (by simp)
 have ae:=fun(k:a1)=>ma G X (S:=r) (k:=k) (n:=4) ac (by simp)
 have ag:Child s r:=⟨rfl,rfl⟩;have ah:∀d,ai.ak d (dx o go)=dx o go:=fun d=>by simp only[ai.ak,QR V]
 rw[ahD,auI,bx,k7 rfl N rfl,ed _ _ (by simp),du l bD];refine(aK J).trans ?_;rw[hv,hx,pY,gI];refine(n7 _).trans ?_;rw[ed _ _ (by simp),du l bD];refine(aK K).trans ?_;rw[hv,hx,pY,gI];refine(aa _).trans ?_;simp only[dP,bi,dk,cR];refine(ad _).trans ?_;refine(ae _).trans ?_;refine(aK Z).trans ?_;simp only[dP,cR,ah];refine(aK L).trans ?_;exact eH ag _
end
end Go.h6
