/- What the claim's texts say of a part of the evaluator and of the program's functions: for every argument that they name. -/
import Derived.Test.YtnafklimohmfkaaGreatDoorA5
import Derived.Test.YtnafklimohmfkaaGreatDoorA2
import Derived.Test.YtnafklimohmfkaaGreatDoorA4
set_option linter.unusedSectionVars false
set_option linter.unusedSimpArgs false
set_option linter.unusedVariables false
section
namespace Go.jY
open Go.Ab Go.iY
variable(G:Nat→AV)(X:Nat→List AV→St→ax)
def nG(n1 n2:kw):Bool:= !n1.neg && !n2.neg && decide (n1.oO=[]) && decide (n2.oO=[])
abbrev Ac(n1 n2:kw):AV:=.agg [.bool n1.neg,n1.v, .bool n2.neg,n2.v]
theorem aE2(l:List Nat):decide (((l.map U).length:Int)=0)=decide (l=[]):=by
 congr 1
 rw[eq_iff_iff]
 cases l <;> simp <;> omega
theorem SU(n1 n2:kw)(s:St):aJ T1 G X 117 [Ac n1 n2] s= .ok (.bool (nG n1 n2)) s:=by
 rw[V8,am1]
 unfold nG
 cases h1:n1.neg with
 | true=>simp only[kw.v,h1,↓bE,↓bt,↓bP,↓dF,↓iG,↓om,↓ot,↓bj,↓fh,↓bq,bW,dT,↓reduceIte,co,Bool.not_true,Bool.false_and]
 | false=>
  cases h2:n2.neg with
  | true=>simp only[kw.v,h1,h2,↓bE,↓bt,↓bP,↓dF,↓iG,↓om,↓ot,↓bj,↓fh,↓bq,bW,dT,↓reduceIte,co,Bool.not_true,Bool.not_false,Bool.false_and,Bool.and_false]
  | false=>
   by_cases h3:n1.oO=[]
   ·simp only[kw.v,h1,h2,↓bE,↓bt,↓bP,↓dF,↓iG,↓om,↓ot,↓bj,↓fh,↓bq,bW,dT,↓reduceIte,Bool.and_self,decide_true,Bool.not_false,Bool.true_and,aE2,eq_true h3]
   ·have e3:¬((n1.oO.map U).length:Int)=0:=by
     rw[cw];have:=List.length_pos_iff.2 h3;omega
    simp only[kw.v,h1,h2,↓bE,↓bt,↓bP,↓dF,↓iG,↓om,↓ot,↓bj,↓fh,↓bq,bW,dT,↓reduceIte,Bool.and_self,decide_false,co,Bool.not_false,Bool.true_and,eq_false e3,eq_false h3,Bool.false_and]
theorem vF{s:St}{k:K1}(a b:List Nat):(PP T1 G X).ak s k (au .eql (.str a) (.str b))=k (.bool (decide (a=b))) s:=by
 show k (.bool (a == b)) s=_
 congr 2
 exact(by rw[Bool.eq_iff_iff];simp)
theorem awH{S:St}{k:K1}{d j o:Nat}{cs:List AV}{c:AV}(h:S.get (.g d j)=some (.cells cs))(hc:cs[o]? =some c):(PP T1 G X).aq S k none (.ref (.g d j) o)=k c S:=by
 rw[nA]
 simp only[fK,h,fm]
 have:cs.drop o=c :: cs.drop (o+1):=by
  have ho:=(bZ.1 hc)
  rw[List.drop_eq_getElem_cons ho.1,ho.2]
 rw[this]
 rfl
theorem aoR(o x:aS)(s:St)(d j:Nat)(hd:d≤s.aa)(h:s.get (.g d j)=some (.cells x.cs)):aJ T1 G X 119 [o.enc, .ref (.g d j) 0] s= .ok (.bool (decide (o.name=x.name))) s:=by
 have h2:s.ai.get (.g d j)=some (.cells x.cs):=(Child.ai s).vw.2 d j _ hd h
 have l:=fun(k:K1)=>awH G X (k:=k) (o:=0+0) h2 (c:=.str x.name) rfl
 rw[Wa,am3]
 simp only[aS.enc]
 rw[bE]
 simp only[aS.cs] at *
 rw[dF,bW,bP,aC,l,vF,bq]
def uG(nm:List Nat):List aS→Nat→Int
 | [],_=> -1
 | o :: r,i=>if o.name=nm then(i:Int) else uG nm r (i+1)
theorem wo(nm:List Nat):∀(l:List aS) (i:Nat),decide (0≤uG nm l i)=l.any fun o=>decide (o.name=nm)
 | [],i=>rfl
 | o :: r,i=>by
  rw[List.any_cons]
  by_cases h:o.name=nm
  ·have e:uG nm (o :: r) i=(i:Int):=if_pos h
   simp [e,h]
  ·have e:uG nm (o :: r) i=uG nm r (i+1):=if_neg h
   have ih:=wo nm r (i+1)
   simp [e,h] at ih ⊢
   exact ih
abbrev bQ(l:List aS)(g:Gr):AV:=.sl 12 (l.map aS.enc) g
theorem Lz(x:aS):x.cs.take 12=x.cs:=rfl
theorem aoS(l:List aS)(g:Gr)(x:aS)(s:St)(d j:Nat)(hd:d≤s.aa)(h:s.get (.g d j)=some (.cells x.cs))(hl:l.length < 9223372036854775807):aJ T1 G X 151 [bQ l g, .fn 119 [.ref (.g d j) 0]] s= .ok (I (uG x.name l 0)) s:=by
 have loop:∀n i:Nat,i+n=l.length→ze (PP T1 G X) (bQ l g) (.fn 119 [.ref (.g d j) 0]) (.int .i64 (l.length:Int)) (.int .i64 (i:Int)) s.ai= .ok (I (uG x.name (l.drop i) i)) s:=by
  intro n
  induction n with
  | zero=>
   intro i hi
   have e:¬(i:Int) < (l.length:Int):=by omega
   rw[Cl _ (aA _ _ _),bb,aT e,bf,QV _ (aA _ _ _),b8,List.drop_of_length_le (by omega)]
   rfl
  | succ n ih=>
   intro i hi
   have e:(i:Int) < (l.length:Int):=by omega
   have na:i < l.length:=by omega
   have ei:(l.map aS.enc)[i]? =some l[i].enc:=by simp [na]
   have c:=aoR G X l[i] x s.ai d j (by have:=(Child.ai s).aa;omega) ((Child.ai s).vw.2 d j _ hd h)
   have a3:=fun(S:St) (k:K1)=>gD G X S k i (by omega)
   rw[Cl _ (aA _ _ _),bb,a9 e,be,QU _ (aA _ _ _),l9 _ _ _ _ _ _ ei]
   simp only[aS.enc,AV.cells]
   rw[e7 _ _ (Nat.le_refl 12),Lz,dc,MU]
   simp only[aS.enc] at c
   simp only[List.cons_append,List.nil_append]
   rw[aN c,List.drop_eq_getElem_cons na,uG]
   by_cases hn:l[i].name=x.name
   ·rw[a9 hn,be,b8,if_pos hn]
   ·rw[aT hn,bf,QT _ (aA _ _ _),a3,if_neg hn]
    exact ih (i+1) (by omega)
 rw[Wc,am5,bt,cw]
 exact loop l.length 0 (by omega)
theorem aoT(l:List aS)(g:Gr)(hg:∀a,g≠.bJ a)(x:aS)(s:St)(d j:Nat)(hd:d≤s.aa)(h:s.get (.g d j)=some (.cells x.cs))(hl:l.length < 9223372036854775807):aJ T1 G X 118 [bQ l g, .fn 119 [.ref (.g d j) 0]] s= .ok (.bool (l.any fun o=>decide (o.name=x.name))) s:=by
 have c:=aoS G X l g x s.ai d j (by have:=(Child.ai s).aa;omega) ((Child.ai s).vw.2 d j _ hd h) hl
 rw[V9,am2]
 have p1:AV.av s.ai.aa (bQ l g)=bQ l g:=by simp only[AV.av,aoO hg]
 rw[p1,Y6,aN c,gQ,wo,bq]
def Bb(pre:List aS)(w a:Int):Bool:=decide (0≤a∧a < (pre.length:Int)) && acc w (match pre[a.toNat]? with | some o=>dQ o.op | none=>0)
def mE(pre:List aS):List Int→List Int→Bool
 | w :: ws,a :: as=>Bb pre w a && mE pre ws as
 | _,_=>true
def Ad(op br:Int):Bool:=if oP op=true then decide (br=1∨br=2) else decide (br=0)
def oB(n1 n2:kw):Bool:=lP n1.neg n2.neg n1.oO n2.oO
def uH(x:aS):Bool:=
 if x.op=1 then oB x.x0 x.x1 && oB x.y0 x.y1 else if x.op=2 then oB x.x0 x.x1 && nG x.y0 x.y1 else nG x.x0 x.x1 && nG x.y0 x.y1
def pI(pre:List aS)(x:aS):Bool:=pre.any fun o=>decide (o.name=x.name)
def wf(pre:List aS)(x:aS):Bool:=
 decide (dQ x.op≠0) && decide ((jC x.op).length=x.args.length) && decide (x.name≠[]) && (mE pre (jC x.op) x.args && (Ad x.op x.br && (uH x && !pI pre x)))
section
variable(x:aS)(s:St)(k:K1)
theorem aoU:(PP T1 G X).aq (s.new (.cells x.cs)) k none (.ref (.l s.own.length) 0)=k (.str x.name) (s.new (.cells x.cs)):=aqr _ _
theorem oQ(o:Nat)(c:AV)(h:x.cs[o]? =some c):(PP T1 G X).aq (s.new (.cells x.cs)) k none (.ref (.l s.own.length) o)=k c (s.new (.cells x.cs)):=IT (by simp [St.new]) h
theorem uI:(PP T1 G X).aq (s.new (.cells x.cs)) k none (.ref (.l s.own.length) 1)=k (I x.op) (s.new (.cells x.cs)):=oQ G X x s k 1 _ rfl
theorem agc:(PP T1 G X).aq (s.new (.cells x.cs)) k none (.ref (.l s.own.length) 2)=k (gp x.args x.ga) (s.new (.cells x.cs)):=oQ G X x s k 2 _ rfl
theorem qH:(PP T1 G X).aq (s.new (.cells x.cs)) k none (.ref (.l s.own.length) 11)=k (I x.br) (s.new (.cells x.cs)):=oQ G X x s k 11 _ rfl
theorem axQ(o:Nat)(h:o+4≤12):(PP T1 G X).aq (s.new (.cells x.cs)) k (some 4) (.ref (.l s.own.length) o)=k (.agg ((x.cs.drop o).take 4)) (s.new (.cells x.cs)):=by
 rw[nA]
 simp only[fK,tc,fm]
 rw[show Nat.ble 4 (x.cs.drop o).length=true from dy (by simp;show 4≤12 - o;omega)]
 rfl
theorem Jb:(PP T1 G X).aq (s.new (.cells x.cs)) k (some 4) (.ref (.l s.own.length) 3)=k (Ac x.x0 x.x1) (s.new (.cells x.cs)):=axQ G X x s k 3 (by omega)
theorem Jc:(PP T1 G X).aq (s.new (.cells x.cs)) k (some 4) (.ref (.l s.own.length) 7)=k (Ac x.y0 x.y1) (s.new (.cells x.cs)):=axQ G X x s k 7 (by omega)
end
theorem Jd{n1 n2:kw}(h1:so n1)(h2:so n2)(s:St):aJ T1 G X 116 [Ac n1 n2] s= .ok (.bool (oB n1 n2)) s:=aox G X s n1.neg n2.neg n1.v n2.v n1.oO n2.oO h1.fz h2.fz h1.ok h2.ok h1.len h2.len
theorem SV{n1 n2:kw}(h1:so n1)(h2:so n2)(s:St):aJ T1 G X 86 [Ac n1 n2] s= .ok (.bool (oB n1 n2)) s:=awE G X s n1.neg n2.neg n1.v n2.v n1.oO n2.oO h1.fz h2.fz h1.ok h2.ok h1.len h2.len
theorem agd(l:List aS){g:Gr}(hg:∀a,g≠.bJ a)(n:Nat)(hn:n≤l.length)(S:St)(k:K1):(PP T1 G X).lh 12 (bQ l g) none (some (.int .i64 (n:Int))) none S k=k (bQ (l.take n) (nP g l.length n)) S:=by
 show oi 12 (.sl 12 (l.map aS.enc) g) none (some (.int .i64 (n:Int))) none S k=_
 unfold oi
 simp -implicitDefEqProofs only[tI,iW,Nat.beq_refl,dy (Nat.zero_le n),show Nat.ble n (l.map aS.enc).length=true from dy (by simpa using hn),show uV g 0 n (l.map aS.enc)=true from by cases g <;> first | rfl | exact absurd rfl (hg _),Bool.and_self,cond_true,bW,Nat.sub_zero,List.map_take,bQ]
 cases g <;> first | rfl | exact absurd rfl (hg _) | simp [nP]
theorem fk(l:List aS){g:Gr}(hg:∀a,g≠.bJ a)(d:Nat):AV.av d (bQ l g)=bQ l g:=by simp -implicitDefEqProofs only[AV.av,aoO hg]
theorem LA(d i o:Nat):AV.av d (.ref (.l i) o)= .ref (.g d i) o:=rfl
theorem XO(s:St)(o:bg):(s.new o).get (.g (s.new o).aa s.own.length)=some o:=by simp [St.get,St.new]
theorem uJ{s:St}{k:K1}(b:Bool):(PP T1 G X).ak s k (kL .not (.bool b))=k (.bool (!b)) s:=fh b
section
variable(pre:List aS)(x:aS)(g:Gr)(hg:∀a,g≠.bJ a)(s:St)(hp:pre.length < 9223372036854775806)(hx:sp x)
include hg hp
theorem XP:K9 (PP T1 G X) (bQ (pre ++ [x]) g) (.int .i64 (pre.length:Int)) (.ref (.l s.ai.own.length) 0) (s.ai.new (.cells x.cs))= .ok (.bool (!pI pre x)) s:=by
 have sl:=fun(S:St) (k:K1)=>agd G X (pre ++ [x]) hg pre.length (by simp) S k
 rw[List.take_left' rfl] at sl
 have sR:=EQ hg (pre ++ [x]).length pre.length
 have c:=aoT G X pre _ sR x (s.ai.new (.cells x.cs)) _ _ (Nat.le_refl _) (XO s.ai (.cells x.cs)) (by omega)
 rw[VT _ (aA _ _ _),sl,jR,LA,fk _ sR,Y6]
 rw[aN c,fh,eH ((Child.ai s).new _)]
 rfl
include hx
theorem XQ:La (PP T1 G X) (bQ (pre ++ [x]) g) (.int .i64 (pre.length:Int)) (.ref (.l s.ai.own.length) 0) (s.ai.new (.cells x.cs))= .ok (.bool (uH x && !pI pre x)) s:=by
 have j7:=XP G X pre x g hg s hp
 have c1:=Jd G X hx.x0 hx.x1 (s.ai.new (.cells x.cs))
 have c2:=Jd G X hx.y0 hx.y1 (s.ai.new (.cells x.cs))
 have e1:=SU G X x.x0 x.x1 (s.ai.new (.cells x.cs))
 have e2:=SU G X x.y0 x.y1 (s.ai.new (.cells x.cs))
 have fin:=fun b=>eH (T:=T1) (G:=G) (X:=X) ((Child.ai s).new (.cells x.cs)) b
 rw[VU _ (aA _ _ _),aC,Nat.zero_add,uI,bj]
 unfold uH
 by_cases h1:x.op=1
 ·simp -implicitDefEqProofs only[a9 h1,eY,c7,aC,Nat.zero_add,↓uI,↓bj,dP,↓Jb,dc,↓(aN c1),uJ,if_pos h1]
  cases hv:oB x.x0 x.x1 with
  | false=>simp -implicitDefEqProofs only[Bool.not_false,eY,c7,be,fin,Bool.false_and,eG]
  | true=>
   simp -implicitDefEqProofs only[Bool.not_true,dA,fV,dw,dP,↓Jc,dc,↓(aN c2),uJ]
   cases Mq:oB x.y0 x.y1 with
   | false=>simp -implicitDefEqProofs only[Bool.not_false,eY,c7,be,fin,Bool.false_and,Bool.true_and,eG]
   | true=>
    simp -implicitDefEqProofs only[Bool.not_true,dA,fV,dw,c7,uJ,bf,j7,Bool.true_and]
 ·by_cases h2:x.op=2
  ·simp -implicitDefEqProofs only[aT h1,dA,dw,aC,Nat.zero_add,↓uI,↓bj,a9 h2,dP,↓Jb,dc,↓(aN c1),uJ,if_neg h1,if_pos h2]
   cases hv:oB x.x0 x.x1 with
   | false=>simp -implicitDefEqProofs only[Bool.not_false,eY,c7,be,fin,Bool.false_and,eG]
   | true=>
    simp -implicitDefEqProofs only[Bool.not_true,Bool.not_false,dA,fV,dw,c7,dP,↓Jc,dc,↓(aN e2),uJ]
    cases Mq:nG x.y0 x.y1 with
    | false=>simp -implicitDefEqProofs only[Bool.not_false,be,fin,Bool.false_and,Bool.true_and]
    | true=>simp -implicitDefEqProofs only[Bool.not_true,bf,j7,Bool.true_and]
  ·simp -implicitDefEqProofs only[aT h1,dA,dw,aC,Nat.zero_add,↓uI,↓bj,aT h2,fV,dP,↓Jb,dc,↓(aN e1),uJ,if_neg h1,if_neg h2,Bool.not_false]
   cases hv:nG x.x0 x.x1 with
   | false=>simp -implicitDefEqProofs only[Bool.not_false,eY,c7,be,fin,Bool.false_and,eG]
   | true=>
    simp -implicitDefEqProofs only[Bool.not_true,Bool.not_false,dA,fV,dw,c7,dP,↓Jc,dc,↓(aN e2),uJ]
    cases Mq:nG x.y0 x.y1 with
    | false=>simp -implicitDefEqProofs only[Bool.not_false,be,fin,Bool.false_and,Bool.true_and]
    | true=>simp -implicitDefEqProofs only[Bool.not_true,bf,j7,Bool.true_and]
theorem XS:Lb (PP T1 G X) (bQ (pre ++ [x]) g) (.int .i64 (pre.length:Int)) (.ref (.l s.ai.own.length) 0) (.bool (oP x.op)) (s.ai.new (.cells x.cs))= .ok (.bool (Ad x.op x.br && (uH x && !pI pre x))) s:=by
 have j6:=XQ G X pre x g hg s hp hx
 have fin:=fun b=>eH (T:=T1) (G:=G) (X:=X) ((Child.ai s).new (.cells x.cs)) b
 have XT:∀(a b:Bool) (k:K1) (S:St),(PP T1 G X).ak S k ((tE .bool (.bool a) (.bool b)).map fun b=>.bool (bif true then !b else b))=k (.bool (!(a == b))) S:=fun a b k S=>rfl
 rw[VV _ (aA _ _ _),aC,Nat.zero_add,qH,bj]
 unfold Ad
 cases hb:oP x.op with
 | true=>
  by_cases h1:x.br=1
  ·simp -implicitDefEqProofs only[a9 h1,eY,c7,XT,show(!(true == true))=false from rfl,dA,Bool.not_true,fV,dw,bf,j6,if_true,eq_true (Or.inl h1:x.br=1∨x.br=2),decide_true,Bool.true_and,uJ]
  ·by_cases h2:x.br=2
   ·simp -implicitDefEqProofs only[aT h1,dA,dw,aC,Nat.zero_add,↓qH,↓bj,a9 h2,XT,show(!(true == true))=false from rfl,Bool.not_true,fV,bf,j6,if_true,eq_true (Or.inr h2:x.br=1∨x.br=2),decide_true,Bool.true_and,uJ]
   ·have h3:¬(x.br=1∨x.br=2):=by omega
    simp -implicitDefEqProofs only[aT h1,dA,dw,aC,Nat.zero_add,↓qH,↓bj,aT h2,XT,show(!(true == false))=true from rfl,eY,c7,be,fin,if_true,eq_false h3,decide_false,Bool.false_and,eG]
 | false=>
  by_cases h0:x.br=0
  ·have h1:¬x.br=1:=by omega
   have h2:¬x.br=2:=by omega
   simp -implicitDefEqProofs only[aT h1,dA,dw,aC,Nat.zero_add,↓qH,↓bj,aT h2,XT,show(!(false == false))=false from rfl,Bool.not_false,dP,eO,aT (not_not_intro h0),dw,c7,bf,j6,co,if_false,a9 h0,Bool.true_and,uJ]
  ·by_cases h1:x.br=1
   ·simp -implicitDefEqProofs only[a9 h1,eY,c7,XT,show(!(false == true))=true from rfl,be,fin,co,if_false,aT h0,Bool.false_and,eG]
   ·by_cases h2:x.br=2
    ·simp -implicitDefEqProofs only[aT h1,dA,dw,aC,Nat.zero_add,↓qH,↓bj,a9 h2,XT,show(!(false == true))=true from rfl,eY,c7,be,fin,co,if_false,aT h0,Bool.false_and,eG]
    ·simp -implicitDefEqProofs only[aT h1,dA,dw,aC,Nat.zero_add,↓qH,↓bj,aT h2,XT,show(!(false == false))=false from rfl,Bool.not_false,dP,eO,eq_true h0,decide_true,c7,be,fin,co,if_false,aT h0,Bool.false_and,uJ]
theorem XU(ws:List Int)(gw:Gr)(hlw:ws.length=x.args.length):∀n i:Nat,i+n=x.args.length→(∀o,o∈pre→sp o)→
  Db (PP T1 G X) (bQ (pre ++ [x]) g) (.int .i64 (pre.length:Int)) (.ref (.l s.ai.own.length) 0) (gp ws gw) (.bool (oP x.op)) (gp x.args x.ga) (.int .i64 (x.args.length:Int)) (.int .i64 (i:Int)) (s.ai.new (.cells x.cs))= .ok (.bool (mE pre (ws.drop i) (x.args.drop i) && (Ad x.op x.br && (uH x && !pI pre x)))) s:=by
 have fin:=fun b=>eH (T:=T1) (G:=G) (X:=X) ((Child.ai s).new (.cells x.cs)) b
 intro n
 induction n with
 | zero=>
  intro i hi lW
  have e:¬(i:Int) < (x.args.length:Int):=by omega
  rw[Fy _ (aA _ _ _),bb,aT e,bf,XS G X pre x g hg s hp hx,List.drop_of_length_le (by omega),List.drop_of_length_le (by omega)]
  simp -implicitDefEqProofs only[mE,Bool.true_and]
 | succ n ih=>
  intro i hi lW
  have e:(i:Int) < (x.args.length:Int):=by omega
  have hia:i < x.args.length:=by omega
  have hiw:i < ws.length:=by omega
  have ya:=hx.al
  have ea:(x.args.map I)[i]? =some (I x.args[i]):=by simp [hia]
  have ew:(ws.map I)[i]? =some (I ws[i]):=by simp [hiw]
  have ia:∀k:K1,(PP T1 G X).aX (s.ai.new (.cells x.cs)) k 1 (gp x.args x.ga) (.int .i64 (i:Int))=k (.bO [I x.args[i]]) (s.ai.new (.cells x.cs)):=fun k=>l9 (T:=T1) (G:=G) (X:=X) (s:=s.ai.new (.cells x.cs)) (k:=k) 1 _ x.ga .i64 i _ ea
  have iw:∀k:K1,(PP T1 G X).aX (s.ai.new (.cells x.cs)) k 1 (gp ws gw) (.int .i64 (i:Int))=k (.bO [I ws[i]]) (s.ai.new (.cells x.cs)):=fun k=>l9 (T:=T1) (G:=G) (X:=X) (s:=s.ai.new (.cells x.cs)) (k:=k) 1 _ gw .i64 i _ ew
  have a3:=fun(S:St) (k:K1)=>gD G X S k i (by omega)
  rw[Fy _ (aA _ _ _),bb,a9 e,be,VS _ (aA _ _ _),ia,bP,bb,List.drop_eq_getElem_cons hia,List.drop_eq_getElem_cons hiw,mE]
  unfold Bb
  by_cases h1:x.args[i] < 0
  ·have h2:¬(0≤x.args[i]∧x.args[i] < (pre.length:Int)):=by omega
   simp -implicitDefEqProofs only[a9 h1,eY,c7,be,fin,aT h2,Bool.false_and]
  ·by_cases h2:(pre.length:Int)≤x.args[i]
   ·have h3:¬(0≤x.args[i]∧x.args[i] < (pre.length:Int)):=by omega
    simp -implicitDefEqProofs only[aT h1,dA,dw,gQ,a9 h2,eY,c7,be,fin,aT h3,Bool.false_and]
   ·have h3:0≤x.args[i]∧x.args[i] < (pre.length:Int):=by omega
    have cM:x.args[i].toNat < pre.length:=by omega
    have ep:((pre ++ [x]).map aS.enc)[x.args[i].toNat]? =some pre[x.args[i].toNat].enc:=by
     rw[List.getElem?_map,eZ cM,d8 cM];rfl
    have ep2:pre[x.args[i].toNat]? =some pre[x.args[i].toNat]:=d8 cM
    have ip:=fun(k:K1)=>Y5 (T:=T1) (G:=G) (X:=X) (s:=s.ai.new (.cells x.cs)) (k:=k) 12 _ g .i64 x.args[i] _ h3.1 ep
    generalize hoe:pre[x.args[i].toNat]=o at *
    have kj:o∈pre:=hoe ▸ nd cM
    have c74:=agb G X o {own:=[],up:=[],ro:=[]}
    have r74:AV.ba [o.enc]=true:=by simp -implicitDefEqProofs only[AV.ba,(lW o kj).bo,Bool.and_self]
    have M2:=aoQ G X ws[i] (dQ o.op) (s.ai.new (.cells x.cs))
    have Il:=fun(k:K1)=>e7 (T:=T1) (G:=G) (X:=X) (s:=s.ai.new (.cells x.cs)) (k:=k) 12 o.cs (Nat.le_refl 12)
    rw[Lz] at Il
    have aE5:∀k:K1,(PP T1 G X).aq (s.ai.new (.cells x.cs)) k (some 12) (.bO o.enc.cells)=k o.enc (s.ai.new (.cells x.cs)):=Il
    have pe:∀d,AV.av d o.enc=o.enc:=fun d=>rfl
    simp -implicitDefEqProofs only[aT h1,dA,dw,gQ,aT h2,iw,bP]
    rw[ip,aE5,pe,yi r74 c74 rfl,cD,cD,aN M2,uJ]
    simp -implicitDefEqProofs only[ep2,a9 h3,Bool.true_and]
    cases aE6:acc ws[i] (dQ o.op) with
    | false=>simp -implicitDefEqProofs only[Bool.not_false,be,fin,Bool.false_and]
    | true=>
     simp -implicitDefEqProofs only[Bool.not_true,bf,Bool.true_and,VQ _ (aA _ _ _),a3]
     exact ih (i+1) (by omega) lW
theorem awI(lW:∀o,o∈pre→sp o):aJ T1 G X 70 [bQ (pre ++ [x]) g] s= .ok (.bool (wf pre x)) s:=by
 have fin:=fun b=>eH (T:=T1) (G:=G) (X:=X) ((Child.ai s).new (.cells x.cs)) b
 have ep:((pre ++ [x]).map aS.enc)[pre.length]? =some x.enc:=by
  rw[List.getElem?_map,List.getElem?_append_right (Nat.le_refl _),Nat.sub_self];rfl
 have ip:=fun(S:St) (k:K1)=>kF G X S k 12 _ g .i64 pre.length _ ep
 have a1:=fun(S:St) (k:K1)=>ku (T:=T1) (G:=G) (X:=X) (s:=S) (k:=k) (pre.length+1) (by omega) (by omega)
 simp -implicitDefEqProofs only[Nat.add_sub_cancel] at a1
 have Il:∀(S:St) (k:K1),(PP T1 G X).aq S k (some 12) (.bO x.enc.cells)=k x.enc S:=fun S k=>e7 (T:=T1) (G:=G) (X:=X) (s:=S) (k:=k) 12 x.cs (Nat.le_refl 12)
 have pe:∀d,AV.av d x.enc=x.enc:=fun d=>rfl
 have st:=fun(k:K1) (cs:List AV) (h:cs.length=12)=>qz (T:=T1) (G:=G) (X:=X) (s:=s.ai) (k:=k) 12 x.cs cs rfl h x.cells
 have ET:=GS G X x.op (s.ai.new (.cells x.cs))
 have ya:=hx.al
 have l2:=fun h=>XU G X pre x g hg s hp hx (jC x.op) (GR x.op) h x.args.length 0 (by omega) lW
 have ewl:((jC x.op).map I).length=(jC x.op).length:=cw ..
 have eal:(x.args.map I).length=x.args.length:=cw ..
 rw[aha,avn,bt,cw,dp,List.length_singleton,a1,ip,Il,jR,pe]
 refine(st _ _ rfl).trans ?_
 rw[aC,Nat.zero_add,uI,cD,aN ET,lm,lq,AP,bj]
 unfold wf
 by_cases h0:dQ x.op=0
 ·simp -implicitDefEqProofs only[a9 h0,eY,c7,be,fin,aT (not_not_intro h0:¬dQ x.op≠0),Bool.false_and]
 ·simp -implicitDefEqProofs only[aT h0,dA,dw,bt,aC,Nat.zero_add,↓agc,eO,ewl,eal,a9 (show dQ x.op≠0 from h0),Bool.true_and]
  by_cases h1:(jC x.op).length=x.args.length
  ·have nk:¬¬((jC x.op).length:Int)=(x.args.length:Int):=by omega
   simp -implicitDefEqProofs only[aT nk,dA,dw,↓aoU,vF,a9 h1,Bool.true_and]
   by_cases h2:x.name=[]
   ·simp -implicitDefEqProofs only[a9 h2,be,fin,aT (not_not_intro h2:¬x.name≠[]),Bool.false_and]
   ·simp -implicitDefEqProofs only[aT h2,bf,VW _ (aA _ _ _),aC,Nat.zero_add,↓agc,bt,eal,a9 (show x.name≠[] from h2),Bool.true_and]
    have:=l2 h1
    simp -implicitDefEqProofs only[bW] at this
    exact this
  ·have nk:¬((jC x.op).length:Int)=(x.args.length:Int):=by omega
   simp -implicitDefEqProofs only[a9 nk,eY,c7,be,fin,aT h1,Bool.false_and]
end
abbrev ti(p:Nat×Nat):AV:=.agg [I p.1,I p.2]
def lB(i:Nat)(x:aS):List (Nat×Nat):=if x.op=1 then[(i,0),(i,1)] else if x.op=2 then[(i,0)] else[]
def jb:List aS→Nat→List (Nat×Nat)
 | [],_=>[]
 | x :: r,i=>lB i x ++ jb r (i+1)
theorem GU(i:Nat)(x:aS):(lB i x).length≤2:=by unfold lB;split <;> (try split) <;> simp
theorem pJ:∀l:List (Nat×Nat),AV.ba (l.map ti)=true
 | []=>rfl
 | x :: l=>by simp only[List.map_cons,AV.ba,pJ l,Bool.and_true];rfl
theorem Bc:∀l:List (Nat×Nat),((l.map ti).flatMap AV.cells).all AV.dU=true
 | []=>rfl
 | x :: l=>by simp only[List.map_cons,List.flatMap_cons,List.all_append,Bc l,Bool.and_true];rfl
theorem LB{S:St}{k:K1}(l:List (Nat×Nat)):(PP T1 G X).aF S k 2 (l.map ti)=k (.sl 2 (l.map ti) .exact) S:=by
 refine kB 2 _ (pJ l) ?_
 induction l with
 | nil=>rfl
 | cons x l ih=>simp only[List.map_cons,List.all_cons,ih,Bool.and_true];rfl
theorem pX{α β:Type}(f:α→β)(l:List α):fO (l.map f)=fO l:=by cases l <;> rfl
theorem vG{S:St}(a b:Nat)(k:K1):(PP T1 G X).dh [.int .i64 0, .int .i64 0] [(0,1, .int .i64 (a:Int)),(1,1, .int .i64 (b:Int))] S k=k (ti (a,b)) S:=rfl
theorem awK(l:List aS)(g:Gr)(s:St)(hl:l.length≤1000):aJ T1 G X 72 [bQ l g] s= .ok (.sl 2 ((jb l 0).map ti) (fO (jb l 0))) s:=by
 have loop:∀n i:Nat,i+n=l.length→∀(es:List (Nat×Nat)) (ge:Gr) (S:St),Child s S→iX S ge es.length→es.length≤2 * i→
   Dc (PP T1 G X) (.sl 2 (es.map ti) ge) (bQ l g) (.int .i64 (l.length:Int)) (.int .i64 (i:Int)) S= .ok (.sl 2 ((es ++ jb (l.drop i) i).map ti) (fO (es ++ jb (l.drop i) i))) s:=by
  intro n
  induction n with
  | zero=>
   intro i hi es ge S hS hg he
   have e:¬(i:Int) < (l.length:Int):=by omega
   rw[FC _ (aA _ _ _),bb,aT e,bf,VY _ (aA _ _ _),List.drop_of_length_le (by omega)]
   simp only[jb,List.append_nil]
   have:=nC (S:=S) (sz:=2) (es:=es.map ti) (g:=ge) (by simpa using hg) (pJ es)
   rw[pX] at this
   exact jv hS _ _ this
  | succ n ih=>
   intro i hi es ge S hS hg he
   have e:(i:Int) < (l.length:Int):=by omega
   have na:i < l.length:=by omega
   have ei:(l.map aS.enc)[i]? =some l[i].enc:=by simp [na]
   have ip:=fun(k:K1)=>kF G X S k 12 _ g .i64 i _ ei
   have hgo:∀x,l[i]=x→l.drop i=x :: l.drop (i+1):=fun x hx=>by rw[←hx];exact List.drop_eq_getElem_cons na
   generalize hx:l[i]=x at *
   have Il:∀(S:St) (k:K1),(PP T1 G X).aq S k (some 12) (.bO x.enc.cells)=k x.enc S:=fun S k=>e7 (T:=T1) (G:=G) (X:=X) (s:=S) (k:=k) 12 x.cs (Nat.le_refl 12)
   have pe:∀d,AV.av d x.enc=x.enc:=fun d=>rfl
   have st:=fun(k:K1) (cs:List AV) (h:cs.length=12)=>qz (T:=T1) (G:=G) (X:=X) (s:=S) (k:=k) 12 x.cs cs rfl h x.cells
   have a3:=fun(S:St) (k:K1)=>gD G X S k i (by omega)
   have hd:=hgo x rfl
   have xw:iX (S.new (.cells x.cs)) ge es.length:=hg.new _
   have app:∀new:List (Nat×Nat),new=lB i x→new≠[]→(PP T1 G X).cz (S.new (.cells x.cs)) (fun v S=>zc (PP T1 G X) v (bQ l g) (.int .i64 (l.length:Int)) (.int .i64 (i:Int)) S) 2 16 (some (.l 0)) (.sl 2 (es.map ti) ge) (.sl 2 (new.map ti) .exact)= .ok (.sl 2 ((es ++ jb (l.drop i) i).map ti) (fO (es ++ jb (l.drop i) i))) s:=fun new ic cK=>by
    have hlen:new.length≤2:=by rw[ic];exact GU i x
    refine AO (by simpa using xw) (by simpa using cK) (by simp;omega) (Bc new) (fun g' S' qg h1 h2 h3 JG=>?_)
    rw[FB _ (aA _ _ _),a3,←List.map_append]
    have:=ih (i+1) (by omega) (es ++ new) g' S' (JG.child (hS.new _)) (by simpa using qg) (by simp;omega)
    rw[this,hd]
    simp only[jb,ic,pY]
   rw[FC _ (aA _ _ _),bb,a9 e,be,VX _ (aA _ _ _),ip,Il,jR,pe]
   refine(st _ _ rfl).trans ?_
   rw[aC,Nat.zero_add,uI,bj]
   by_cases h1:x.op=1
   ·have hi:lB i x=[(i,0),(i,1)]:=by unfold lB;rw[if_pos h1]
    have a:=app _ hi.symm (by simp)
    rw[a9 h1,be]
    refine(vG G X i 0 _).trans ?_
    refine(vG G X i 1 _).trans ?_
    refine(LB G X [(i,0),(i,1)]).trans ?_
    exact a
   ·rw[aT h1,bf,bj]
    by_cases h2:x.op=2
    ·have hi:lB i x=[(i,0)]:=by unfold lB;rw[if_neg h1,if_pos h2]
     have a:=app _ hi.symm (by simp)
     rw[a9 h2,be]
     refine(vG G X i 0 _).trans ?_
     refine(LB G X [(i,0)]).trans ?_
     exact a
    ·have hi:lB i x=[]:=by unfold lB;rw[if_neg h1,if_neg h2]
     have:=ih (i+1) (by omega) es ge (S.new (.cells x.cs)) (hS.new _) xw (by omega)
     rw[aT h2,bf,FB _ (aA _ _ _),a3,this,hd]
     simp only[jb,hi,List.nil_append]
 rw[ahc,avp,bt,cw]
 have:=loop l.length 0 (by omega) [] .nil s.ai (.ai s) .nil (by simp)
 simp only[List.map_nil,List.nil_append,bW] at this
 exact this
def lC:List aS→List aS→Bool
 | _,[]=>true
 | pre,x :: r=>wf pre x && lC (pre ++ [x]) r
def nb(l:List aS):Nat:=(l.filter fun x=>oP x.op).length
def fB(l:List aS):Int:=bif lC [] l then(if 40 < l.length∨5 < nb l∨20 < (jb l 0).length then 111 else 0) else 120
theorem aoW(l:List aS)(x:aS):nb (l ++ [x])=nb l+(if oP x.op=true then 1 else 0):=by
 unfold nb
 rw[List.filter_append,dp]
 congr 1
 simp only[List.filter_cons,List.filter_nil]
 split <;> rfl
theorem aoX(l:List aS):nb l≤l.length:=List.length_filter_le _ _
theorem age(l:List aS)(g:Gr)(hg:∀a,g≠.bJ a)(s:St)(hl:l.length < 9223372036854775806)(ct:∀o,o∈l→sp o):aJ T1 G X 42 [bQ l g] s= .ok (I (fB l)) s:=by
 have fin:∀S,Child s S→K6 (PP T1 G X) (bQ l g) (I (nb l:Int)) S= .ok (I (if 40 < l.length∨5 < nb l∨20 < (jb l 0).length then 111 else 0)) s:=fun S hS=>by
  have hnb:=aoX l
  have fi:=fun n=>lj (T:=T1) (G:=G) (X:=X) hS .i64 n
  rw[VC _ (aA _ _ _),bt,cw,dV]
  by_cases h1:40 < l.length
  ·have e:(40:Int) < (l.length:Int):=by omega
   rw[if_pos (.inl h1)]
   simp only[a9 e,eY,c7,be]
   exact fi _
  ·have e:¬(40:Int) < (l.length:Int):=by omega
   simp only[aT e,dA,dw,dV]
   by_cases h2:5 < nb l
   ·have e2:(5:Int) < (nb l:Int):=by omega
    rw[if_pos (.inr (.inl h2))]
    simp only[a9 e2,eY,c7,be]
    exact fi _
   ·have e2:¬(5:Int) < (nb l:Int):=by omega
    have c:=awK G X l g S (by omega)
    simp only[aT e2,dA,dw,fk _ hg]
    rw[aN c]
    simp only[bt,cw,dV]
    by_cases h3:20 < (jb l 0).length
    ·have e3:(20:Int) < ((jb l 0).length:Int):=by omega
     rw[if_pos (.inr (.inr h3)),a9 e3,be]
     exact fi _
    ·have e3:¬(20:Int) < ((jb l 0).length:Int):=by omega
     rw[if_neg (by omega),aT e3,bf,VB _ (aA _ _ _)]
     exact fi _
 have loop:∀n i:Nat,i+n=l.length→∀S,Child s S→
   C6 (PP T1 G X) (bQ l g) (I (nb (l.take i):Int)) (bQ l g) (.int .i64 (l.length:Int)) (.int .i64 (i:Int)) S= .ok (I (bif lC (l.take i) (l.drop i) then(if 40 < l.length∨5 < nb l∨20 < (jb l 0).length then 111 else 0) else 120)) s:=by
  intro n
  induction n with
  | zero=>
   intro i hi S hS
   have e:¬(i:Int) < (l.length:Int):=by omega
   rw[Fk _ (aA _ _ _),bb,aT e,bf,List.drop_of_length_le (by omega),List.take_of_length_le (by omega),fin S hS]
   rfl
  | succ n ih=>
   intro i hi S hS
   have e:(i:Int) < (l.length:Int):=by omega
   have na:i < l.length:=by omega
   have ei:(l.map aS.enc)[i]? =some l[i].enc:=by simp [na]
   have ip:=fun(k:K1)=>kF G X S k 12 _ g .i64 i _ ei
   have kj:l[i]∈l:=nd na
   have hd:l.drop i=l[i] :: l.drop (i+1):=List.drop_eq_getElem_cons na
   have ht:l.take (i+1)=l.take i ++ [l[i]]:=List.take_succ_eq_append_getElem na
   generalize hx:l[i]=x at *
   have Il:∀(S:St) (k:K1),(PP T1 G X).aq S k (some 12) (.bO x.enc.cells)=k x.enc S:=fun S k=>e7 (T:=T1) (G:=G) (X:=X) (s:=S) (k:=k) 12 x.cs (Nat.le_refl 12)
   have pe:∀d,AV.av d x.enc=x.enc:=fun d=>rfl
   have st:=fun(k:K1) (cs:List AV) (h:cs.length=12)=>qz (T:=T1) (G:=G) (X:=X) (s:=S) (k:=k) 12 x.cs cs rfl h x.cells
   have a3:=fun(S:St) (k:K1)=>gD G X S k i (by omega)
   have sl:=fun(S:St) (k:K1)=>agd G X l hg (i+1) (by omega) S k
   rw[ht] at sl
   have sR:=EQ hg l.length (i+1)
   have cM:(l.take i).length=i:=by simp;omega
   have Ii:=awI G X (l.take i) x _ sR (S.new (.cells x.cs)) (by omega) (ct x kj) (fun o ho=>ct o (List.mem_of_mem_take ho))
   have ld:=fun(k:K1)=>J7 (T:=T1) (G:=G) (X:=X) (s:=S) (k:=k) 12 x.cs (Nat.le_refl 12)
   rw[Lz] at ld
   have c71:=awF G X x (S.new (.cells x.cs))
   have fi:=fun n=>lj (T:=T1) (G:=G) (X:=X) (hS.new (.cells x.cs)) .i64 n
   have nx:=ih (i+1) (by omega) (S.new (.cells x.cs)) (hS.new _)
   rw[ht,aoW] at nx
   have nbi:=aoX (l.take i)
   rw[Fk _ (aA _ _ _),bb,a9 e,be,VA _ (aA _ _ _),ip,Il,jR,pe]
   refine(st _ _ rfl).trans ?_
   rw[a3,sl,fk _ sR,aN Ii,fh,hd]
   simp only[lC]
   cases hw:wf (l.take i) x with
   | false=>
    rw[Bool.not_false,be,Bool.false_and,cond_false]
    exact fi _
   | true=>
    rw[Bool.not_true,bf,Bool.true_and,Vz _ (aA _ _ _)]
    refine(ld _).trans ?_
    show(PP T1 G X).aB (S.new (.cells x.cs)) _ 71 [x.enc]=_
    rw[aN c71]
    cases hb:oP x.op with
    | false=>
     rw[hb] at nx
     rw[bf,Fj _ (aA _ _ _),a3]
     exact nx
    | true=>
     rw[hb] at nx
     have a1:=fun(S:St) (k:K1)=>gD G X S k (nb (l.take i)) (by omega)
     rw[be,a1,Fj _ (aA _ _ _),a3]
     exact nx
 rw[ag4,avd,bt,cw]
 exact loop l.length 0 (by omega) s.ai (.ai s)
theorem aB5{s:St}{k:K1}(a b:Bool):(PP T1 G X).ak s k ((tE .bool (.bool a) (.bool b)).map fun b=>.bool (bif true then !b else b))=k (.bool (!(a == b))) s:=rfl
theorem SW(s:St)(n1 n2:Bool)(v1 v2:AV)(l1 l2:List Nat)(h1:Fz v1 l1)(h2:Fz v2 l2)(hb:l1.length < 9223372036854775807):aJ T1 G X 162 [iM n1 v1,iM n2 v2] s= .ok (.bool (decide (n1=n2∧l1=l2))) s:=by
 have ln1:=fun(S:St) (k:K1)=>(h1.rd S).len (T:=T1) (G:=G) (X:=X) k S
 have Xx:=fun(S:St) (k:K1)=>(h2.rd S).len (T:=T1) (G:=G) (X:=X) k S
 have loop:l1.length=l2.length→∀n i:Nat,i+n=l1.length→zg (PP T1 G X) (.bO [.bool n1,v1]) (.bO [.bool n2,v2]) (.int .i64 (i:Int)) s.ai= .ok (.bool (decide (l1.drop i=l2.drop i))) s:=by
  intro hl n
  induction n with
  | zero=>
   intro i hi
   have e:¬(i:Int) < (l1.length:Int):=by omega
   rw[Cm _ (aA _ _ _),dF,dT,bW,bP,ln1,bb,aT e,bf,Q2 _ (aA _ _ _),bq,List.drop_of_length_le (by omega),List.drop_of_length_le (by omega)]
   rfl
  | succ n ih=>
   intro i hi
   have e:(i:Int) < (l1.length:Int):=by omega
   have g1:=fun(k:K1)=>(h1.rd s.ai).get (T:=T1) (G:=G) (X:=X) .i64 i (by omega) k
   have g2:=fun(k:K1)=>(h2.rd s.ai).get (T:=T1) (G:=G) (X:=X) .i64 i (by omega) k
   have a3:=fun(S:St) (k:K1)=>gD G X S k i (by omega)
   have e1:l1.drop i=l1.getD i 0 :: l1.drop (i+1):=by rw[List.drop_eq_getElem_cons (by omega)];simp [List.getD,show i < l1.length by omega]
   have e2:l2.drop i=l2.getD i 0 :: l2.drop (i+1):=by rw[List.drop_eq_getElem_cons (by omega)];simp [List.getD,show i < l2.length by omega]
   rw[Cm _ (aA _ _ _),dF,dT,bW,bP,ln1,bb,a9 e,be,Q1 _ (aA _ _ _),dF,dT,bW,bP,g1,dF,dT,bW,bP,g2,eO]
   rw[e1,e2]
   by_cases hx:l1.getD i 0=l2.getD i 0
   ·have nW:¬¬((l1.getD i 0:Nat):Int)=((l2.getD i 0:Nat):Int):=by omega
    rw[aT nW,bf,Q0 _ (aA _ _ _),a3,ih (i+1) (by omega),hx]
    simp -implicitDefEqProofs only[List.cons.injEq,true_and]
   ·have nW:¬((l1.getD i 0:Nat):Int)=((l2.getD i 0:Nat):Int):=by omega
    rw[a9 nW,be,bq]
    simp -implicitDefEqProofs only[List.cons.injEq,hx,false_and,decide_false]
 rw[Wd,am6,bE,bE,dF,bW,bP,dF,bW,bP,aB5]
 by_cases hn:n1=n2
 ·subst hn
  rw[show(!(n1 == n1))=false from by simp]
  simp -implicitDefEqProofs only[dA,dw,dF,dT,bW,bP,ln1,Xx,eO,true_and]
  by_cases hl:l1.length=l2.length
  ·have e:¬¬(l1.length:Int)=(l2.length:Int):=by omega
   rw[aT e,bf,Q3 _ (aA _ _ _)]
   have:=loop hl l1.length 0 (by omega)
   simp -implicitDefEqProofs only[bW] at this
   exact this
  ·have e:¬(l1.length:Int)=(l2.length:Int):=by omega
   have h:¬l1=l2:=fun e=>hl (by rw[e])
   rw[a9 e,be,bq,aT h]
 ·rw[show(!(n1 == n2))=true from by simp [hn]]
  simp -implicitDefEqProofs only[eY,c7,be,bq,hn,false_and,decide_false]
theorem aoZ(s:St)(a b c d:kw)(ha:so a)(hb:so b)(hc:so c)(hd:so d):aJ T1 G X 137 [Ac a b,Ac c d] s= .ok (.bool (decide ((a.neg=c.neg∧a.oO=c.oO)∧(b.neg=d.neg∧b.oO=d.oO)))) s:=by
 have c1:=SW G X s.ai a.neg c.neg a.v c.v a.oO c.oO ha.fz hc.fz ha.len
 have c2:=SW G X s.ai b.neg d.neg b.v d.v b.oO d.oO hb.fz hd.fz hb.len
 rw[Wb,am4]
 simp -implicitDefEqProofs only[bE,dF,bW,dT,↓e7,cP,eh,Nat.reduceAdd,Nat.reduceLeDiff,Nat.le_refl,List.take_succ_cons,List.take_zero,dc]
 rw[aN c1,aN c2]
 rw[Bool.decide_and (p:=a.neg=c.neg∧a.oO=c.oO)]
 cases decide (a.neg=c.neg∧a.oO=c.oO) with
 | true=>simp -implicitDefEqProofs only[dP,c7,bq,Bool.true_and]
 | false=>simp -implicitDefEqProofs only[fV,dw,bq,Bool.false_and]
def Be:kw:=⟨false,[], .nil⟩
theorem lK:so Be where
 g:=fun a e=>by cases e
 ok:=fun x hx=>absurd hx oR
 len:=by decide
theorem agf(s:St)(a b:kw)(ha:so a)(hb:so b):aJ T1 G X 87 [Ac a b] s= .ok (.bool (nG a b)) s:=by
 have c:=aoZ G X s.ai a b Be Be ha hb lK lK
 have bl:∀(S:St) (k:K1),(PP T1 G X).dh [.bool false, .sl 1 [] .nil, .bool false, .sl 1 [] .nil] [] S k=k (Ac Be Be) S:=fun S k=>rfl
 rw[ahi,avv,bE]
 simp -implicitDefEqProofs only[↓e7,cP,eh,Nat.reduceAdd,Nat.le_refl,List.take_succ_cons,List.take_zero,dc]
 rw[bl,dc]
 refine(aN c).trans ?_
 rw[bq]
 congr 2
 unfold nG Be
 cases a.neg <;> cases b.neg <;> simp
theorem SX(op:Int):dQ op≠0↔1≤op∧op≤16:=by
 rcases wR op with h | h | h | h | h | h | h | h | h | h | h | h | h | h | h | h | h
 all_goals try (subst h;decide)
 obtain⟨h1,h2,h3,h4,h5,h6,h7,h8,h9,CV,XI,XJ,XK,XL,XM,XN⟩:=h
 simp -implicitDefEqProofs only[dQ,h1,h2,h3,h4,h5,h6,h7,h8,h9,CV,XI,XJ,XK,XL,XM,XN,or_self,if_false,ne_eq,not_true_eq_false,false_iff]
 omega
theorem LC(op:Int):0≤dQ op:=by
 unfold dQ
 split
 ·decide
 ·split
  ·decide
  ·split <;> decide
section
variable(l:List aS)(g:Gr)(hg:∀a,g≠.bJ a)(i:Nat)(hi:i < l.length)(hlen:l.length < 9223372036854775806)(x:aS)(rN:l[i]? =some x)(hx:sp x)(s:St)
include hx
theorem SY:Fm (PP T1 G X) (.ref (.l s.ai.own.length) 0) (s.ai.new (.cells x.cs))= .ok (.bool (uH x)) s:=by
 have c1:=SV G X hx.x0 hx.x1 (s.ai.new (.cells x.cs))
 have c2:=SV G X hx.y0 hx.y1 (s.ai.new (.cells x.cs))
 have e1:=agf G X (s.ai.new (.cells x.cs)) x.x0 x.x1 hx.x0 hx.x1
 have e2:=agf G X (s.ai.new (.cells x.cs)) x.y0 x.y1 hx.y0 hx.y1
 have fin:=fun b=>eH (T:=T1) (G:=G) (X:=X) ((Child.ai s).new (.cells x.cs)) b
 rw[QK _ (aA _ _ _),aC,Nat.zero_add,uI,bj]
 unfold uH
 by_cases h1:x.op=1
 ·rw[a9 h1,be,aC,Nat.zero_add,Jb,dc,aN c1,if_pos h1]
  cases hv:oB x.x0 x.x1 with
  | false=>simp -implicitDefEqProofs only[fV,dw,fin,Bool.false_and]
  | true=>simp -implicitDefEqProofs only[dP,c7,aC,Nat.zero_add,↓Jc,dc,↓(aN c2),fin,Bool.true_and]
 ·rw[aT h1,bf,bj,if_neg h1]
  by_cases h2:x.op=2
  ·rw[a9 h2,be,aC,Nat.zero_add,Jb,dc,aN c1,if_pos h2]
   cases hv:oB x.x0 x.x1 with
   | false=>simp -implicitDefEqProofs only[fV,dw,fin,Bool.false_and]
   | true=>simp -implicitDefEqProofs only[dP,c7,aC,Nat.zero_add,↓Jc,dc,↓(aN e2),fin,Bool.true_and]
  ·rw[aT h2,bf,QJ _ (aA _ _ _),aC,Nat.zero_add,Jb,dc,aN e1,if_neg h2]
   cases hv:nG x.x0 x.x1 with
   | false=>simp -implicitDefEqProofs only[fV,dw,fin,Bool.false_and]
   | true=>simp -implicitDefEqProofs only[dP,c7,aC,Nat.zero_add,↓Jc,dc,↓(aN e2),fin,Bool.true_and]
theorem XV:K7 (PP T1 G X) (.ref (.l s.ai.own.length) 0) (.bool (oP x.op)) (s.ai.new (.cells x.cs))= .ok (.bool (Ad x.op x.br && uH x)) s:=by
 have j10:=SY G X x hx s
 have fin:=fun b=>eH (T:=T1) (G:=G) (X:=X) ((Child.ai s).new (.cells x.cs)) b
 rw[VI _ (aA _ _ _)]
 unfold Ad
 cases hb:oP x.op with
 | true=>
  by_cases h1:x.br=1
  ·simp -implicitDefEqProofs only[dP,c7,aC,Nat.zero_add,↓qH,eO,aT (not_not_intro h1),fV,dA,dw,bf,uJ,Bool.not_true,j10,if_true,a9 (Or.inl h1:x.br=1∨x.br=2),Bool.true_and]
  ·by_cases h2:x.br=2
   ·simp -implicitDefEqProofs only[dP,c7,aC,Nat.zero_add,↓qH,eO,a9 h1,aT (not_not_intro h2),fV,dA,dw,bf,uJ,Bool.not_true,j10,if_true,a9 (Or.inr h2:x.br=1∨x.br=2),Bool.true_and]
   ·have h3:¬(x.br=1∨x.br=2):=by omega
    simp -implicitDefEqProofs only[dP,c7,aC,Nat.zero_add,↓qH,eO,a9 h1,a9 h2,eY,be,fin,if_true,aT h3,Bool.false_and,eG]
 | false=>
  by_cases h0:x.br=0
  ·simp -implicitDefEqProofs only[fV,dw,dA,dP,uJ,Bool.not_false,aC,Nat.zero_add,↓qH,eO,aT (not_not_intro h0),c7,bf,j10,co,if_false,a9 h0,Bool.true_and]
  ·simp -implicitDefEqProofs only[fV,dw,dA,dP,uJ,Bool.not_false,aC,Nat.zero_add,↓qH,eO,a9 (show¬x.br=0 from h0),c7,be,fin,co,if_false,aT h0,Bool.false_and]
include hi hlen
theorem XW:∀n k:Nat,k+n=i→C7 (PP T1 G X) (bQ l g) (.int .i64 (i:Int)) (.ref (.l s.ai.own.length) 0) (.bool (oP x.op)) (.int .i64 (k:Int)) (s.ai.new (.cells x.cs))= .ok (.bool (!pI ((l.take i).drop k) x && (Ad x.op x.br && uH x))) s:=by
 have fin:=fun b=>eH (T:=T1) (G:=G) (X:=X) ((Child.ai s).new (.cells x.cs)) b
 intro n
 induction n with
 | zero=>
  intro k hk
  have e:¬(k:Int) < (i:Int):=by omega
  rw[Fo _ (aA _ _ _),bb,aT e,bf,XV G X x hx s,List.drop_of_length_le (by simp;omega)]
  rfl
 | succ n ih=>
  intro k hk
  have e:(k:Int) < (i:Int):=by omega
  have sr:k < l.length:=by omega
  have ek:(l.map aS.enc)[k]? =some l[k].enc:=by simp [sr]
  have ip:=fun(K:K1)=>l9 (T:=T1) (G:=G) (X:=X) (s:=s.ai.new (.cells x.cs)) (k:=K) 12 _ g .i64 k _ ek
  have hd:(l.take i).drop k=l[k] :: (l.take i).drop (k+1):=by
   rw[List.drop_eq_getElem_cons (by simp;omega)]
   simp
  have a3:=fun(S:St) (K:K1)=>qB (T:=T1) (G:=G) (X:=X) (s:=S) (k:=K) k (by omega)
  rw[Fo _ (aA _ _ _),bb,a9 e,be,VH _ (aA _ _ _),ip,hd]
  generalize l[k]=o
  have GV:∀K:K1,(PP T1 G X).aq (s.ai.new (.cells x.cs)) K none (.bO (o.enc.cells.drop 0))=K (.str o.name) (s.ai.new (.cells x.cs)):=fun K=>rfl
  rw[dF,GV,aC,Nat.zero_add,aoU,vF]
  simp -implicitDefEqProofs only[pI,List.any_cons]
  by_cases hn:o.name=x.name
  ·rw[a9 hn,be,fin,Bool.true_or]
   rfl
  ·rw[aT hn,bf,VG _ (aA _ _ _),a3,Bool.false_or]
   exact ih (k+1) (by omega)
include rN in
theorem XX(ws:List Int)(gw:Gr)(hlw:ws.length=x.args.length)(lW:∀o,o∈l.take i→dQ o.op≠0):∀n k:Nat,k+n=ws.length→
  C8 (PP T1 G X) (bQ l g) (.int .i64 (i:Int)) (.ref (.l s.ai.own.length) 0) (gp ws gw) (.bool (oP x.op)) (.int .i64 (k:Int)) (s.ai.new (.cells x.cs))= .ok (.bool (mE (l.take i) (ws.drop k) (x.args.drop k) && (!pI (l.take i) x && (Ad x.op x.br && uH x)))) s:=by
 have fin:=fun b=>eH (T:=T1) (G:=G) (X:=X) ((Child.ai s).new (.cells x.cs)) b
 have ya:=hx.al
 have ewl:(ws.map I).length=ws.length:=cw ..
 intro n
 induction n with
 | zero=>
  intro k hk
  have e:¬(k:Int) < (ws.length:Int):=by omega
  have l6:=XW G X l g i hi hlen x hx s i 0 (by omega)
  rw[bW] at l6
  rw[Fp _ (aA _ _ _),bt,ewl,bb,aT e,bf,VJ _ (aA _ _ _),List.drop_of_length_le (by omega),List.drop_of_length_le (by omega)]
  refine l6.trans ?_
  simp -implicitDefEqProofs only[mE,Bool.true_and]
 | succ n ih=>
  intro k hk
  have e:(k:Int) < (ws.length:Int):=by omega
  have hka:k < x.args.length:=by omega
  have hkw:k < ws.length:=by omega
  have ea:(x.args.map I)[k]? =some (I x.args[k]):=by simp [hka]
  have ew:(ws.map I)[k]? =some (I ws[k]):=by simp [hkw]
  have ia:∀K:K1,(PP T1 G X).aX (s.ai.new (.cells x.cs)) K 1 (gp x.args x.ga) (.int .i64 (k:Int))=K (.bO [I x.args[k]]) (s.ai.new (.cells x.cs)):=fun K=>l9 (T:=T1) (G:=G) (X:=X) (s:=s.ai.new (.cells x.cs)) (k:=K) 1 _ x.ga .i64 k _ ea
  have iw:∀K:K1,(PP T1 G X).aX (s.ai.new (.cells x.cs)) K 1 (gp ws gw) (.int .i64 (k:Int))=K (.bO [I ws[k]]) (s.ai.new (.cells x.cs)):=fun K=>l9 (T:=T1) (G:=G) (X:=X) (s:=s.ai.new (.cells x.cs)) (k:=K) 1 _ gw .i64 k _ ew
  have a3:=fun(S:St) (K:K1)=>qB (T:=T1) (G:=G) (X:=X) (s:=S) (k:=K) k (by omega)
  have uK:(l.take i).length=i:=by simp;omega
  rw[Fp _ (aA _ _ _),bt,ewl,bb,a9 e,be,VF _ (aA _ _ _),aC,Nat.zero_add,agc,ia,bP,bb,List.drop_eq_getElem_cons hka,List.drop_eq_getElem_cons hkw,mE]
  unfold Bb
  rw[uK]
  by_cases h1:x.args[k] < 0
  ·have h2:¬(0≤x.args[k]∧x.args[k] < (i:Int)):=by omega
   simp -implicitDefEqProofs only[a9 h1,eY,c7,be,fin,aT h2,Bool.false_and]
  ·by_cases h2:(i:Int)≤x.args[k]
   ·have h3:¬(0≤x.args[k]∧x.args[k] < (i:Int)):=by omega
    simp -implicitDefEqProofs only[aT h1,dA,dw,gQ,a9 h2,eY,c7,be,fin,aT h3,Bool.false_and]
   ·have h3:0≤x.args[k]∧x.args[k] < (i:Int):=by omega
    have cM:x.args[k].toNat < l.length:=by omega
    have YS:x.args[k].toNat < (l.take i).length:=by omega
    have ep:(l.map aS.enc)[x.args[k].toNat]? =some l[x.args[k].toNat].enc:=by simp [cM]
    have ep2:(l.take i)[x.args[k].toNat]? =some l[x.args[k].toNat]:=by
     rw[List.getElem?_take,if_pos (by omega),d8 cM]
    have ip:=fun(K:K1)=>Y5 (T:=T1) (G:=G) (X:=X) (s:=s.ai.new (.cells x.cs)) (k:=K) 12 _ g .i64 x.args[k] _ h3.1 ep
    have kj:l[x.args[k].toNat]∈l.take i:=List.mem_of_getElem? ep2
    generalize hoe:l[x.args[k].toNat]=o at *
    have c85:=aga G X o.op {own:=[],up:=[],ro:=[]}
    have c84:=awG G X (dQ o.op) ws[k] (s.ai.new (.cells x.cs)) (LC _) (fun _=>lW o kj)
    have GV:∀K:K1,(PP T1 G X).aq (s.ai.new (.cells x.cs)) K none (.bO (o.enc.cells.drop 1))=K (I o.op) (s.ai.new (.cells x.cs)):=fun K=>rfl
    simp -implicitDefEqProofs only[aT h1,dA,dw,gQ,aT h2]
    rw[ip,dF,GV,cD,yi rfl c85 rfl]
    rw[iw,bP,cD,cD,aN c84,uJ]
    simp -implicitDefEqProofs only[ep2,a9 h3,Bool.true_and]
    cases aE6:acc ws[k] (dQ o.op) with
    | false=>simp -implicitDefEqProofs only[Bool.not_false,be,fin,Bool.false_and]
    | true=>
     simp -implicitDefEqProofs only[Bool.not_true,bf,Bool.true_and,VE _ (aA _ _ _),a3]
     exact ih (k+1) (by omega)
include rN in
theorem awL(lW:∀o,o∈l.take i→dQ o.op≠0):aJ T1 G X 48 [bQ l g, .int .i64 (i:Int)] s= .ok (.bool (wf (l.take i) x)) s:=by
 have fin:=fun b=>eH (T:=T1) (G:=G) (X:=X) ((Child.ai s).new (.cells x.cs)) b
 have ep:(l.map aS.enc)[i]? =some x.enc:=by rw[List.getElem?_map,rN];rfl
 have ip:=fun(S:St) (k:K1)=>kF G X S k 12 _ g .i64 i _ ep
 have Il:∀(S:St) (k:K1),(PP T1 G X).aq S k (some 12) (.bO x.enc.cells)=k x.enc S:=fun S k=>e7 (T:=T1) (G:=G) (X:=X) (s:=S) (k:=k) 12 x.cs (Nat.le_refl 12)
 have pe:∀d,AV.av d x.enc=x.enc:=fun d=>rfl
 have st:=fun(k:K1) (cs:List AV) (h:cs.length=12)=>qz (T:=T1) (G:=G) (X:=X) (s:=s.ai) (k:=k) 12 x.cs cs rfl h x.cells
 have Ki:=Ly G X x.op (s.ai.new (.cells x.cs))
 have ya:=hx.al
 have l2:=fun h=>XX G X l g i hi hlen x rN hx s (jC x.op) (GR x.op) h lW (jC x.op).length 0 (by omega)
 have ewl:((jC x.op).map I).length=(jC x.op).length:=cw ..
 have eal:(x.args.map I).length=x.args.length:=cw ..
 have hr:=SX x.op
 rw[ag6,avi,ip,Il,jR,pe]
 refine(st _ _ rfl).trans ?_
 rw[aC,Nat.zero_add,uI,cD,aN Ki,lm,lq,AP,aC,Nat.zero_add,uI,bb]
 unfold wf
 by_cases h0:x.op < 1
 ·have h0':¬dQ x.op≠0:=fun h=>by have:=hr.1 h;omega
  simp -implicitDefEqProofs only[a9 h0,eY,c7,be,fin,aT h0',Bool.false_and]
 ·by_cases h0b:16 < x.op
  ·have h0':¬dQ x.op≠0:=fun h=>by have:=hr.1 h;omega
   simp -implicitDefEqProofs only[aT h0,dA,dw,aC,Nat.zero_add,↓uI,dV,a9 h0b,eY,c7,be,fin,aT h0',Bool.false_and]
  ·have h0':dQ x.op≠0:=hr.2 (by omega)
   simp -implicitDefEqProofs only[aT h0,dA,dw,aC,Nat.zero_add,↓uI,dV,aT h0b,↓agc,bt,eO,ewl,eal,a9 h0',Bool.true_and]
   by_cases h1:(jC x.op).length=x.args.length
   ·have nk:¬¬(x.args.length:Int)=((jC x.op).length:Int):=by omega
    simp -implicitDefEqProofs only[aT nk,dA,dw,↓aoU,vF,a9 h1,Bool.true_and]
    by_cases h2:x.name=[]
    ·simp -implicitDefEqProofs only[a9 h2,be,fin,aT (not_not_intro h2:¬x.name≠[]),Bool.false_and]
    ·simp -implicitDefEqProofs only[aT h2,bf,VK _ (aA _ _ _),a9 (show x.name≠[] from h2),Bool.true_and]
     have:=l2 h1
     simp -implicitDefEqProofs only[bW] at this
     refine this.trans ?_
     congr 2
     cases mE (l.take i) (jC x.op) x.args <;> cases pI (l.take i) x <;> cases Ad x.op x.br <;> cases uH x <;> rfl
   ·have nk:¬(x.args.length:Int)=((jC x.op).length:Int):=by omega
    simp -implicitDefEqProofs only[a9 nk,eY,c7,be,fin,aT h1,Bool.false_and]
end
theorem awM(l:List aS)(g:Gr)(s:St)(hl:l.length≤1000):aJ T1 G X 49 [bQ l g] s= .ok (.sl 2 ((jb l 0).map ti) (fO (jb l 0))) s:=by
 have loop:∀n i:Nat,i+n=l.length→∀(es:List (Nat×Nat)) (ge:Gr) (S:St),Child s S→iX S ge es.length→es.length≤2 * i→
   C9 (PP T1 G X) (bQ l g) (.sl 2 (es.map ti) ge) (.int .i64 (i:Int)) S= .ok (.sl 2 ((es ++ jb (l.drop i) i).map ti) (fO (es ++ jb (l.drop i) i))) s:=by
  intro n
  induction n with
  | zero=>
   intro i hi es ge S hS hg he
   have e:¬(i:Int) < (l.length:Int):=by omega
   rw[Ft _ (aA _ _ _),bt,cw,bb,aT e,bf,VM _ (aA _ _ _),List.drop_of_length_le (by omega)]
   simp only[jb,List.append_nil]
   have:=nC (S:=S) (sz:=2) (es:=es.map ti) (g:=ge) (by simpa using hg) (pJ es)
   rw[pX] at this
   exact jv hS _ _ this
  | succ n ih=>
   intro i hi es ge S hS hg he
   have e:(i:Int) < (l.length:Int):=by omega
   have na:i < l.length:=by omega
   have ei:(l.map aS.enc)[i]? =some l[i].enc:=by simp [na]
   have ip:=fun(k:K1)=>kF G X S k 12 _ g .i64 i _ ei
   have hgo:∀x,l[i]=x→l.drop i=x :: l.drop (i+1):=fun x hx=>by rw[←hx];exact List.drop_eq_getElem_cons na
   generalize hx:l[i]=x at *
   have GV:∀K:K1,(PP T1 G X).aq S K none (.bO (x.enc.cells.drop 1))=K (I x.op) S:=fun K=>rfl
   have a3:=fun(S:St) (k:K1)=>gD G X S k i (by omega)
   have hd:=hgo x rfl
   have app:∀new:List (Nat×Nat),new=lB i x→new≠[]→(PP T1 G X).cz S (fun v S=>zb (PP T1 G X) (bQ l g) v (.int .i64 (i:Int)) S) 2 16 (some (.l 0)) (.sl 2 (es.map ti) ge) (.sl 2 (new.map ti) .exact)= .ok (.sl 2 ((es ++ jb (l.drop i) i).map ti) (fO (es ++ jb (l.drop i) i))) s:=fun new ic cK=>by
    have hlen:new.length≤2:=by rw[ic];exact GU i x
    refine AO (by simpa using hg) (by simpa using cK) (by simp;omega) (Bc new) (fun g' S' qg h1 h2 h3 JG=>?_)
    rw[Fs _ (aA _ _ _),a3,←List.map_append]
    have:=ih (i+1) (by omega) (es ++ new) g' S' (JG.child hS) (by simpa using qg) (by simp;omega)
    rw[this,hd]
    simp only[jb,ic,pY]
   rw[Ft _ (aA _ _ _),bt,cw,bb,a9 e,be,VL _ (aA _ _ _),ip,dF,GV,bj]
   by_cases h1:x.op=1
   ·have hi:lB i x=[(i,0),(i,1)]:=by unfold lB;rw[if_pos h1]
    have a:=app _ hi.symm (by simp)
    rw[a9 h1,be]
    refine(vG G X i 0 _).trans ?_
    refine(vG G X i 1 _).trans ?_
    refine(LB G X [(i,0),(i,1)]).trans ?_
    exact a
   ·rw[aT h1,bf,bj]
    by_cases h2:x.op=2
    ·have hi:lB i x=[(i,0)]:=by unfold lB;rw[if_neg h1,if_pos h2]
     have a:=app _ hi.symm (by simp)
     rw[a9 h2,be]
     refine(vG G X i 0 _).trans ?_
     refine(LB G X [(i,0)]).trans ?_
     exact a
    ·have hi:lB i x=[]:=by unfold lB;rw[if_neg h1,if_neg h2]
     have:=ih (i+1) (by omega) es ge S hS hg (by omega)
     rw[aT h2,bf,Fs _ (aA _ _ _),a3,this,hd]
     simp only[jb,hi,List.nil_append]
 rw[ag7,avj]
 have:=loop l.length 0 (by omega) [] .nil s.ai (.ai s) .nil (by simp)
 simp only[List.map_nil,List.nil_append,bW] at this
 exact this
abbrev IN(n:Nat):AV:=I (n:Int)
def rD:List aS→Nat→List Nat
 | [],_=>[]
 | x :: r,i=>(if oP x.op=true then[i] else[]) ++ rD r (i+1)
theorem GW:∀(l:List aS) (i:Nat),(rD l i).length=nb l
 | [],_=>rfl
 | x :: r,i=>by
  simp only[rD,dp,GW r (i+1),nb,List.filter_cons]
  split <;> simp <;> omega
theorem Ae:∀l:List Nat,AV.ba (l.map IN)=true
 | []=>rfl
 | x :: l=>by simp only[List.map_cons,AV.ba,Ae l,Bool.and_true];rfl
theorem awN(l:List aS)(g:Gr)(s:St)(hl:l.length≤1000):aJ T1 G X 50 [bQ l g] s= .ok (.sl 1 ((rD l 0).map IN) (fO (rD l 0))) s:=by
 have loop:∀n i:Nat,i+n=l.length→∀(es:List Nat) (ge:Gr) (S:St),Child s S→iX S ge es.length→es.length≤i→
   Da (PP T1 G X) (bQ l g) (.sl 1 (es.map IN) ge) (.int .i64 (i:Int)) S= .ok (.sl 1 ((es ++ rD (l.drop i) i).map IN) (fO (es ++ rD (l.drop i) i))) s:=by
  intro n
  induction n with
  | zero=>
   intro i hi es ge S hS hg he
   have e:¬(i:Int) < (l.length:Int):=by omega
   rw[Fw _ (aA _ _ _),bt,cw,bb,aT e,bf,VO _ (aA _ _ _),List.drop_of_length_le (by omega)]
   simp only[rD,List.append_nil]
   have:=nC (S:=S) (sz:=1) (es:=es.map IN) (g:=ge) (by simpa using hg) (Ae es)
   rw[pX] at this
   exact jv hS _ _ this
  | succ n ih=>
   intro i hi es ge S hS hg he
   have e:(i:Int) < (l.length:Int):=by omega
   have na:i < l.length:=by omega
   have ei:(l.map aS.enc)[i]? =some l[i].enc:=by simp [na]
   have ip:=fun(k:K1)=>kF G X S k 12 _ g .i64 i _ ei
   have hgo:∀x,l[i]=x→l.drop i=x :: l.drop (i+1):=fun x hx=>by rw[←hx];exact List.drop_eq_getElem_cons na
   generalize hx:l[i]=x at *
   have GV:∀K:K1,(PP T1 G X).aq S K none (.bO (x.enc.cells.drop 1))=K (I x.op) S:=fun K=>rfl
   have Ki:=Ly G X x.op S
   have a3:=fun(S:St) (k:K1)=>gD G X S k i (by omega)
   have hd:=hgo x rfl
   rw[Fw _ (aA _ _ _),bt,cw,bb,a9 e,be,VN _ (aA _ _ _),ip,dF,GV,cD,aN Ki,lm,lq,AP]
   cases hb:oP x.op with
   | true=>
    have bs:=fun k:K1=>aoP G X (S:=S) (k:=k) [(i:Int)]
    rw[be]
    refine(bs _).trans ?_
    refine AO (new:=[IN i]) (by simpa using hg) (by simp) (by simp;omega) rfl (fun g' S' qg h1 h2 h3 JG=>?_)
    have:=ih (i+1) (by omega) (es ++ [i]) g' S' (JG.child hS) (by simpa using qg) (by simp;omega)
    rw[List.map_append] at this
    rw[Fv _ (aA _ _ _),a3]
    refine this.trans ?_
    rw[hd]
    simp only[rD,hb,if_true,pY]
   | false=>
    have:=ih (i+1) (by omega) es ge S hS hg (by omega)
    rw[bf,Fv _ (aA _ _ _),a3,this,hd]
    simp only[rD,hb,co,if_false,List.nil_append]
 rw[ag8,avk]
 have:=loop l.length 0 (by omega) [] .nil s.ai (.ai s) .nil (by simp)
 simp only[List.map_nil,List.nil_append,bW] at this
 exact this
theorem awO{pre:List aS}{x:aS}(h:wf pre x=true):dQ x.op≠0:=by
 unfold wf at h
 simp only[bD,jV] at h
 exact h.1.1.1
theorem agh(l:List aS)(g:Gr)(hg:∀a,g≠.bJ a)(s:St)(hl:l.length < 9223372036854775806)(ct:∀o,o∈l→sp o):aJ T1 G X 14 [bQ l g] s= .ok (I (fB l)) s:=by
 have fin:K4 (PP T1 G X) (bQ l g) s.ai= .ok (I (if 40 < l.length∨5 < nb l∨20 < (jb l 0).length then 111 else 0)) s:=by
  rw[Vx _ (aA _ _ _),bt,cw,dV]
  by_cases h1:40 < l.length
  ·have e:(40:Int) < (l.length:Int):=by omega
   rw[if_pos (.inl h1)]
   simp only[a9 e,eY,c7,be]
   exact b8 _ _
  ·have e:¬(40:Int) < (l.length:Int):=by omega
   have c:=awM G X l g s.ai (by omega)
   have c2:=awN G X l g s.ai (by omega)
   simp only[aT e,dA,dw,fk _ hg]
   rw[aN c]
   simp only[bt,cw,dV]
   by_cases h3:20 < (jb l 0).length
   ·have e3:(20:Int) < ((jb l 0).length:Int):=by omega
    rw[if_pos (.inr (.inr h3))]
    simp only[a9 e3,eY,c7,be]
    exact b8 _ _
   ·have e3:¬(20:Int) < ((jb l 0).length:Int):=by omega
    simp only[aT e3,dA,dw,fk _ hg]
    rw[aN c2]
    simp only[bt,cw,dV,GW]
    by_cases h2:5 < nb l
    ·have e2:(5:Int) < (nb l:Int):=by omega
     rw[if_pos (.inr (.inl h2)),a9 e2,be]
     exact b8 _ _
    ·have e2:¬(5:Int) < (nb l:Int):=by omega
     rw[if_neg (by omega),aT e2,bf,Vv _ (aA _ _ _)]
     exact b8 _ _
 have loop:∀n i:Nat,i+n=l.length→(∀o,o∈l.take i→dQ o.op≠0)→
   C5 (PP T1 G X) (bQ l g) (.int .i64 (i:Int)) s.ai= .ok (I (bif lC (l.take i) (l.drop i) then(if 40 < l.length∨5 < nb l∨20 < (jb l 0).length then 111 else 0) else 120)) s:=by
  intro n
  induction n with
  | zero=>
   intro i hi _
   have e:¬(i:Int) < (l.length:Int):=by omega
   rw[Fh _ (aA _ _ _),bt,cw,bb,aT e,bf,List.drop_of_length_le (by omega),fin]
   rfl
  | succ n ih=>
   intro i hi lW
   have e:(i:Int) < (l.length:Int):=by omega
   have na:i < l.length:=by omega
   have rN:l[i]? =some l[i]:=d8 na
   have kj:l[i]∈l:=nd na
   have hd:l.drop i=l[i] :: l.drop (i+1):=List.drop_eq_getElem_cons na
   have ht:l.take (i+1)=l.take i ++ [l[i]]:=List.take_succ_eq_append_getElem na
   generalize hx:l[i]=x at *
   have a3:=fun(S:St) (k:K1)=>gD G X S k i (by omega)
   have CU:=awL G X l g i na hl x rN (ct x kj) s.ai lW
   rw[Fh _ (aA _ _ _),bt,cw,bb,a9 e,be,Vu _ (aA _ _ _),fk _ hg,cD,aN CU,fh,hd]
   simp only[lC]
   cases hw:wf (l.take i) x with
   | false=>
    rw[Bool.not_false,be,Bool.false_and,cond_false]
    exact b8 _ _
   | true=>
    rw[Bool.not_true,bf,Bool.true_and,Vt _ (aA _ _ _),a3,←ht]
    refine ih (i+1) (by omega) (fun o ho=>?_)
    rw[ht] at ho
    rcases List.mem_append.1 ho with h | h
    ·exact lW o h
    ·rw[List.mem_singleton.1 h];exact awO hw
 rw[ag3,avb]
 exact loop l.length 0 (by omega) (fun o ho=>by simp at ho)
end Go.jY
end
section
namespace Go.Ab
def St.cC(s:St)(d:Nat):List bg:=if d=s.aa then s.own else(s.up[s.aa - 1 - d]?).getD []
def St.bz(s:St)(d:Nat)(F:List bg):St:=if d=s.aa then {s with own:=F} else {s with up:=s.up.set (s.aa - 1 - d) F}
structure fE (s:St) (d:Nat):Prop where
 lo:s.ro.length≤d
 hi:d≤s.aa
theorem St.sv(s:St):s.aa=s.up.length+s.ro.length:=rfl
theorem fE.idx{s:St}{d:Nat}(h:fE s d)(hd:d≠s.aa):s.aa - 1 - d < s.up.length:=by
 have:=h.lo;have:=h.hi;have:=s.sv;omega
theorem eV(s:St)(d:Nat)(F:List bg):(s.bz d F).aa=s.aa:=by
 unfold St.bz;split <;> simp [St.aa]
theorem SZ(s:St)(d:Nat)(F:List bg):(s.bz d F).ro=s.ro:=by unfold St.bz;split <;> rfl
theorem ahO{s:St}{d:Nat}(h:d≠s.aa)(F:List bg):(s.bz d F).own=s.own:=by unfold St.bz;rw[if_neg h]
theorem fE.put{s:St}{d:Nat}(h:fE s d)(e:Nat)(F:List bg):fE (s.bz e F) d:=⟨by rw[SZ];exact h.lo,by rw[eV];exact h.hi⟩
theorem fE.ai{s:St}{d:Nat}(h:fE s d):fE s.ai d:=⟨h.lo,by have:=h.hi;simp only[St.ai,St.aa,cP] at *;omega⟩
theorem gF(s:St):s.ai.aa=s.aa+1:=(Child.ai s).aa
theorem fE.new{s:St}{d:Nat}(h:fE s d)(o:bg):fE (s.new o) d:=⟨h.lo,h.hi⟩
theorem cj{s:St}{d:Nat}(h:fE s d)(F:List bg):(s.bz d F).cC d=F:=by
 unfold St.cC
 rw[eV]
 unfold St.bz
 by_cases e:d=s.aa
 ·rw[if_pos e,if_pos e]
 ·rw[if_neg e,if_neg e]
  have:=h.idx e
  simp [this]
theorem LD{s:St}{d e:Nat}(hd:fE s d)(he:fE s e)(cK:d≠e)(F:List bg):(s.bz d F).cC e=s.cC e:=by
 unfold St.cC
 rw[eV]
 unfold St.bz
 by_cases e1:d=s.aa
 ·rw[if_pos e1]
  have:e≠s.aa:=fun h=>cK (by rw[e1,h])
  rw[if_neg this,if_neg this]
 ·rw[if_neg e1]
  by_cases e2:e=s.aa
  ·rw[if_pos e2,if_pos e2]
  ·rw[if_neg e2,if_neg e2]
   have h1:=hd.hi
   have h2:=he.hi
   rw[eM (by omega)]
theorem gT(s:St)(d:Nat)(F F':List bg):(s.bz d F).bz d F'=s.bz d F':=by
 unfold St.bz
 by_cases e:d=s.aa
 ·rw[if_pos e,if_pos e]
  have:d=({s with own:=F}:St).aa:=e
  rw[if_pos this]
 ·rw[if_neg e,if_neg e]
  have:({s with up:=s.up.set (s.aa - 1 - d) F}:St).aa=s.aa:=by simp [St.aa]
  rw[if_neg (by rw[this];exact e),this]
  simp
theorem mN{s:St}{d:Nat}(h:fE s d):s.bz d (s.cC d)=s:=by
 unfold St.bz St.cC
 by_cases e:d=s.aa
 ·rw[if_pos e,if_pos e]
 ·rw[if_neg e,if_neg e]
  have hi:=h.idx e
  obtain⟨own,up,ro⟩:=s
  simp only[d8 hi,Option.getD_some]
  congr 1
  exact List.set_getElem_self hi
theorem GX{s:St}{d e:Nat}(hd:fE s d)(he:fE s e)(cK:d≠e)(F F':List bg):(s.bz d F).bz e F'=(s.bz e F').bz d F:=by
 have p1:=eV s d F
 have p2:=eV s e F'
 have h1:=hd.hi
 have h2:=he.hi
 by_cases e1:d=s.aa
 ·have e2:e≠s.aa:=fun h=>cK (by rw[e1,h])
  unfold St.bz at *
  rw[if_pos e1] at p1 ⊢
  rw[if_neg e2] at p2 ⊢
  rw[p1,p2,if_neg e2,if_pos e1]
 ·by_cases e2:e=s.aa
  ·unfold St.bz at *
   rw[if_neg e1] at p1 ⊢
   rw[if_pos e2] at p2 ⊢
   rw[p1,p2,if_pos e2,if_neg e1]
  ·unfold St.bz at *
   rw[if_neg e1] at p1 ⊢
   rw[if_neg e2] at p2 ⊢
   rw[p1,p2,if_neg e2,if_neg e1]
   simp only
   rw[List.set_comm _ _ (by omega)]
theorem nH{s:St}{d:Nat}(h:fE s d)(i:Nat):s.get (.g d i)=(s.cC d)[i]?:=by
 unfold St.cC
 simp only[St.get]
 by_cases e:d=s.aa
 ·rw[if_pos e,if_pos e]
 ·have hi:=h.hi
  rw[if_neg e,if_neg e,if_pos (by omega)]
  have hx:=h.idx e
  rw[eZ hx,d8 hx]
  rfl
theorem uL{s:St}{d:Nat}(h:fE s d)(i:Nat)(o:bg):s.set (.g d i) o=some (s.bz d ((s.cC d).set i o)):=by
 unfold St.bz St.cC
 simp only[St.set]
 by_cases e:d=s.aa
 ·rw[if_pos e,if_pos e,if_pos e]
 ·have hi:=h.hi
  rw[if_neg e,if_neg e,if_neg e,if_pos ⟨by omega,h.lo⟩]
  have hx:=h.idx e
  congr 2
  rw[d8 hx]
  apply List.ext_getElem?
  intro j
  rw[List.getElem?_modify]
  by_cases hj:s.aa - 1 - d=j
  ·subst hj;simp [hx]
  ·rw[eM hj];simp [hj]
theorem wU{s:St}{d:Nat}(h:fE s d)(cM:d≠s.aa)(i:Nat)(o:bg):s.gK (.g d i) o=some (.g d (s.cC d).length,s.bz d (s.cC d ++ [o])):=by
 have hi:=h.hi
 have hx:=h.idx cM
 unfold St.bz St.cC
 simp only[St.gK]
 rw[if_neg cM,if_neg cM,if_neg cM,if_pos ⟨by omega,h.lo⟩,d8 hx]
 simp only[Option.getD_some]
 congr 3
 apply List.ext_getElem?
 intro j
 rw[List.getElem?_modify]
 by_cases hj:s.aa - 1 - d=j
 ·subst hj;simp [hx]
 ·rw[eM hj];simp [hj]
theorem fI{s:St}{d:Nat}(h:fE s d):s.ai.cC d=s.cC d:=by
 have hi:=h.hi
 have he:=gF s
 unfold St.cC
 rw[he,if_neg (by omega)]
 show((s.own :: s.up)[s.aa+1 - 1 - d]?).getD []=_
 by_cases e:d=s.aa
 ·subst e;rw[if_pos rfl];simp
 ·rw[if_neg e,show s.aa+1 - 1 - d=(s.aa - 1 - d)+1 by omega];rfl
theorem jx{s:St}{d:Nat}(h:fE s d)(F:List bg):(s.bz d F).ai=s.ai.bz d F:=by
 have hi:=h.hi
 have he:=gF s
 unfold St.bz
 rw[if_neg (show¬d=s.ai.aa by omega),he]
 by_cases e:d=s.aa
 ·subst e;rw[if_pos rfl];simp [St.ai]
 ·rw[if_neg e,show s.aa+1 - 1 - d=(s.aa - 1 - d)+1 by omega];rfl
theorem qI(s:St):s.cC s.aa=s.own:=by unfold St.cC;rw[if_pos rfl]
section
variable{T:Nat→Option bT}{G:Nat→AV}{X:Nat→List AV→St→ax}{s:St}{k:K1}
theorem aU(a:Loc)(o:Nat):(PP T G X).aG s k (.ref a o)=k (.ref a o) s:=rfl
theorem hZ{d j o:Nat}{cs:List AV}{c:AV}(h:fE s d)(hf:(s.cC d)[j]? =some (.cells cs))(hc:cs[o]? =some c):(PP T G X).aq s k none (.ref (.g d j) o)=k c s:=by
 rw[nA]
 simp only[fK,nH h,hf,fm]
 have:cs.drop o=c :: cs.drop (o+1):=by
  have ho:=(bZ.1 hc)
  rw[List.drop_eq_getElem_cons ho.1,ho.2]
 rw[this]
 rfl
theorem lQ{d j o:Nat}{cs:List AV}{v:AV}(h:fE s d)(hf:(s.cC d)[j]? =some (.cells cs))(ho:o < cs.length)(hv:v.dU=true)(hw:v.cells=[v])(oK:v.fF=true)(hl:v.bo=true∨v.low d=true):(PP T G X).a7 s k 1 (.ref (.g d j) o) v=k .dead (s.bz d ((s.cC d).set j (.cells (cs.set o v)))):=by
 rw[pV]
 simp only[iS,oK,hw,cP,eh,Nat.zero_add,Nat.beq_refl,Bool.and_self,cond_true]
 unfold lG
 have ht:s.iR (.g d j) [v]=true:=by
  rcases hl with hl | hl
  ·simp [St.iR,AV.ba,hl]
  ·simp [St.iR,AV.nN,hl]
 simp only[nH h,hf,cP,eh,Nat.zero_add,show Nat.ble (o+1) cs.length=true from dy ho,ht,List.all_cons,hv,List.all_nil,Bool.and_self,cond_true]
 show(match s.set (.g d j) (.cells (di cs o [v])) with | some s=>k .dead s | none=>.fail)=_
 rw[uL h]
 rfl
def cH(F:List bg)(d:Nat)(g:Gr)(n:Nat):Prop:=(g= .nil∧n=0)∨∃t,g= .bJ (.g d t)∧0 < n∧F[t]? =some (.tok n)
structure q9 (F F':List bg) (d:Nat) (g:Gr):Prop where
 len:F.length≤F'.length
 pj:∀j o,F[j]? =some o→g≠.bJ (.g d j)→F'[j]? =some o
theorem XY{d i:Nat}(h:fE s d)(cM:d≠s.aa):(PP T G X).ta s k (some (.g d i))=k (.map (.g d (s.cC d).length)) (s.bz d (s.cC d ++ [.map []])):=by
 show mV (EV G (aJ T G X) bX) s k (some (.g d i))=_
 unfold mV
 simp only
 rw[wU h cM]
 rfl
abbrev uM(es:List (List Nat×Int)):List (AV×AV):=es.map fun p=>(.str p.1, .int .i64 p.2)
def lY:List (List Nat×Int)→List Nat→Option Int
 | [],_=>none
 | (x,v) :: es,w=>if w=x then some v else lY es w
def Af(w:List Nat)(v:Int):List (List Nat×Int)→List (List Nat×Int)
 | []=>[(w,v)]
 | (x,u) :: es=>if w=x then(x,v) :: es else(x,u) :: Af w v es
theorem Ag(w:List Nat):∀es,findKey (.str w) (uM es)=some ((lY es w).map fun v=>.int .i64 v)
 | []=>rfl
 | (x,v) :: es=>by
  simp only[List.map_cons,findKey,tN,lY]
  by_cases h:w=x
  ·subst h;simp
  ·have:(w == x)=false:=by simp [h]
   simp only[this,if_neg h]
   exact Ag w es
theorem CE(w:List Nat)(v:Int):∀es,putKey (.str w) (.int .i64 v) (uM es)=some (uM (Af w v es))
 | []=>rfl
 | (x,u) :: es=>by
  simp only[List.map_cons,putKey,tN,Af]
  by_cases h:w=x
  ·subst h;simp
  ·have:(w == x)=false:=by simp [h]
   simp only[this,if_neg h]
   have ih:=CE w v es
   simp only[uM] at ih
   rw[ih]
   rfl
theorem Bf(w:List Nat)(v:Int)(x:List Nat):∀es,lY (Af w v es) x=if x=w then some v else lY es x
 | []=>rfl
 | (y,u) :: es=>by
  simp only[Af]
  by_cases h:w=y
  ·subst h
   rw[if_pos rfl]
   simp only[lY]
   by_cases hx:x=w
   ·rw[if_pos hx,if_pos hx]
   ·rw[if_neg hx,if_neg hx,if_neg hx]
  ·rw[if_neg h]
   simp only[lY]
   by_cases hx:x=y
   ·subst hx
    rw[if_pos rfl,if_pos rfl,if_neg (fun e=>h e.symm)]
   ·rw[if_neg hx,if_neg hx,Bf w v x es]
theorem Je{d m:Nat}{es:List (List Nat×Int)}(h:fE s d)(hf:(s.cC d)[m]? =some (.map (uM es)))(w:List Nat):(PP T G X).n5 s k .str (.int .i64 0) false (.map (.g d m)) (.str w)=k (.int .i64 ((lY es w).getD 0)) s:=by
 show mi (EV G (aJ T G X) bX) s k .str (.int .i64 0) false (.map (.g d m)) (.str w)=_
 unfold mi
 simp only[isKey,entriesOf,nH h,hf,Ag,cond_true]
 cases lY es w <;> rfl
theorem S6{d m:Nat}{es:List (List Nat×Int)}(h:fE s d)(hf:(s.cC d)[m]? =some (.map (uM es)))(w:List Nat)(v:Int):(PP T G X).m0 s k .str (.map (.g d m)) (.str w) (.int .i64 v)=k .dead (s.bz d ((s.cC d).set m (.map (uM (Af w v es))))):=by
 show mh (EV G (aJ T G X) bX) s k .str (.map (.g d m)) (.str w) (.int .i64 v)=_
 unfold mh
 have ht:s.iR (.g d m) [.str w, .int .i64 v]=true:=by simp [St.iR,AV.ba,AV.bo]
 simp only[nH h,hf,isKey,AV.fF,ht,Bool.and_self,cond_true,CE]
 rw[uL h]
 rfl
end
end Go.Ab
end
section
namespace Go.jY
open Go.Ab Go.iY
variable(G:Nat→AV)(X:Nat→List AV→St→ax)
theorem GY(k:K1){s:St}{d j o:Nat}{cs:List AV}{c:AV}(h:fE s d)(hf:(s.cC d)[j]? =some (.cells cs))(hc:cs[o]? =some c):(PP T1 G X).aq s k none (.ref (.g d j) o)=k c s:=hZ h hf hc
structure gG where
 op:Int
 a:Int
 b:Int
def gG.enc(x:gG):AV:=.agg [I x.op,I x.a,I x.b]
structure cm where
 ins:List gG
 aL:List (List Int×Gr)
 roots:List Int
 env:List (List Nat×Int)
 dx:Int
abbrev bN(v:List Int×Gr):AV:=gp v.1 v.2
def cm.cells(A:cm)(mv:AV)(gi gv gr:Gr):List AV:=[I 0, .sl 3 (A.ins.map gG.enc) gi, .sl 1 (A.aL.map bN) gv,gp A.roots gr,mv,I A.dx]
def apart(d:Nat)(g g':Gr):Prop:=∀t,g= .bJ (.g d t)→g'≠.bJ (.g d t)
structure lD (F:List bg) (d j:Nat) (A:cm) (mv:AV) (gi gv gr:Gr):Prop where
 c:F[j]? =some (.cells (A.cells mv gi gv gr))
 wi:cH F d gi A.ins.length
 wv:cH F d gv A.aL.length
 wr:cH F d gr A.roots.length
 iv:apart d gi gv
 ir:apart d gi gr
 vr:apart d gv gr
theorem apart.symm{d:Nat}{g g':Gr}(h:apart d g g'):apart d g' g:=fun t e e'=>h t e' e
theorem cH.le{F:List bg}{d n t:Nat}(h:cH F d (.bJ (.g d t)) n):F[t]? =some (.tok n)∧0 < n:=by
 rcases h with⟨e,_⟩ | ⟨u,e,h1,h2⟩
 ·cases e
 ·cases e;exact⟨h2,h1⟩
theorem cH.aK{F F':List bg}{d n:Nat}{g:Gr}(h:cH F d g n)(hk:∀t,g= .bJ (.g d t)→F'[t]? =F[t]?):cH F' d g n:=by
 rcases h with h | ⟨t,e,h1,h2⟩
 ·exact .inl h
 ·exact .inr ⟨t,e,h1,by rw[hk t e,h2]⟩
def j0(F:List bg)(d:Nat)(mv:AV)(env:List (List Nat×Int)):Prop:=∃mp es,mv= .map (.g d mp)∧F[mp]? =some (.map (uM es))∧∀w,lY es w=lY env w
def ao1(F F':List bg)(d j:Nat)(gi:Gr):Prop:=∀i o,F[i]? =some o→i≠j→gi≠.bJ (.g d i)→F'[i]? =some o
theorem j0.aK{F F':List bg}{d j:Nat}{gi:Gr}{mv:AV}{env:List (List Nat×Int)}{n:Nat}(h:j0 F d mv env)(hk:ao1 F F' d j gi)(hj:∃cs,F[j]? =some (.cells cs))(hg:cH F d gi n):j0 F' d mv env:=by
 obtain⟨mp,es,h1,h2,h3⟩:=h
 refine⟨mp,es,h1,hk mp _ h2 (fun e=>?_) (fun e=>?_),h3⟩
 ·subst e;obtain⟨cs,hc⟩:=hj;rw[h2] at hc;cases hc
 ·subst e
  have:=(cH.le hg).1
  rw[h2] at this;cases this
theorem ao2{s:St}{d:Nat}(h:fE s d)(F:List bg)(kk:IntKind)(n:Int):(PP T1 G X).aI false [some (.int kk n)] (s.ai.bz d F)= .ok (.int kk n) (s.bz d F):=by
 rw[←jx h]
 exact b8 kk n
theorem GZ(d t sz:Nat)(es:List AV):AV.low d (.sl sz es (.bJ (.g d t)))=true:=dy (Nat.le_refl d)
theorem agi{s:St}{d j:Nat}{A:cm}{mv:AV}{gi gv gr:Gr}(h:fE s d)(hA:lD (s.cC d) d j A mv gi gv gr)(hb:A.ins.length < 1000000000)(op a b:Int):
  ∃F' cR,aJ T1 G X 76 [.ref (.g d j) 0,I op,I a,I b] s= .ok (I A.ins.length) (s.bz d F')∧lD F' d j {A with ins:=A.ins ++ [gG.mk op a b]} mv cR gv gr∧ao1 (s.cC d) F' d j gi∧(∀i,i < (s.cC d).length→cR= .bJ (.g d i)→gi= .bJ (.g d i))∧(s.cC d).length≤F'.length:=by
 have he:=h.ai
 have cK:d≠s.ai.aa:=by have:=h.hi;have:=gF s;omega
 have hf:=fI h
 have hc:(s.ai.cC d)[j]? =some (.cells (A.cells mv gi gv gr)):=by rw[hf];exact hA.c
 have ld:=fun k:K1=>GY G X k he hc (o:=0+0+1) (c:=.sl 3 (A.ins.map gG.enc) gi) rfl
 have bd:∀(S:St) (k:K1),(PP T1 G X).dh [.int .i64 0, .int .i64 0, .int .i64 0] [(0,1,I op),(1,1,I a),(2,1,I b)] S k=k (gG.enc (gG.mk op a b)) S:=fun S k=>rfl
 have bs:∀(S:St) (k:K1),(PP T1 G X).aF S k 3 [gG.enc (gG.mk op a b)]=k (.sl 3 [gG.enc (gG.mk op a b)] .exact) S:=fun S k=>rfl
 have oT:j < (s.cC d).length:=(bZ.1 hA.c).1
 have key:∃t F1,F1[t]? =some (.tok (A.ins.length+1))∧(gi= .nil→(s.cC d).length≤t)∧(∀u,gi= .bJ (.g d u)→t=u)∧q9 (s.cC d) F1 d gi∧
   ∀k:K1,(PP T1 G X).cz s.ai k 3 24 (some (.g d j)) (.sl 3 (A.ins.map gG.enc) gi) (.sl 3 [gG.enc (gG.mk op a b)] .exact)=k (.sl 3 ((A.ins ++ [gG.mk op a b]).map gG.enc) (.bJ (.g d t))) (s.ai.bz d F1):=by
  have hgi:cH (s.ai.cC d) d gi (A.ins.map gG.enc).length:=by rw[hf,cw];exact hA.wi
  rcases hA.wi with⟨rfl,h0⟩ | ⟨t,rfl,h1,h2⟩
  ·refine⟨(s.cC d).length,s.cC d ++ [.tok (A.ins.length+1)],by simp,fun _=>Nat.le_refl _,fun u e=>(by cases e),⟨by simp,fun i o hi _=>by rw[eZ (bZ.1 hi).1];exact hi⟩,fun k=>?_⟩
   rw[iu]
   unfold eA fC
   simp only[dl,Nat.beq_refl,Bool.true_and,cw,cP,eh,Nat.zero_add,show Nat.ble ((A.ins.length+1) * 24) 1099511627776=true from dy (by omega),cond_true]
   rw[wU he cK,hf]
   simp only[List.map_append,List.map_cons,List.map_nil]
   rfl
  ·have uK:=(bZ.1 h2).1
   refine⟨t,(s.cC d).set t (.tok (A.ins.length+1)),by simp [uK],fun e=>(by cases e),fun u e=>(by cases e;rfl),⟨by simp,fun i o hi hn=>by rw[eM (fun e=>hn (by rw[e]))];exact hi⟩,fun k=>?_⟩
   rw[iu]
   unfold eA fC
   simp only[dl,Nat.beq_refl,Bool.true_and,cw,cP,eh,Nat.zero_add,show Nat.ble ((A.ins.length+1) * 24) 1099511627776=true from dy (by omega),cond_true,nH he,hf,h2]
   rw[show(([gG.enc (gG.mk op a b)]:List AV).flatMap AV.cells).all AV.dU=true from rfl]
   simp only[cond_true,uL he,hf,List.map_append,List.map_cons,List.map_nil]
   rfl
 obtain⟨t,F1,k1,k2,k3,k4,k5⟩:=key
 have rU:∀u n,(s.cC d)[u]? =some (.tok n)→u≠t→F1[u]? =some (.tok n):=fun u n hu aFa=>k4.pj u _ hu (fun e=>aFa (k3 u e).symm)
 have S7:t≠j:=by
  rcases hA.wi with⟨e,h0⟩ | ⟨u,e,h1,h2⟩
  ·have:=k2 e;omega
  ·have:=k3 u e
   subst this
   intro e2;subst e2;rw[hA.c] at h2;cases h2
 have pn:F1[j]? =some (.cells (A.cells mv gi gv gr)):=k4.pj j _ hA.c (fun e=>by
  have:=k3 j e;exact S7 this)
 have he1:fE (s.ai.bz d F1) d:=he.put d F1
 have my:(s.ai.bz d F1).cC d=F1:=cj he F1
 have st:=fun k:K1=>lQ (T:=T1) (G:=G) (X:=X) (k:=k) he1 (by rw[my];exact pn) (o:=0+0+1) (v:=.sl 3 ((A.ins ++ [gG.mk op a b]).map gG.enc) (.bJ (.g d t))) (by simp [cm.cells]) rfl rfl rfl (.inr (GZ d t _ _))
 rw[my,gT] at st
 let A':cm:={A with ins:=A.ins ++ [gG.mk op a b]}
 have dm:(A.cells mv gi gv gr).set (0+0+1) (.sl 3 ((A.ins ++ [gG.mk op a b]).map gG.enc) (.bJ (.g d t)))=A'.cells mv (.bJ (.g d t)) gv gr:=rfl
 rw[dm] at st
 have ao3:j < F1.length:=(bZ.1 pn).1
 have Uk:(F1.set j (.cells (A'.cells mv (.bJ (.g d t)) gv gr)))[j]? =some (.cells (A'.cells mv (.bJ (.g d t)) gv gr)):=by simp [ao3]
 have he2:fE (s.ai.bz d (F1.set j (.cells (A'.cells mv (.bJ (.g d t)) gv gr)))) d:=he.put d _
 have jq:=cj he (F1.set j (.cells (A'.cells mv (.bJ (.g d t)) gv gr)))
 have G3:=fun k:K1=>GY G X k he2 (by rw[jq];exact Uk) (o:=0+0+1) (c:=.sl 3 (A'.ins.map gG.enc) (.bJ (.g d t))) rfl
 refine⟨F1.set j (.cells (A'.cells mv (.bJ (.g d t)) gv gr)), .bJ (.g d t),?_,⟨Uk,?_,?_,?_,?_,?_,hA.vr⟩,fun i o hi kE hgi=>?_,fun i hi e=>?_,by rw[List.length_set];exact k4.len⟩
 ·rw[ahl,avM,aU,aC,aC,ld,bd,bs]
  refine(k5 _).trans ?_
  rw[aU,aC,aC]
  refine(st _).trans ?_
  rw[aU,aC,aC]
  refine(G3 _).trans ?_
  rw[bt,cw,qv,ie _ (by simp only[A',dp,cP,eh];omega) (by simp only[A',dp,cP,eh];omega),ao2 G X h]
  congr 2
  simp [A']
 ·exact .inr ⟨t,rfl,by simp,by rw[eM (Ne.symm S7),k1];simp⟩
 ·refine cH.aK hA.wv (fun u e=>?_)
  have hu:=(cH.le (e ▸ hA.wv)).1
  have hut:u≠t:=fun e2=>by
   subst e2
   rcases hA.wi with⟨e3,h0⟩ | ⟨u',e3,h1,h2⟩
   ·have:=k2 e3;have:=(bZ.1 hu).1;omega
   ·have:=k3 u' e3
    subst this
    exact hA.iv u e3 e
  have huj:j≠u:=fun e2=>by subst e2;rw[hA.c] at hu;cases hu
  rw[eM huj,rU u _ hu hut,hu]
 ·refine cH.aK hA.wr (fun u e=>?_)
  have hu:=(cH.le (e ▸ hA.wr)).1
  have hut:u≠t:=fun e2=>by
   subst e2
   rcases hA.wi with⟨e3,h0⟩ | ⟨u',e3,h1,h2⟩
   ·have:=k2 e3;have:=(bZ.1 hu).1;omega
   ·have:=k3 u' e3
    subst this
    exact hA.ir u e3 e
  have huj:j≠u:=fun e2=>by subst e2;rw[hA.c] at hu;cases hu
  rw[eM huj,rU u _ hu hut,hu]
 ·intro u e e2
  cases e
  have hu:=(cH.le (e2 ▸ hA.wv)).1
  rcases hA.wi with⟨e3,h0⟩ | ⟨u',e3,h1,h2⟩
  ·have:=k2 e3;have:=(bZ.1 hu).1;omega
  ·have:=k3 u' e3
   subst this
   exact hA.iv _ e3 e2
 ·intro u e e2
  cases e
  have hu:=(cH.le (e2 ▸ hA.wr)).1
  rcases hA.wi with⟨e3,h0⟩ | ⟨u',e3,h1,h2⟩
  ·have:=k2 e3;have:=(bZ.1 hu).1;omega
  ·have:=k3 u' e3
   subst this
   exact hA.ir _ e3 e2
 ·rw[eM (Ne.symm kE)]
  exact k4.pj i o hi hgi
 ·cases e
  rcases hA.wi with⟨e3,h0⟩ | ⟨u',e3,h1,h2⟩
  ·have:=k2 e3;omega
  ·have:=k3 u' e3
   subst this
   exact e3
abbrev rdO(src:List Nat)(n:Nat):bg:=.cells [.str src, .int .i64 (n:Int)]
structure sw (s:St) (e i:Nat) (src:List Nat) (n:Nat):Prop where
 f:fE s e
 c:(s.cC e)[i]? =some (rdO src n)
 l:n≤src.length
 b:src.length < 1000000000
abbrev setAt(s:St)(e i:Nat)(src:List Nat)(n:Nat):St:=s.bz e ((s.cC e).set i (rdO src n))
theorem sw.set{s:St}{e i n m:Nat}{src:List Nat}(h:sw s e i src n)(hm:m≤src.length):sw (setAt s e i src m) e i src m:=
 ⟨h.f.put _ _,by rw[cj h.f];simp [(bZ.1 h.c).1],hm,h.b⟩
theorem sw.ai{s:St}{e i n:Nat}{src:List Nat}(h:sw s e i src n):sw s.ai e i src n:=
 ⟨h.f.ai,by rw[fI h.f];exact h.c,h.l,h.b⟩
theorem tj{s:St}{e i n m m':Nat}{src:List Nat}(h:sw s e i src n):setAt (setAt s e i src m) e i src m'=setAt s e i src m':=by
 unfold setAt
 rw[cj h.f,gT,List.set_set]
theorem ra{s:St}{e i n:Nat}{src:List Nat}(h:sw s e i src n):setAt s e i src n=s:=by
 unfold setAt
 have:(s.cC e).set i (rdO src n)=s.cC e:=by
  have:=bZ.1 h.c
  rw[←this.2];exact List.set_getElem_self this.1
 rw[this,mN h.f]
theorem tl{s:St}{e i n m:Nat}{src:List Nat}(h:sw s e i src n):setAt s.ai e i src m=(setAt s e i src m).ai:=by
 unfold setAt
 rw[fI h.f,jx h.f]
theorem sw.vS{s:St}{e i n:Nat}{src:List Nat}(h:sw s e i src n)(k:K1):(PP T1 G X).aq s k none (.ref (.g e i) (0+0))=k (.str src) s:=hZ h.f h.c rfl
theorem sw.mO{s:St}{e i n:Nat}{src:List Nat}(h:sw s e i src n)(k:K1):(PP T1 G X).aq s k none (.ref (.g e i) (0+1))=k (.int .i64 (n:Int)) s:=hZ h.f h.c rfl
theorem sw.rC{s:St}{e i n:Nat}{src:List Nat}(h:sw s e i src n)(k:K1)(m:Nat):(PP T1 G X).a7 s k 1 (.ref (.g e i) (0+1)) (AV.av s.aa (.int .i64 (m:Int)))=k .dead (setAt s e i src m):=lQ h.f h.c (by simp) rfl rfl rfl (.inl rfl)
def skip:List Nat→List Nat
 | []=>[]
 | x :: l=>if x=32 then skip l else x :: l
theorem jy{src:List Nat}{n:Nat}{x:Nat}{l:List Nat}(h:src.drop n=x :: l):src[n]? =some x∧src.drop (n+1)=l∧n < src.length:=by
 have hn:n < src.length:=by
  rcases Nat.lt_or_ge n src.length with h1 | h1
  ·exact h1
  ·rw[List.drop_of_length_le h1] at h;cases h
 have:=List.drop_eq_getElem_cons hn
 rw[this] at h
 injection h with h1 h2
 exact⟨by rw[d8 hn,h1],h2,hn⟩
theorem drop_nil{src:List Nat}{n:Nat}(h:src.drop n=[])(hn:n≤src.length):n=src.length:=by
 have:=List.drop_eq_nil_iff.1 h
 omega
theorem wV(src:List Nat):∀(l:List Nat) (n:Nat),src.drop n=l→n≤src.length→∃m,n≤m∧m≤src.length∧src.drop m=skip l
 | [],n,h,hn=>⟨n,Nat.le_refl _,hn,h⟩
 | x :: l,n,h,hn=>by
  obtain⟨_,h2,h3⟩:=jy h
  unfold skip
  by_cases e:x=32
  ·rw[if_pos e]
   obtain⟨m,m1,m2,m3⟩:=wV src l (n+1) h2 h3
   exact⟨m,by omega,m2,m3⟩
  ·rw[if_neg e];exact⟨n,Nat.le_refl _,hn,h⟩
abbrev posOf(src l:List Nat):Nat:=src.length - l.length
theorem io{src:List Nat}{n:Nat}{l:List Nat}(h:src.drop n=l)(hn:n≤src.length):n=posOf src l:=by
 unfold posOf;rw[←h,List.length_drop];omega
theorem S8{e i:Nat}{src:List Nat}:∀(l:List Nat) (n:Nat) (S:St),sw S e i src n→src.drop n=l→
  ∃m,m≤src.length∧src.drop m=skip l∧zp (PP T1 G X) (.ref (.g e i) 0) S=FV (PP T1 G X) (.ref (.g e i) 0) (setAt S e i src m):=by
 intro l
 induction l with
 | nil=>
  intro n S h hd
  have hn:=drop_nil hd h.l
  refine⟨n,h.l,hd,?_⟩
  have c:¬(n:Int) < (src.length:Int):=by omega
  rw[uw _ (aA _ _ _),aU,aC,h.mO,aU,aC,h.vS,dY,bb,aT c]
  simp -implicitDefEqProofs only[fV,dw,bf]
  rw[ra h]
 | cons x l ih=>
  intro n S h hd
  obtain⟨h1,h2,h3⟩:=jy hd
  have c:(n:Int) < (src.length:Int):=by omega
  have ix:=fun(k:K1)=>gS G X (s:=S) (k:=k) src .i64 n x h1
  have a1:=fun(S:St) (k:K1)=>gD G X S k n (by have:=h.b;omega)
  by_cases hx:x=32
  ·obtain⟨m,m1,m2,m3⟩:=ih (n+1) (setAt S e i src (n+1)) (h.set (by omega)) h2
   refine⟨m,m1,by rw[m2,skip,if_pos hx],?_⟩
   have cx:((x:Nat):Int)=32:=by omega
   rw[uw _ (aA _ _ _),aU,aC,h.mO,aU,aC,h.vS,dY,bb,a9 c]
   simp -implicitDefEqProofs only[dP]
   rw[aU,aC,h.vS,aU,aC,h.mO,ix,bj,a9 cx,c7,be,Rc _ (aA _ _ _),aU,aC,h.mO,a1,aU,aC,h.rC,m3,tj h]
  ·refine⟨n,h.l,by rw[hd,skip,if_neg hx],?_⟩
   have cx:¬((x:Nat):Int)=32:=by omega
   rw[uw _ (aA _ _ _),aU,aC,h.mO,aU,aC,h.vS,dY,bb,a9 c]
   simp -implicitDefEqProofs only[dP]
   rw[aU,aC,h.vS,aU,aC,h.mO,ix,bj,aT cx,c7,bf,ra h]
theorem S9{s:St}{e i n:Nat}{src l:List Nat}(h:sw s e i src n)(hd:src.drop n=l):
  aJ T1 G X 122 [.ref (.g e i) 0] s= .ok (.int .u8 (((skip l).headD 0:Nat):Int)) (setAt s e i src (posOf src (skip l))):=by
 obtain⟨m,m1,m2,m3⟩:=S8 G X l n s.ai h.ai hd
 have hm:=io m2 m1
 have h':=(h.ai).set m1
 rw[WA,anc,m3,Rf _ (aA _ _ _),aU,aC,h'.mO,aU,aC,h'.vS,dY,bj,←hm]
 rw[tl h] at h' ⊢
 cases hk:skip l with
 | nil=>
  rw[hk] at m2
  have:m=src.length:=drop_nil m2 m1
  rw[a9 (by omega),be]
  exact b8 _ _
 | cons x r=>
  rw[hk] at m2
  obtain⟨h1,h2,h3⟩:=jy m2
  rw[aT (by omega),bf,Re _ (aA _ _ _),aU,aC,h'.vS,aU,aC,h'.mO]
  refine(gS G X src .i64 m x h1).trans ?_
  exact b8 _ _
def Bg(c:Nat):Bool:=(Nat.ble 97 c && Nat.ble c 122) || (Nat.ble 48 c && Nat.ble c 57)
def lR:List Nat→List Nat
 | []=>[]
 | x :: l=>if Bg x then x :: lR l else[]
def eL:List Nat→List Nat
 | []=>[]
 | x :: l=>if Bg x then eL l else x :: l
theorem LF{s:St}{k:K1}(bs:List Nat)(a b:Nat)(h1:a≤b)(h2:b≤bs.length):(PP T1 G X).qo (.str bs) (some (.int .i64 (a:Int))) (some (.int .i64 (b:Int))) s k=k (.str ((bs.drop a).take (b - a))) s:=by
 show hSub (.str bs) (some (.int .i64 (a:Int))) (some (.int .i64 (b:Int))) s k=_
 unfold hSub
 simp -implicitDefEqProofs only[tI,iW,dy h1,dy h2,Bool.and_self,cond_true]
theorem tm{src:List Nat}:∀(l:List Nat) (n:Nat),src.drop n=l→n≤src.length→∃m,n≤m∧m≤src.length∧src.drop m=eL l∧(src.drop n).take (m - n)=lR l
 | [],n,h,hn=>⟨n,Nat.le_refl _,hn,h,by simp [lR]⟩
 | x :: l,n,h,hn=>by
  obtain⟨h1,h2,h3⟩:=jy h
  unfold eL lR
  by_cases e:Bg x=true
  ·rw[if_pos e,if_pos e]
   obtain⟨m,m1,m2,m3,m4⟩:=tm l (n+1) h2 h3
   refine⟨m,by omega,m2,m3,?_⟩
   rw[h,show m - n=(m - (n+1))+1 by omega,List.take_succ_cons,←m4,h2]
  ·rw[if_neg e,if_neg e];exact⟨n,Nat.le_refl _,hn,h,by simp⟩
theorem Ta{e i:Nat}{src:List Nat}(v:AV):∀(l:List Nat) (n:Nat) (S:St),sw S e i src n→src.drop n=l→
  zq (PP T1 G X) (.ref (.g e i) 0) v S=ux (PP T1 G X) (.ref (.g e i) 0) v (setAt S e i src (posOf src (eL l))):=by
 intro l
 induction l with
 | nil=>
  intro n S h hd
  have hn:=drop_nil hd h.l
  have c:¬(n:Int) < (src.length:Int):=by omega
  rw[Co _ (aA _ _ _),aU,aC,h.mO,aU,aC,h.vS,dY,bb,aT c,bf]
  rw[show posOf src (eL [])=n by simp [posOf,eL,hn],ra h]
 | cons x l ih=>
  intro n S h hd
  obtain⟨h1,h2,h3⟩:=jy hd
  have c:(n:Int) < (src.length:Int):=by omega
  have ix:=fun(k:K1)=>gS G X (s:=S) (k:=k) src .i64 n x h1
  have a1:=fun(S:St) (k:K1)=>gD G X S k n (by have:=h.b;omega)
  have step:FX (PP T1 G X) (.ref (.g e i) 0) v S=if Bg x=true then FW (PP T1 G X) (.ref (.g e i) 0) v S else ux (PP T1 G X) (.ref (.g e i) 0) v S:=by
   rw[Ri _ (aA _ _ _),aU,aC,h.vS,aU,aC,h.mO,ix]
   have e0:Bg x= !((decide ((x:Int) < 97) || decide ((122:Int) < (x:Int))) && (decide ((x:Int) < 48) || decide ((57:Int) < (x:Int)))):=by
    unfold Bg
    rw[Bool.eq_iff_iff]
    simp -implicitDefEqProofs only[Bool.or_eq_true,bD,Nat.ble_eq,Bool.not_eq_true',Bool.and_eq_false_iff,Bool.or_eq_false_iff,decide_eq_false_iff_not]
    omega
   rw[e0]
   have w1:=fun(S:St) (k:K1)=>bb (T:=T1) (G:=G) (X:=X) (s:=S) (k:=k) .u8 (x:Int) 97
   have w2:=fun(S:St) (k:K1)=>dV (T:=T1) (G:=G) (X:=X) (s:=S) (k:=k) .u8 (x:Int) 122
   have w3:=fun(S:St) (k:K1)=>bb (T:=T1) (G:=G) (X:=X) (s:=S) (k:=k) .u8 (x:Int) 48
   have w4:=fun(S:St) (k:K1)=>dV (T:=T1) (G:=G) (X:=X) (s:=S) (k:=k) .u8 (x:Int) 57
   generalize decide ((x:Int) < 97)=b1 at *
   generalize decide ((122:Int) < (x:Int))=b2 at *
   generalize decide ((x:Int) < 48)=b3 at *
   generalize decide ((57:Int) < (x:Int))=b4 at *
   cases b1 <;> cases b2 <;> cases b3 <;> cases b4 <;> simp -implicitDefEqProofs only[w1,w2,w3,w4,eG,dP,eY,fV,dA,c7,dw,be,bf,Bool.or_true,Bool.or_false,Bool.and_true,Bool.and_false,Bool.not_true,Bool.not_false,if_true,if_false,co]
  rw[Co _ (aA _ _ _),aU,aC,h.mO,aU,aC,h.vS,dY,bb,a9 c,be,step]
  unfold eL
  by_cases hx:Bg x=true
  ·rw[if_pos hx,if_pos hx,Rh _ (aA _ _ _),aU,aC,h.mO,a1,aU,aC,h.rC,ih (n+1) (setAt S e i src (n+1)) (h.set (by omega)) h2,tj h]
  ·rw[if_neg hx,if_neg hx,←hd,←io rfl h.l,ra h]
theorem ao5{s:St}{e i n:Nat}{src l:List Nat}(h:sw s e i src n)(hd:src.drop n=l):
  aJ T1 G X 123 [.ref (.g e i) 0] s= .ok (.str (lR (skip l))) (setAt s e i src (posOf src (eL (skip l)))):=by
 obtain⟨m,m1,m2,m3⟩:=wV src l n hd h.l
 have hm:=io m3 m2
 have h1:=h.ai.set m2
 have pk:=S9 G X h.ai hd
 rw[←hm] at pk
 obtain⟨m',k1,k2,k3,k4⟩:=tm (skip l) m m3 m2
 have Hq:=io k3 k2
 have h2:=h1.set (m:=m') k2
 rw[tj h.ai,tl h] at h2
 rw[WB,ane]
 refine(dJ pk (by rw[eV])).trans ?_
 rw[aU,aC,h1.mO,Ta G X _ _ _ _ h1 m3,←Hq,tj h.ai,tl h,Rg _ (aA _ _ _),aU,aC,h2.vS,aU,aC,h2.mO,LF G X src m m' k1 k2,k4]
 exact qw _
theorem ao6(s:St)(n c:Nat)(hc:c=48+n)(h:n < 10):aJ T1 G X 153 [.str [c]] s= .ok (.cS [.int .i64 (n:Int), .fa]) s:=by
 have ix:∀(S:St) (k:K1),(PP T1 G X).cZ S k (.str [c]) (.int .i64 0)=k (.int .u8 (c:Int)) S:=fun S k=>gS G X (s:=S) (k:=k) [c] .i64 0 c rfl
 have e1:¬(c:Int)=45:=by omega
 have e2:¬(c:Int)=43:=by omega
 have e3:¬(9:Int) < (n:Int):=by omega
 have sb:∀(S:St) (k:K1),(PP T1 G X).oj S k (.str [c])=k (.sl 1 [.int .u8 (c:Int)] .any) S:=fun _ _=>rfl
 have id:∀(S:St) (k:K1),(PP T1 G X).aX S k 1 (.sl 1 [.int .u8 (c:Int)] .any) (.int .i64 0)=k (.bO [.int .u8 (c:Int)]) S:=fun S k=>kF G X S k 1 [.int .u8 (c:Int)] .any .i64 0 _ rfl
 have ld:∀(S:St) (k:K1),(PP T1 G X).aq S k none (.bO [.int .u8 (c:Int)])=k (.int .u8 (c:Int)) S:=fun _ _=>rfl
 have w8:IntKind.wrap .u8 ((c:Int) - 48)=(n:Int):=by
  unfold IntKind.wrap
  simp -implicitDefEqProofs only[show IntKind.bits .u8=8 from rfl,show IntKind.signed .u8=false from rfl,Bool.false_and]
  show((c:Int) - 48) % 256=n
  omega
 have ci:∀(S:St) (k:K1),(PP T1 G X).bc S k .i64 (.int .u8 (n:Int))=k (.int .i64 (n:Int)) S:=fun S k=>by
  show k (.int .i64 (IntKind.wrap .i64 (n:Int))) S=_
  rw[ie _ (by omega) (by omega)]
 have w0:IntKind.wrap .i64 (0 * 10)=0:=by decide
 have w1:IntKind.wrap .i64 (0+1)=1:=by decide
 have ln:∀(S:St) (k:K1),(PP T1 G X).aV S k false (.sl 1 [.int .u8 (c:Int)] .any)=k (.int .i64 1) S:=fun _ _=>rfl
 have ls:∀(S:St) (k:K1),(PP T1 G X).aV S k true (.str [c])=k (.int .i64 1) S:=fun _ _=>rfl
 have j6:∀S:St,F8 (PP T1 G X) (.str [c]) (.int .i64 (n:Int)) S=uz (PP T1 G X) (.int .i64 (n:Int)) S:=fun S=>by
  rw[RC _ (aA _ _ _),ix,bj,aT e1,bf]
 have l2:∀S:St,zu (PP T1 G X) (.str [c]) (.int .i64 0) (.sl 1 [.int .u8 (c:Int)] .any) (.int .i64 1) (.int .i64 0) S=uz (PP T1 G X) (.int .i64 (n:Int)) S:=fun S=>by
  rw[Cs _ (aA _ _ _),bb,a9 (by decide),be,Rz _ (aA _ _ _),id,ld,qv,w8,dV,aT e3,bf,Ry _ (aA _ _ _),Uu,ci,uc,w0,ie _ (by omega) (by omega),Int.zero_add,Rx _ (aA _ _ _),uc,w1,Cs _ (aA _ _ _),bb,aT (by decide),bf,j6]
 have q1:decide ((0:Int) < 1)=true:=by decide
 have q2:decide ((1:Int) < 19)=true:=by decide
 rw[WG,anq,ls]
 simp -implicitDefEqProofs only[fV,dP,dA,dw,c7,bb,eG,q1,q2,be]
 rw[ix,bj,aT e1,dA]
 dsimp only
 rw[dA,ix,dA,bj,aT e2,dw,bf,RE _ (aA _ _ _),sb,ln,l2,RA _ (aA _ _ _)]
 rfl
theorem ao7(s:St)(n c:Nat)(hc:c=48+n)(h:n < 10):aJ T1 G X 124 [.str [c]] s= .ok (.cS [.int .i64 (n:Int), .fa]) s:=by
 have nv:∀(S:St) (k:K1),(PP T1 G X).ak S k (Au true .fa)=k (.bool false) S:=fun _ _=>rfl
 rw[WE,anj]
 refine(aN (ao6 G X s.ai n c hc h)).trans ?_
 rw[lm,lq,nv,bf,Rt _ (aA _ _ _)]
 rfl
structure KI (F F':List bg) (d j:Nat) (g g':Gr):Prop where
 aK:∀i o,F[i]? =some o→i≠j→g≠.bJ (.g d i)→F'[i]? =some o
 pj:∀i,i < F.length→g'= .bJ (.g d i)→g= .bJ (.g d i)
 len:F.length≤F'.length
theorem KI.refl(F:List bg)(d j:Nat)(g:Gr):KI F F d j g g:=⟨fun _ _ h _ _=>h,fun _ _ h=>h,Nat.le_refl _⟩
theorem KI.trans{F F1 F2:List bg}{d j:Nat}{g g1 g2:Gr}(h:KI F F1 d j g g1)(k:KI F1 F2 d j g1 g2):KI F F2 d j g g2:=
 ⟨fun i o ho kE hg=>k.aK i o (h.aK i o ho kE hg) kE (fun e=>hg (h.pj i (bZ.1 ho).1 e)),
  fun i hi e=>h.pj i hi (k.pj i (Nat.lt_of_lt_of_le hi h.len) e),Nat.le_trans h.len k.len⟩
def rE(d j:Nat):AV:=.bO [.ref (.g d j) 0]
def FE(e d j:Nat)(src:List Nat)(n:Nat):List bg:=[rdO src n, .cells [.ref (.g e 0) 0], .cells [.fn 126 [.ref (.g e 1) 0,rE d j, .ref (.g e 4) 0]], .cells [.fn 121 [.ref (.g e 1) 0, .ref (.g e 2) 0,rE d j]], .cells [.fn 125 [.ref (.g e 3) 0, .ref (.g e 1) 0,rE d j]]]
structure ES (d e j:Nat) (mv:AV) (gv gr:Gr) (src:List Nat) (S:St) (n:Nat) (A:cm) (gi:Gr):Prop where
 fd:fE S d
 fe:fE S e
 ne:d≠e
 ex:S.cC e=FE e d j src n
 as:lD (S.cC d) d j A mv gi gv gr
 mp:j0 (S.cC d) d mv A.env
 l:n≤src.length
 b:src.length < 1000000000
structure Up (d e j:Nat) (S:St) (gi:Gr) (S':St) (cR:Gr):Prop where
 st:∃E F,S'=(S.bz e E).bz d F
 ki:KI (S.cC d) (S'.cC d) d j gi cR
variable{d e j:Nat}{mv:AV}{gv gr:Gr}{src:List Nat}{S S':St}{n:Nat}{A:cm}{gi:Gr}
theorem Up.aa{cR:Gr}(h:Up d e j S gi S' cR):S'.aa=S.aa:=by
 obtain⟨E,F,rfl⟩:=h.st;rw[eV,eV]
theorem Up.inF{cR:Gr}(h:Up d e j S gi S' cR){x:Nat}(hx:fE S x):fE S' x:=by
 obtain⟨E,F,rfl⟩:=h.st;exact(hx.put _ _).put _ _
theorem Up.refl(fd:fE S d)(fe:fE S e)(ne:d≠e):Up d e j S gi S gi:=
 ⟨⟨S.cC e,S.cC d,by rw[mN fe,mN fd]⟩, .refl _ _ _ _⟩
theorem Up.trans{Tb:St}{cR Tc:Gr}(fd:fE S d)(fe:fE S e)(ne:d≠e)(h:Up d e j S gi S' cR)(k:Up d e j S' cR Tb Tc):Up d e j S gi Tb Tc:=by
 obtain⟨E,F,rfl⟩:=h.st
 obtain⟨E',F',rfl⟩:=k.st
 refine⟨⟨E',F',?_⟩,h.ki.trans k.ki⟩
 rw[GX (fd.put _ _) (fe.put _ _) ne,gT,gT]
theorem ES.up{cR:Gr}{n':Nat}{A':cm}{E F:List bg}(h:ES d e j mv gv gr src S n A gi)(k:ES d e j mv gv gr src ((S.bz e E).bz d F) n' A' cR)(hk:KI (S.cC d) F d j gi cR):Up d e j S gi ((S.bz e E).bz d F) cR:=
 ⟨⟨E,F,rfl⟩,by rw[cj (h.fd.put _ _)];exact hk⟩
theorem ES.ai(h:ES d e j mv gv gr src S n A gi):ES d e j mv gv gr src S.ai n A gi:=
 ⟨h.fd.ai,h.fe.ai,h.ne,by rw[fI h.fe];exact h.ex,by rw[fI h.fd];exact h.as,by rw[fI h.fd];exact h.mp,h.l,h.b⟩
theorem Up.exit{S1:St}{cR:Gr}{n':Nat}{A':cm}(h:ES d e j mv gv gr src S n A gi)(u:Up d e j S.ai gi S1 cR)(k:ES d e j mv gv gr src S1 n' A' cR):
  ∃S',S1=S'.ai∧Up d e j S gi S' cR∧ES d e j mv gv gr src S' n' A' cR:=by
 obtain⟨E,F,rfl⟩:=u.st
 have hf:((S.bz e E).bz d F).cC d=F:=cj (h.fd.put _ _) F
 have he:((S.bz e E).bz d F).cC e=E:=by rw[LD (h.fd.put _ _) (h.fe.put _ _) h.ne,cj h.fe]
 have e1:(S.ai.bz e E).bz d F=((S.bz e E).bz d F).ai:=by rw[←jx h.fe,←jx (h.fd.put _ _)]
 have ki:=u.ki
 rw[cj (h.fd.ai.put _ _),fI h.fd] at ki
 have ks:=k
 rw[e1] at ks
 refine⟨(S.bz e E).bz d F,e1,⟨⟨E,F,rfl⟩,by rw[hf];exact ki⟩,⟨(h.fd.put _ _).put _ _,(h.fe.put _ _).put _ _,h.ne,?_,?_,?_,k.l,h.b⟩⟩
 ·have:=ks.ex;rw[fI ((h.fe.put _ _).put _ _)] at this;exact this
 ·have:=ks.as;rw[fI ((h.fd.put _ _).put _ _)] at this;exact this
 ·have:=ks.mp;rw[fI ((h.fd.put _ _).put _ _)] at this;exact this
theorem ES.rd(h:ES d e j mv gv gr src S n A gi):sw S e 0 src n:=⟨h.fe,by rw[h.ex];rfl,h.l,h.b⟩
theorem ES.at(h:ES d e j mv gv gr src S n A gi){m:Nat}(hm:m≤src.length):ES d e j mv gv gr src (setAt S e 0 src m) m A gi∧Up d e j S gi (setAt S e 0 src m) gi:=by
 have hf:(setAt S e 0 src m).cC d=S.cC d:=LD h.fe h.fd (Ne.symm h.ne) _
 refine⟨⟨h.fd.put _ _,h.fe.put _ _,h.ne,by rw[cj h.fe,h.ex];rfl,by rw[hf];exact h.as,by rw[hf];exact h.mp,hm,h.b⟩,⟨(S.cC e).set 0 (rdO src m),S.cC d,?_⟩,by rw[hf];exact .refl _ _ _ _⟩
 rw[GX h.fe h.fd (Ne.symm h.ne),mN h.fd]
def cm.emit(A:cm)(op a b:Int):cm×Int:=({A with ins:=A.ins ++ [gG.mk op a b]},(A.ins.length:Int))
theorem ES.emit(h:ES d e j mv gv gr src S n A gi)(hb:A.ins.length < 1000000000)(op a b:Int):
  ∃S' cR,aJ T1 G X 76 [.ref (.g d j) 0,I op,I a,I b] S= .ok (I (A.emit op a b).2) S'∧ES d e j mv gv gr src S' n (A.emit op a b).1 cR∧Up d e j S gi S' cR:=by
 obtain⟨F',cR,h1,h2,h3,h4,h5⟩:=agi G X h.fd h.as hb op a b
 have hf:(S.bz d F').cC d=F':=cj h.fd F'
 have he:(S.bz d F').cC e=S.cC e:=LD h.fd h.fe h.ne F'
 refine⟨_,cR,h1,⟨h.fd.put _ _,h.fe.put _ _,h.ne,by rw[he,h.ex],by rw[hf];exact h2,?_,h.l,h.b⟩,⟨⟨S.cC e,F',by rw[mN h.fe]⟩,by rw[hf];exact⟨h3,h4,h5⟩⟩⟩
 rw[hf]
 exact h.mp.aK h3 ⟨_,h.as.c⟩ h.as.wi
theorem ES.nc(h:ES d e j mv gv gr src S n A gi)(k:K1):(PP T1 G X).aq S k none (.ref (.g e 1) 0)=k (.ref (.g e 0) 0) S:=hZ h.fe (j:=1) (by rw[h.ex];rfl) rfl
theorem ES.oQ(h:ES d e j mv gv gr src S n A gi)(k:K1):(PP T1 G X).aq S k none (.ref (.g e 2) 0)=k (.fn 126 [.ref (.g e 1) 0,rE d j, .ref (.g e 4) 0]) S:=hZ h.fe (j:=2) (by rw[h.ex];rfl) rfl
theorem ES.GY(h:ES d e j mv gv gr src S n A gi)(k:K1):(PP T1 G X).aq S k none (.ref (.g e 3) 0)=k (.fn 121 [.ref (.g e 1) 0, .ref (.g e 2) 0,rE d j]) S:=hZ h.fe (j:=3) (by rw[h.ex];rfl) rfl
theorem ES.ldT(h:ES d e j mv gv gr src S n A gi)(k:K1):(PP T1 G X).aq S k none (.ref (.g e 4) 0)=k (.fn 125 [.ref (.g e 3) 0, .ref (.g e 1) 0,rE d j]) S:=hZ h.fe (j:=4) (by rw[h.ex];rfl) rfl
theorem XZ(S:St)(k:K1)(d j:Nat):(PP T1 G X).aq S k none (rE d j)=k (.ref (.g d j) 0) S:=rfl
theorem ES.look(h:ES d e j mv gv gr src S n A gi)(k:K1)(w:List Nat):(PP T1 G X).n5 S k .str (.int .i64 0) false mv (.str w)=k (I ((lY A.env w).getD 0)) S:=by
 obtain⟨m,es,rfl,hm,he⟩:=h.mp
 rw[Je h.fd hm w,he]
theorem ES.X1(h:ES d e j mv gv gr src S n A gi)(k:K1):(PP T1 G X).aq S k none (.ref (.g d j) (0+4))=k mv S:=hZ h.fd h.as.c rfl
inductive Ex where
 | con (n:Nat)
 | var (w:List Nat)
 | sq (a:Ex)
 | mul (a b:Ex)
 | add (a b:Ex)
 | sub (a b:Ex)
 | neg (a:Ex)
def Ex.run:Ex→cm→cm×Int
 | .con n,A=>A.emit 2 n 0
 | .var w,A=>(A,(lY A.env w).getD 0)
 | .sq a,A=>(a.run A).1.emit 5 (a.run A).2 (a.run A).2
 | .mul a b,A=>(b.run (a.run A).1).1.emit 5 (a.run A).2 (b.run (a.run A).1).2
 | .add a b,A=>(b.run (a.run A).1).1.emit 3 (a.run A).2 (b.run (a.run A).1).2
 | .sub a b,A=>(b.run (a.run A).1).1.emit 4 (a.run A).2 (b.run (a.run A).1).2
 | .neg a,A=>(a.run (A.emit 2 0 0).1).1.emit 4 (A.emit 2 0 0).2 (a.run (A.emit 2 0 0).1).2
def Ex.size:Ex→Nat
 | .con _=>1
 | .var _=>0
 | .sq a=>a.size+1
 | .mul a b=>a.size+b.size+1
 | .add a b=>a.size+b.size+1
 | .sub a b=>a.size+b.size+1
 | .neg a=>a.size+2
theorem fQ(A:cm)(op a b:Int):(A.emit op a b).1.ins.length=A.ins.length+1:=by simp [cm.emit]
theorem dH:∀(x:Ex) (A:cm),(x.run A).1.ins.length=A.ins.length+x.size
 | .con _,A=>by rw[Ex.run,fQ,Ex.size]
 | .var _,A=>rfl
 | .sq a,A=>by rw[Ex.run,fQ,dH a,Ex.size];omega
 | .mul a b,A=>by rw[Ex.run,fQ,dH b,dH a,Ex.size];omega
 | .add a b,A=>by rw[Ex.run,fQ,dH b,dH a,Ex.size];omega
 | .sub a b,A=>by rw[Ex.run,fQ,dH b,dH a,Ex.size];omega
 | .neg a,A=>by rw[Ex.run,fQ,dH a,fQ,Ex.size];omega
def Bh(e:Ex):List Nat→Option (Ex×List Nat)
 | []=>some (e,[])
 | x :: l=>if x=94 then(match l with | []=>none | _ :: r=>some (.sq e,r)) else some (e,x :: l)
mutual
def pF:Nat→List Nat→Option (Ex×List Nat)
 | 0,_=>none
 | f+1,l=>match skip l with
  | []=>none
  | x :: r=>if x=40 then(match pS f r with
    | none=>none
    | some (e,r1)=>match skip r1 with
     | []=>none
     | y :: r2=>if y=41 then Bh e r2 else none)
   else match lR (x :: r) with
    | []=>none
    | c :: w=>if c≤57 then(if w=[] then Bh (.con (c - 48)) (eL (x :: r)) else none) else Bh (.var (c :: w)) (eL (x :: r))
def pT:Nat→List Nat→Option (Ex×List Nat)
 | 0,_=>none
 | f+1,l=>match pF f l with
  | none=>none
  | some (e,r)=>uN f e r
def uN:Nat→Ex→List Nat→Option (Ex×List Nat)
 | 0,_,_=>none
 | f+1,e,l=>match skip l with
  | []=>some (e,[])
  | x :: r=>if x=0 then none else if x=43∨x=45∨x=41 then some (e,x :: r) else(match pF f (x :: r) with
   | none=>none
   | some (y,r1)=>uN f (.mul e y) r1)
def pS:Nat→List Nat→Option (Ex×List Nat)
 | 0,_=>none
 | f+1,l=>match skip l with
  | []=>none
  | x :: r=>if x=45 then(match pT f r with
    | none=>none
    | some (e,r1)=>rF f (.neg e) r1)
   else(match pT f (x :: r) with
    | none=>none
    | some (e,r1)=>rF f e r1)
def rF:Nat→Ex→List Nat→Option (Ex×List Nat)
 | 0,_,_=>none
 | f+1,e,l=>match skip l with
  | []=>some (e,[])
  | x :: r=>if x=43 then(match pT f r with
    | none=>none
    | some (y,r1)=>rF f (.add e y) r1)
   else if x=45 then(match pT f r with
    | none=>none
    | some (y,r1)=>rF f (.sub e y) r1)
   else some (e,x :: r)
end
theorem sx:∀(f:Nat) (e:Ex) (l:List Nat) (e':Ex) (r:List Nat),uN f e l=some (e',r)→e.size≤e'.size
 | 0,e,l,e',r,h=>by simp [uN] at h
 | f+1,e,l,e',r,h=>by
  unfold uN at h
  split at h
  ·injection h with h;injection h with h1 h2;subst h1;exact Nat.le_refl _
  ·split at h
   ·cases h
   ·split at h
    ·injection h with h;injection h with h1 h2;subst h1;exact Nat.le_refl _
    ·split at h
     ·cases h
     ·have:=sx f _ _ _ _ h
      rw[Ex.size] at this;omega
theorem m8:∀(f:Nat) (e:Ex) (l:List Nat) (e':Ex) (r:List Nat),rF f e l=some (e',r)→e.size≤e'.size
 | 0,e,l,e',r,h=>by simp [rF] at h
 | f+1,e,l,e',r,h=>by
  unfold rF at h
  split at h
  ·injection h with h;injection h with h1 h2;subst h1;exact Nat.le_refl _
  ·split at h
   ·split at h
    ·cases h
    ·have:=m8 f _ _ _ _ h
     rw[Ex.size] at this;omega
   ·split at h
    ·split at h
     ·cases h
     ·have:=m8 f _ _ _ _ h
      rw[Ex.size] at this;omega
    ·injection h with h;injection h with h1 h2;subst h1;exact Nat.le_refl _
theorem sy{e e':Ex}{l r:List Nat}(h:Bh e l=some (e',r)):e.size≤e'.size:=by
 unfold Bh at h
 split at h
 ·injection h with h;injection h with h1 h2;subst h1;exact Nat.le_refl _
 ·split at h
  ·split at h
   ·cases h
   ·injection h with h;injection h with h1 h2;subst h1;rw[Ex.size];omega
  ·injection h with h;injection h with h1 h2;subst h1;exact Nat.le_refl _
structure Out (d e j:Nat) (mv:AV) (gv gr:Gr) (src:List Nat) (S:St) (gi:Gr) (S':St) (cR:Gr) (r:List Nat) (A':cm):Prop where
 es:ES d e j mv gv gr src S' (posOf src r) A' cR
 up:Up d e j S gi S' cR
 dr:src.drop (posOf src r)=r
def Bd(d e j:Nat)(mv:AV)(gv gr:Gr)(src:List Nat)(R:ax)(S:St)(gi:Gr)(r:List Nat)(q:cm×Int):Prop:=
 ∃S1 cR,R=(PP T1 G X).aI false [some (I q.2)] S1∧Out d e j mv gv gr src S gi S1 cR r q.1
variable{d e j:Nat}{mv:AV}{gv gr:Gr}{src:List Nat}{S S':St}{n:Nat}{A:cm}{gi:Gr}
theorem Bd.via{S2:St}{uO:Gr}{R:ax}{r:List Nat}{q:cm×Int}(h:ES d e j mv gv gr src S n A gi)(u:Up d e j S gi S2 uO)(b:Bd G X d e j mv gv gr src R S2 uO r q):Bd G X d e j mv gv gr src R S gi r q:=by
 obtain⟨S1,g1,h1,o⟩:=b
 exact⟨S1,g1,h1,o.es,u.trans h.fd h.fe h.ne o.up,o.dr⟩
theorem Bd.call{R:ax}{r:List Nat}{q:cm×Int}(h:ES d e j mv gv gr src S n A gi)(b:Bd G X d e j mv gv gr src R S.ai gi r q):∃S' cR,R= .ok (I q.2) S'∧Out d e j mv gv gr src S gi S' cR r q.1:=by
 obtain⟨S1,g1,h1,o⟩:=b
 obtain⟨S2,rfl,u,k⟩:=Up.exit h o.up o.es
 exact⟨S2,g1,by rw[h1];exact b8 _ _,k,u,o.dr⟩
theorem Bd.of{R R':ax}{r:List Nat}{q:cm×Int}(e1:R=R')(b:Bd G X d e j mv gv gr src R' S gi r q):Bd G X d e j mv gv gr src R S gi r q:=e1 ▸ b
def CF(d e j:Nat)(mv:AV)(gv gr:Gr)(src:List Nat)(fn:Nat)(ez:List AV)(p:List Nat→Option (Ex×List Nat)):Prop:=
 ∀l ex r S n A gi,p l=some (ex,r)→src.drop n=l→ES d e j mv gv gr src S n A gi→A.ins.length+ex.size < 1000000000→
  ∃S' cR,aJ T1 G X fn ez S= .ok (I (ex.run A).2) S'∧Out d e j mv gv gr src S gi S' cR r (ex.run A).1
abbrev agj(d e j:Nat):List AV:=[.ref (.g e 1) 0, .ref (.g e 2) 0,rE d j]
abbrev agk(d e j:Nat):List AV:=[.ref (.g e 3) 0, .ref (.g e 1) 0,rE d j]
abbrev agl(d e j:Nat):List AV:=[.ref (.g e 1) 0,rE d j, .ref (.g e 4) 0]
theorem ES.CG(h:ES d e j mv gv gr src S n A gi){l:List Nat}(hd:src.drop n=l):
  src.drop (posOf src (skip l))=skip l∧posOf src (skip l)≤src.length∧ES d e j mv gv gr src (setAt S e 0 src (posOf src (skip l))) (posOf src (skip l)) A gi∧Up d e j S gi (setAt S e 0 src (posOf src (skip l))) gi∧
  ∀k:K1,(PP T1 G X).aB S k 122 [AV.av S.aa (.ref (.g e 0) 0)]=k (.int .u8 (((skip l).headD 0:Nat):Int)) (setAt S e 0 src (posOf src (skip l))):=by
 obtain⟨m,m1,m2,m3⟩:=wV src l n hd h.l
 have hm:=io m3 m2
 have:=h.at m2
 rw[hm] at this m3 m2
 exact⟨m3,m2,this.1,this.2,fun k=>dJ (S9 G X h.rd hd) (by rw[eV])⟩
theorem ES.pass(h:ES d e j mv gv gr src S n A gi){x:Nat}{l:List Nat}(hd:src.drop n=x :: l):
  src.drop (n+1)=l∧ES d e j mv gv gr src (setAt S e 0 src (n+1)) (n+1) A gi∧Up d e j S gi (setAt S e 0 src (n+1)) gi∧
  ∀k:K1,(PP T1 G X).aG S (fun v13 s=>(PP T1 G X).aj s (fun v14 s=>(PP T1 G X).aq s (fun v15 s=>(PP T1 G X).ak s (fun v16 s=>(PP T1 G X).aG s (fun v17 s=>(PP T1 G X).aj s (fun v18 s=>(PP T1 G X).a7 s k 1 v18 (AV.av s.aa v16)) 1 v17) (.ref (.g e 0) 0)) (au .add v15 (.int .i64 1))) none v14) 1 v13) (.ref (.g e 0) 0)=k .dead (setAt S e 0 src (n+1)):=by
 obtain⟨h1,h2,h3⟩:=jy hd
 have a1:=fun(S:St) (k:K1)=>gD G X S k n (by have:=h.b;omega)
 have:=h.at (m:=n+1) h3
 exact⟨h2,this.1,this.2,fun k=>by rw[aU,aC,h.rd.mO,a1,aU,aC,h.rd.rC]⟩
theorem ES.put(h:ES d e j mv gv gr src S n A gi)(hb:A.ins.length < 1000000000)(op a b:Int):
  ∃S' cR,ES d e j mv gv gr src S' n (A.emit op a b).1 cR∧Up d e j S gi S' cR∧∀k:K1,(PP T1 G X).aB S k 76 [AV.av S.aa (.ref (.g d j) 0),AV.av S.aa (I op),AV.av S.aa (I a),AV.av S.aa (I b)]=k (I (A.emit op a b).2) S':=by
 obtain⟨S',cR,h1,h2,h3⟩:=h.emit G X hb op a b
 exact⟨S',cR,h2,h3,fun k=>dJ h1 h3.aa⟩
theorem CF.use{fn:Nat}{ez:List AV}{p:List Nat→Option (Ex×List Nat)}(c:CF G X d e j mv gv gr src fn ez p)(h:ES d e j mv gv gr src S n A gi){l r:List Nat}{ex:Ex}(hp:p l=some (ex,r))(hd:src.drop n=l)(hb:A.ins.length+ex.size < 1000000000):
  ∃S' cR,ES d e j mv gv gr src S' (posOf src r) (ex.run A).1 cR∧Up d e j S gi S' cR∧src.drop (posOf src r)=r∧∀k:K1,(PP T1 G X).kr S k (.fn fn ez) []=k (I (ex.run A).2) S':=by
 obtain⟨S',cR,h1,o⟩:=c l ex r S n A gi hp hd h hb
 exact⟨S',cR,o.es,o.up,o.dr,fun k=>by rw[MU];exact dJ h1 o.up.aa⟩
theorem X2{S S':St}{k:K1}{fn:Nat}{ez:List AV}{v:AV}(d j:Nat)(h:aJ T1 G X fn ez S= .ok v S')(hd:S'.aa=S.aa):(PP T1 G X).r9 S k [(none,rE d j)] (.fn fn ez) []=k v S':=by
 show i6 (EV G (aJ T1 G X) bX) S k (fun _ _=>.fail) [(none,rE d j)] fn ez=_
 have hs:∀S':St,rf (du S none (rE d j)) (du S' none (rE d j))=true:=fun S'=>pN.2 ⟨[.ref (.g d j) 0],rfl,rfl⟩
 unfold i6
 simp -implicitDefEqProofs only[List.all_cons,List.all_nil,hs,Bool.and_self,cond_true]
 exact dJ (k:=k) h hd
theorem CF.aFb{fn:Nat}{ez:List AV}{p:List Nat→Option (Ex×List Nat)}(c:CF G X d e j mv gv gr src fn ez p)(h:ES d e j mv gv gr src S n A gi){l r:List Nat}{ex:Ex}(hp:p l=some (ex,r))(hd:src.drop n=l)(hb:A.ins.length+ex.size < 1000000000):
  ∃S' cR,ES d e j mv gv gr src S' (posOf src r) (ex.run A).1 cR∧Up d e j S gi S' cR∧src.drop (posOf src r)=r∧∀k:K1,(PP T1 G X).r9 S k [(none,rE d j)] (.fn fn ez) []=k (I (ex.run A).2) S':=by
 obtain⟨S',cR,h1,o⟩:=c l ex r S n A gi hp hd h hb
 exact⟨S',cR,o.es,o.up,o.dr,fun k=>X2 G X d j h1 o.up.aa⟩
theorem uP(h:ES d e j mv gv gr src S n A gi){l r:List Nat}{ex kx:Ex}{A0:cm}{x:Int}(hp:Bh ex l=some (kx,r))(hd:src.drop n=l)(hr:ex.run A0=(A,x))(hb:A0.ins.length+kx.size < 1000000000):
  Bd G X d e j mv gv gr src (uu (PP T1 G X) (.ref (.g e 1) 0) (rE d j) (I x) S) S gi r (kx.run A0):=by
 have hl:=dH ex A0
 rw[hr] at hl;dsimp only at hl
 have dM:=sy hp
 have done:∀r',src.drop n=r'→∃S1 cR,sk (PP T1 G X) (I x) S=(PP T1 G X).aI false [some (I x)] S1∧Out d e j mv gv gr src S gi S1 cR r' A:=fun r' hd'=>by
  have hn:=io hd' h.l
  exact⟨S,gi,by rw[Cn _ (aA _ _ _)],by rw[←hn];exact h, .refl h.fd h.fe h.ne,by rw[←hn,hd']⟩
 cases l with
 | nil=>
  have hn:=drop_nil hd h.l
  have c:¬(n:Int) < (src.length:Int):=by omega
  rw[Bh] at hp
  injection hp with hp;injection hp with h1 h2;subst h1;subst h2
  refine .of G X (R':=sk (PP T1 G X) (I x) S) ?_ (by rw[hr];exact done [] hd)
  rw[uv _ (aA _ _ _),h.nc,aU,aC,h.rd.mO,h.nc,aU,aC,h.rd.vS,dY,bb,aT c]
  simp -implicitDefEqProofs only[fV,dw,bf]
 | cons y l=>
  obtain⟨h1,h2,h3⟩:=jy hd
  have c:(n:Int) < (src.length:Int):=by omega
  have ix:=fun(k:K1)=>gS G X (s:=S) (k:=k) src .i64 n y h1
  by_cases hy:y=94
  ·simp -implicitDefEqProofs only[Bh.eq_def,if_pos hy] at hp
   cases l with
   | nil=>cases hp
   | cons z l=>
    injection hp with hp;injection hp with e1 e2;subst e1;subst e2
    obtain⟨g1,g2,g3⟩:=jy h2
    have a2:∀(S:St) (k:K1),(PP T1 G X).ak S k (au .add (.int .i64 (n:Int)) (.int .i64 2))=k (.int .i64 ((n+2:Nat):Int)) S:=fun S k=>iI (T:=T1) (G:=G) (X:=X) (s:=S) (k:=k) n 2 (by have:=h.b;omega)
    obtain⟨k1,k2⟩:=h.at (m:=n+2) g3
    obtain⟨S',cR,q1,q2,q3⟩:=k1.put G X (by rw[Ex.size] at hb;omega) 5 x x
    have hn:=io (l:=l) g2 (by omega)
    rw[uv _ (aA _ _ _),h.nc,aU,aC,h.rd.mO,h.nc,aU,aC,h.rd.vS,dY,bb,a9 c]
    simp -implicitDefEqProofs only[dP]
    rw[h.nc,aU,aC,h.rd.vS,h.nc,aU,aC,h.rd.mO,ix,bj,c7,a9 (by omega),be]
    rw[h.nc,aU,aC,h.rd.mO,a2,aU,aC,h.rd.rC,XZ,q3,Cn _ (aA _ _ _)]
    refine⟨S',cR,by rw[Ex.run,hr],?_,k2.trans h.fd h.fe h.ne q2,by rw[←hn,g2]⟩
    rw[Ex.run,hr,←hn]
    exact q1
  ·simp -implicitDefEqProofs only[Bh.eq_def,if_neg hy] at hp
   injection hp with hp;injection hp with e1 e2;subst e1;subst e2
   refine .of G X (R':=sk (PP T1 G X) (I x) S) ?_ (by rw[hr];exact done _ hd)
   rw[uv _ (aA _ _ _),h.nc,aU,aC,h.rd.mO,h.nc,aU,aC,h.rd.vS,dY,bb,a9 c]
   simp -implicitDefEqProofs only[dP]
   rw[h.nc,aU,aC,h.rd.vS,h.nc,aU,aC,h.rd.mO,ix,bj,c7,aT (by omega),bf]
end Go.jY
end
section
namespace Go.jY
open Go.Ab Go.iY
variable(G:Nat→AV)(X:Nat→List AV→St→ax)
variable{d e j:Nat}{mv:AV}{gv gr:Gr}{src:List Nat}{S S':St}{n:Nat}{A:cm}{gi:Gr}
theorem LG{l:List Nat}(hd:src.drop n=l)(hn:n≤src.length):src.drop (posOf src (eL l))=eL l∧posOf src (eL l)≤src.length:=by
 obtain⟨m,m1,m2,m3,m4⟩:=tm l n hd hn
 have:=io m3 m2
 rw[this] at m3 m2
 exact⟨m3,m2⟩
theorem apa{x:Nat}{l r:List Nat}:skip l=x :: r→x≠32:=by
 induction l with
 | nil=>intro h;cases h
 | cons y l ih=>
  intro h
  unfold skip at h
  by_cases e1:y=32
  ·rw[if_pos e1] at h;exact ih h
  ·rw[if_neg e1] at h;injection h with h1 h2;rw[←h1];exact e1
theorem G4(l:List Nat):skip (skip l)=skip l:=by
 cases h:skip l with
 | nil=>rfl
 | cons x r=>rw[skip,if_neg (apa h)]
theorem ES.word(h:ES d e j mv gv gr src S n A gi){l:List Nat}(hd:src.drop n=l)(hl:skip l=l):
  src.drop (posOf src (eL l))=eL l∧ES d e j mv gv gr src (setAt S e 0 src (posOf src (eL l))) (posOf src (eL l)) A gi∧Up d e j S gi (setAt S e 0 src (posOf src (eL l))) gi∧
  ∀k:K1,(PP T1 G X).aB S k 123 [AV.av S.aa (.ref (.g e 0) 0)]=k (.str (lR l)) (setAt S e 0 src (posOf src (eL l))):=by
 obtain⟨m3,m2⟩:=LG hd h.l
 have:=h.at m2
 have w:=ao5 G X h.rd hd
 rw[hl] at w
 exact⟨m3,this.1,this.2,fun k=>dJ w (by rw[eV])⟩
theorem Ah{l:List Nat}{c:Nat}{w:List Nat}(h:lR l=c :: w):48≤c:=by
 cases l with
 | nil=>cases h
 | cons x l=>
  rw[lR] at h
  by_cases e1:Bg x=true
  ·rw[if_pos e1] at h
   injection h with h1 h2
   subst h1
   unfold Bg at e1
   simp only[Bool.or_eq_true,bD,Nat.ble_eq] at e1
   omega
  ·rw[if_neg e1] at h;cases h
theorem X3(f:Nat)(hs:CF G X d e j mv gv gr src 126 (agl d e j) (pS f)):CF G X d e j mv gv gr src 121 (agj d e j) (pF (f+1)):=by
 intro l ex r S n A gi hp hd h hb
 rw[Wz,anb]
 refine Bd.call G X h (q:=ex.run A) ?_
 have h0:=h.ai
 obtain⟨d1,p1,h1,u1,c1⟩:=h0.CG G X hd
 unfold pF at hp
 cases hk:skip l with
 | nil=>rw[hk] at hp;cases hp
 | cons x l1=>
  rw[hk] at hp d1 h1 u1 c1 p1
  simp only at hp
  by_cases hx:x=40
  ·rw[if_pos hx] at hp
   cases hq:pS f l1 with
   | none=>rw[hq] at hp;cases hp
   | some er=>
    obtain⟨ey,r1⟩:=er
    rw[hq] at hp
    simp only at hp
    cases X4:skip r1 with
    | nil=>rw[X4] at hp;cases hp
    | cons y r2=>
     rw[X4] at hp
     simp only at hp
     have agm:y=41:=by
      by_cases Td:y=41
      ·exact Td
      ·rw[if_neg Td] at hp;cases hp
     rw[if_pos agm] at hp
     have dM:=sy hp
     obtain⟨d2,h2,u2,c2⟩:=h1.pass G X d1
     obtain⟨S3,g3,h3,u3,d3,c3⟩:=hs.use G X h2 hq d2 (by omega)
     obtain⟨d4,p4,h4,u4,c4⟩:=h3.CG G X d3
     rw[X4] at d4 p4 h4 u4 c4
     obtain⟨d5,h5,u5,c5⟩:=h4.pass G X d4
     refine Bd.via G X h0 u1 (.via G X h1 u2 (.via G X h2 u3 (.via G X h3 u4 (.via G X h4 u5 (.of G X ?_ (uP G X h5 hp d5 rfl hb))))))
     rw[h0.nc]
     refine(c1 _).trans ?_
     rw[bj,a9 (by simp [hx]),be,h1.nc]
     refine(c2 _).trans ?_
     rw[h2.oQ]
     refine(c3 _).trans ?_
     rw[h3.nc]
     refine(c4 _).trans ?_
     rw[h4.nc]
     exact c5 _
  ·rw[if_neg hx] at hp
   have AN:skip (x :: l1)=x :: l1:=by rw[←hk,G4]
   obtain⟨d2,h2,u2,c2⟩:=h1.word G X d1 AN
   cases hw:lR (x :: l1) with
   | nil=>rw[hw] at hp;cases hp
   | cons c w=>
    rw[hw] at hp c2
    simp only at hp
    have hc:=Ah hw
    have ix:∀(S:St) (k:K1),(PP T1 G X).cZ S k (.str (c :: w)) (.int .i64 0)=k (.int .u8 (c:Int)) S:=fun S k=>gS G X (s:=S) (k:=k) (c :: w) .i64 0 c rfl
    by_cases h9:c≤57
    ·rw[if_pos h9] at hp
     by_cases hn:w=[]
     ·rw[if_pos hn] at hp
      subst hn
      have dM:=sy hp
      rw[Ex.size] at dM
      obtain⟨S3,g3,h3,u3,c3⟩:=h2.put G X (by omega) 2 ((c - 48:Nat):Int) 0
      have at1:=fun(S:St) (k:K1)=>aN (T:=T1) (G:=G) (X:=X) (s:=S) (k:=k) (ao7 G X S (c - 48) c (by omega) (by omega))
      refine Bd.via G X h0 u1 (.via G X h1 u2 (.via G X h2 u3 (.of G X ?_ (uP G X h3 hp d2 rfl hb))))
      rw[h0.nc]
      refine(c1 _).trans ?_
      rw[bj,aT (by simp;omega),bf,h1.nc]
      refine(c2 _).trans ?_
      rw[ix,rB,a9 (by omega),be]
      refine(at1 _ _).trans ?_
      rw[lm,lq,XZ]
      exact c3 _
     ·rw[if_neg hn] at hp;cases hp
    ·rw[if_neg h9] at hp
     have dM:=sy hp
     refine Bd.via G X h0 u1 (.via G X h1 u2 (.of G X ?_ (uP G X h2 hp d2 rfl hb)))
     rw[h0.nc]
     refine(c1 _).trans ?_
     rw[bj,aT (by simp;omega),bf,h1.nc]
     refine(c2 _).trans ?_
     rw[ix,rB,aT (by omega),bf,XZ,aU,aC,h2.X1]
     exact h2.look G X _ _
end Go.jY
end
section
namespace Go.jY
open Go.Ab Go.iY
variable(G:Nat→AV)(X:Nat→List AV→St→ax)
section
variable{d e j:Nat}{mv:AV}{gv gr:Gr}{src:List Nat}{S S':St}{n:Nat}{A:cm}{gi:Gr}
def LT(d e j:Nat)(mv:AV)(gv gr:Gr)(src:List Nat)(p:Ex→List Nat→Option (Ex×List Nat)):Prop:=
 ∀ex l kx r A0 A x S n gi,p ex l=some (kx,r)→src.drop n=skip l→ex.run A0=(A,x)→ES d e j mv gv gr src S n A gi→A0.ins.length+kx.size < 1000000000→
  Bd G X d e j mv gv gr src (uy (PP T1 G X) (.ref (.g e 3) 0) (.ref (.g e 1) 0) (rE d j) (I x) (.int .u8 (((skip l).headD 0:Nat):Int)) S) S gi r (kx.run A0)
def LS(d e j:Nat)(mv:AV)(gv gr:Gr)(src:List Nat)(p:Ex→List Nat→Option (Ex×List Nat)):Prop:=
 ∀ex l kx r A0 A x S n gi,p ex l=some (kx,r)→src.drop n=skip l→ex.run A0=(A,x)→ES d e j mv gv gr src S n A gi→A0.ins.length+kx.size < 1000000000→
  Bd G X d e j mv gv gr src (sm (PP T1 G X) (.ref (.g e 1) 0) (rE d j) (.ref (.g e 4) 0) (I x) (.int .u8 (((skip l).headD 0:Nat):Int)) S) S gi r (kx.run A0)
theorem apb(S:St)(v0 v1 v2:AV)(x:Int)(c:Nat):uy (PP T1 G X) v0 v1 v2 (I x) (.int .u8 (c:Int)) S=if c=0∨c=43∨c=45∨c=41 then FZ (PP T1 G X) (I x) S else FY (PP T1 G X) v0 v1 v2 (I x) S:=by
 have w1:=fun(S:St) (k:K1)=>eO (T:=T1) (G:=G) (X:=X) (s:=S) (k:=k) .u8 (c:Int) 0
 have w2:=fun(S:St) (k:K1)=>eO (T:=T1) (G:=G) (X:=X) (s:=S) (k:=k) .u8 (c:Int) 43
 have w3:=fun(S:St) (k:K1)=>eO (T:=T1) (G:=G) (X:=X) (s:=S) (k:=k) .u8 (c:Int) 45
 have w4:=fun(S:St) (k:K1)=>eO (T:=T1) (G:=G) (X:=X) (s:=S) (k:=k) .u8 (c:Int) 41
 have e0:(c=0∨c=43∨c=45∨c=41)↔(!(decide (¬(c:Int)=0) && decide (¬(c:Int)=43) && decide (¬(c:Int)=45) && decide (¬(c:Int)=41)))=true:=by
  simp -implicitDefEqProofs only[Bool.not_eq_true',Bool.and_eq_false_iff,decide_eq_false_iff_not]
  omega
 rw[Rm _ (aA _ _ _)]
 simp -implicitDefEqProofs only[e0]
 generalize decide (¬(c:Int)=0)=b1 at *
 generalize decide (¬(c:Int)=43)=b2 at *
 generalize decide (¬(c:Int)=45)=b3 at *
 generalize decide (¬(c:Int)=41)=b4 at *
 cases b1 <;> cases b2 <;> cases b3 <;> cases b4 <;> simp -implicitDefEqProofs only[w1,w2,w3,w4,dP,fV,c7,dw,be,bf,Bool.and_true,Bool.and_false,Bool.not_true,Bool.not_false,if_true,if_false,co]
theorem apc(S:St)(v0 v1 v2:AV)(x:Int)(c:Nat):sm (PP T1 G X) v0 v1 v2 (I x) (.int .u8 (c:Int)) S=if c=43∨c=45 then zs (PP T1 G X) v0 v1 v2 (I x) (.int .u8 (c:Int)) S else F6 (PP T1 G X) (I x) S:=by
 have w1:=fun(S:St) (k:K1)=>bj (T:=T1) (G:=G) (X:=X) (s:=S) (k:=k) .u8 (c:Int) 43
 have w2:=fun(S:St) (k:K1)=>bj (T:=T1) (G:=G) (X:=X) (s:=S) (k:=k) .u8 (c:Int) 45
 have e0:(c=43∨c=45)↔(decide ((c:Int)=43) || decide ((c:Int)=45))=true:=by
  simp -implicitDefEqProofs only[Bool.or_eq_true,decide_eq_true_iff]
  omega
 rw[Rr _ (aA _ _ _)]
 simp -implicitDefEqProofs only[e0]
 generalize decide ((c:Int)=43)=b1 at *
 generalize decide ((c:Int)=45)=b2 at *
 cases b1 <;> cases b2 <;> simp -implicitDefEqProofs only[w1,w2,eY,dA,c7,dw,be,bf,Bool.or_true,Bool.or_false,if_true,if_false,co]
theorem Bd.stop{l:List Nat}{x:Int}{A0:cm}{ex:Ex}(h:ES d e j mv gv gr src S n A gi)(hd:src.drop n=l)(hr:ex.run A0=(A,x)):Bd G X d e j mv gv gr src ((PP T1 G X).aI false [some (I x)] S) S gi l (ex.run A0):=by
 have hn:=io hd h.l
 rw[hr]
 exact⟨S,gi,rfl,by rw[←hn];exact h, .refl h.fd h.fe h.ne,by rw[←hn,hd]⟩
theorem aCb(f:Nat)(hf:CF G X d e j mv gv gr src 121 (agj d e j) (pF f))(ht:LT G X d e j mv gv gr src (uN f)):LT G X d e j mv gv gr src (uN (f+1)):=by
 intro ex l kx r A0 A x S n gi hp hd hr h hb
 unfold uN at hp
 rw[apb]
 cases hk:skip l with
 | nil=>
  rw[hk] at hp hd
  injection hp with hp;injection hp with h1 h2;subst h1;subst h2
  simp -implicitDefEqProofs only[List.headD_nil]
  rw[if_pos (Or.inl trivial),Cp _ (aA _ _ _)]
  exact .stop G X h hd hr
 | cons y l1=>
  rw[hk] at hp hd
  simp -implicitDefEqProofs only at hp
  simp -implicitDefEqProofs only[List.headD_cons]
  have GQ:y≠0:=fun e=>by rw[if_pos e] at hp;cases hp
  rw[if_neg GQ] at hp
  by_cases hy:y=43∨y=45∨y=41
  ·rw[if_pos hy] at hp
   rw[if_pos (Or.inr hy)]
   injection hp with hp;injection hp with h1 h2;subst h1;subst h2
   rw[Cp _ (aA _ _ _)]
   exact .stop G X h hd hr
  ·rw[if_neg hy] at hp
   rw[if_neg (by omega)]
   cases hq:pF f (y :: l1) with
   | none=>rw[hq] at hp;cases hp
   | some er=>
    obtain⟨ey,r1⟩:=er
    rw[hq] at hp
    simp -implicitDefEqProofs only at hp
    have dM:=sx _ _ _ _ _ hp
    have hl:=dH ex A0
    rw[hr] at hl;dsimp only at hl
    rw[Ex.size] at dM
    have hl2:=dH ey A
    obtain⟨S1,g1,h1,u1,d1,c1⟩:=hf.use G X h hq hd (by omega)
    obtain⟨S2,g2,h2,u2,c2⟩:=h1.put G X (by omega) 5 x (ey.run A).2
    obtain⟨d3,p3,h3,u3,c3⟩:=h2.CG G X d1
    refine .via G X h u1 (.via G X h1 u2 (.via G X h2 u3 (.of G X ?_ (ht (.mul ex ey) r1 kx r A0 _ _ _ _ _ hp d3 (by rw[Ex.run,hr]) h3 hb))))
    rw[Rl _ (aA _ _ _),h.GY]
    refine(c1 _).trans ?_
    rw[XZ]
    refine(c2 _).trans ?_
    rw[Rk _ (aA _ _ _),h2.nc]
    exact c3 _
theorem apd(f:Nat)(hf:CF G X d e j mv gv gr src 121 (agj d e j) (pF f))(ht:LT G X d e j mv gv gr src (uN f)):CF G X d e j mv gv gr src 125 (agk d e j) (pT (f+1)):=by
 intro l ex r S n A gi hp hd h hb
 rw[WC,anf]
 refine Bd.call G X h (q:=ex.run A) ?_
 have h0:=h.ai
 unfold pT at hp
 cases hq:pF f l with
 | none=>rw[hq] at hp;cases hp
 | some er=>
  obtain⟨ey,r1⟩:=er
  rw[hq] at hp
  simp -implicitDefEqProofs only at hp
  have dM:=sx _ _ _ _ _ hp
  obtain⟨S1,g1,h1,u1,d1,c1⟩:=hf.use G X h0 hq hd (by omega)
  obtain⟨d3,p3,h3,u3,c3⟩:=h1.CG G X d1
  refine .via G X h0 u1 (.via G X h1 u3 (.of G X ?_ (ht ey r1 ex r A _ _ _ _ _ hp d3 rfl h3 hb)))
  rw[h0.GY]
  refine(c1 _).trans ?_
  rw[h1.nc]
  exact c3 _
theorem aCc(f:Nat)(hf:CF G X d e j mv gv gr src 125 (agk d e j) (pT f))(ht:LS G X d e j mv gv gr src (rF f)):LS G X d e j mv gv gr src (rF (f+1)):=by
 intro ex l kx r A0 A x S n gi hp hd hr h hb
 unfold rF at hp
 rw[apc]
 have hl:=dH ex A0
 rw[hr] at hl;dsimp only at hl
 cases hk:skip l with
 | nil=>
  rw[hk] at hp hd
  injection hp with hp;injection hp with h1 h2;subst h1;subst h2
  simp -implicitDefEqProofs only[List.headD_nil]
  rw[if_neg (by omega),Cq _ (aA _ _ _)]
  exact .stop G X h hd hr
 | cons y l1=>
  rw[hk] at hp hd
  simp -implicitDefEqProofs only at hp
  simp -implicitDefEqProofs only[List.headD_cons]
  have body:∀(op:Int) (mk:Ex→Ex→Ex) (er:Ex×List Nat),(∀a b A,(mk a b).run A=(b.run (a.run A).1).1.emit op (a.run A).2 (b.run (a.run A).1).2)→(∀a b,(mk a b).size=a.size+b.size+1)→
    pT f l1=some er→rF f (mk ex er.1) er.2=some (kx,r)→y=43∧op=3∨y=45∧op=4→
    Bd G X d e j mv gv gr src (zs (PP T1 G X) (.ref (.g e 1) 0) (rE d j) (.ref (.g e 4) 0) (I x) (.int .u8 (y:Int)) S) S gi r (kx.run A0):=by
   intro op mk ⟨ey,r1⟩ AW hms hq hp hy
   have dM:=m8 _ _ _ _ _ hp
   rw[hms] at dM
   dsimp only at dM hp
   have hl2:=dH ey A
   obtain⟨d1,h1,u1,c1⟩:=h.pass G X hd
   obtain⟨S2,g2,h2,u2,d2,c2⟩:=hf.use G X h1 hq d1 (by omega)
   obtain⟨S3,g3,h3,u3,c3⟩:=h2.put G X (by omega) op x (ey.run A).2
   obtain⟨d4,p4,h4,u4,c4⟩:=h3.CG G X d2
   refine .via G X h u1 (.via G X h1 u2 (.via G X h2 u3 (.via G X h3 u4 (.of G X ?_ (ht (mk ex ey) r1 kx r A0 _ _ _ _ _ hp d4 (by rw[AW,hr]) h4 hb)))))
   have tail:zr (PP T1 G X) (.ref (.g e 1) 0) (rE d j) (.ref (.g e 4) 0) (I x) (I (ey.run A).2) (I op) S2=sm (PP T1 G X) (.ref (.g e 1) 0) (rE d j) (.ref (.g e 4) 0) (I ((ey.run A).1.emit op x (ey.run A).2).2) (.int .u8 (((skip r1).headD 0:Nat):Int)) (setAt S3 e 0 src (posOf src (skip r1))):=by
    rw[Rp _ (aA _ _ _),XZ]
    refine(c3 _).trans ?_
    rw[Ro _ (aA _ _ _),h3.nc]
    exact c4 _
   rw[Rq _ (aA _ _ _),h.nc]
   refine(c1 _).trans ?_
   rw[h1.ldT]
   refine(c2 _).trans ?_
   rw[bj]
   rcases hy with⟨rfl,rfl⟩ | ⟨rfl,rfl⟩
   ·rw[aT (by decide),bf];exact tail
   ·rw[a9 (by decide),be];exact tail
  by_cases hy:y=43
  ·rw[if_pos hy] at hp
   rw[if_pos (Or.inl hy)]
   cases hq:pT f l1 with
   | none=>rw[hq] at hp;cases hp
   | some er=>
    rw[hq] at hp
    exact body 3 .add er (fun _ _ _=>rfl) (fun _ _=>rfl) hq hp (.inl ⟨hy,rfl⟩)
  ·rw[if_neg hy] at hp
   by_cases vQ:y=45
   ·rw[if_pos vQ] at hp
    rw[if_pos (Or.inr vQ)]
    cases hq:pT f l1 with
    | none=>rw[hq] at hp;cases hp
    | some er=>
     rw[hq] at hp
     exact body 4 .sub er (fun _ _ _=>rfl) (fun _ _=>rfl) hq hp (.inr ⟨vQ,rfl⟩)
   ·rw[if_neg vQ] at hp
    rw[if_neg (by omega)]
    injection hp with hp;injection hp with h1 h2;subst h1;subst h2
    rw[Cq _ (aA _ _ _)]
    exact .stop G X h hd hr
theorem awP(f:Nat)(hf:CF G X d e j mv gv gr src 125 (agk d e j) (pT f))(ht:LS G X d e j mv gv gr src (rF f)):CF G X d e j mv gv gr src 126 (agl d e j) (pS (f+1)):=by
 intro l ex r S n A gi hp hd h hb
 rw[WD,ani]
 refine Bd.call G X h (q:=ex.run A) ?_
 have h0:=h.ai
 obtain⟨d1,p1,h1,u1,c1⟩:=h0.CG G X hd
 unfold pS at hp
 cases hk:skip l with
 | nil=>rw[hk] at hp;cases hp
 | cons y l1=>
  rw[hk] at hp d1 p1 h1 u1 c1
  simp -implicitDefEqProofs only at hp
  simp -implicitDefEqProofs only[List.headD_cons] at c1
  by_cases hy:y=45
  ·rw[if_pos hy] at hp
   cases hq:pT f l1 with
   | none=>rw[hq] at hp;cases hp
   | some er=>
    obtain⟨ey,r1⟩:=er
    rw[hq] at hp
    simp -implicitDefEqProofs only at hp
    have dM:=m8 _ _ _ _ _ hp
    rw[Ex.size] at dM
    obtain⟨d2,h2,u2,c2⟩:=h1.pass G X d1
    obtain⟨S3,g3,h3,u3,c3⟩:=h2.put G X (by omega) 2 0 0
    have hl3:=fQ A 2 0 0
    obtain⟨S4,g4,h4,u4,d4,c4⟩:=hf.aFb G X h3 hq d2 (by omega)
    have hl4:=dH ey (A.emit 2 0 0).1
    obtain⟨S5,g5,h5,u5,c5⟩:=h4.put G X (by omega) 4 (A.emit 2 0 0).2 (ey.run (A.emit 2 0 0).1).2
    obtain⟨d6,p6,h6,u6,c6⟩:=h5.CG G X d4
    refine .via G X h0 u1 (.via G X h1 u2 (.via G X h2 u3 (.via G X h3 u4 (.via G X h4 u5 (.via G X h5 u6 (.of G X ?_ (ht (.neg ey) r1 ex r A _ _ _ _ _ hp d6 rfl h6 hb)))))))
    rw[h0.nc]
    refine(c1 _).trans ?_
    rw[bj,a9 (by omega),be,h1.nc]
    refine(c2 _).trans ?_
    rw[XZ]
    refine(c3 _).trans ?_
    rw[XZ,h3.ldT]
    refine(c4 _).trans ?_
    refine(c5 _).trans ?_
    rw[Cr _ (aA _ _ _),h5.nc]
    exact c6 _
  ·rw[if_neg hy] at hp
   cases hq:pT f (y :: l1) with
   | none=>rw[hq] at hp;cases hp
   | some er=>
    obtain⟨ey,r1⟩:=er
    rw[hq] at hp
    simp -implicitDefEqProofs only at hp
    have dM:=m8 _ _ _ _ _ hp
    obtain⟨S4,g4,h4,u4,d4,c4⟩:=hf.use G X h1 hq d1 (by omega)
    obtain⟨d6,p6,h6,u6,c6⟩:=h4.CG G X d4
    refine .via G X h0 u1 (.via G X h1 u4 (.via G X h4 u6 (.of G X ?_ (ht ey r1 ex r A _ _ _ _ _ hp d6 rfl h6 hb))))
    rw[h0.nc]
    refine(c1 _).trans ?_
    rw[bj,aT (by omega),bf,h1.ldT]
    refine(c4 _).trans ?_
    rw[Cr _ (aA _ _ _),h4.nc]
    exact c6 _
theorem agn:∀f:Nat,CF G X d e j mv gv gr src 121 (agj d e j) (pF f)∧CF G X d e j mv gv gr src 125 (agk d e j) (pT f)∧CF G X d e j mv gv gr src 126 (agl d e j) (pS f)∧LT G X d e j mv gv gr src (uN f)∧LS G X d e j mv gv gr src (rF f)
 | 0=>⟨fun l ex r S n A gi hp=>by simp [pF] at hp,fun l ex r S n A gi hp=>by simp [pT] at hp,fun l ex r S n A gi hp=>by simp [pS] at hp,fun ex l kx r A0 A x S n gi hp=>by simp [uN] at hp,fun ex l kx r A0 A x S n gi hp=>by simp [rF] at hp⟩
 | f+1=>by
  obtain⟨h1,h2,h3,h4,h5⟩:=agn f
  exact⟨X3 G X f h3,apd G X f h1 h4,awP G X f h2 h5,aCb G X f h1 h4,aCc G X f h2 h5⟩
end
structure AS (d j:Nat) (mv:AV) (gv gr:Gr) (S:St) (A:cm) (gi:Gr):Prop where
 fd:fE S d
 as:lD (S.cC d) d j A mv gi gv gr
 mp:j0 (S.cC d) d mv A.env
structure UpA (d j:Nat) (S:St) (gi:Gr) (S':St) (cR:Gr):Prop where
 st:∃F,S'=S.bz d F
 ki:KI (S.cC d) (S'.cC d) d j gi cR
section
variable{d j:Nat}{mv:AV}{gv gr:Gr}{S S':St}{A:cm}{gi:Gr}
theorem Bi{S:St}{d:Nat}(cK:d≠S.aa)(E F:List bg):({S with own:=E}:St).bz d F= {S.bz d F with own:=E}:=by
 unfold St.bz
 rw[if_neg cK,if_neg (show¬d=({S with own:=E}:St).aa from cK)]
 rfl
theorem G5{S:St}{d:Nat}(cK:d≠S.aa)(E:List bg):({S with own:=E}:St).cC d=S.cC d:=by
 unfold St.cC
 rw[if_neg cK,if_neg (show¬d=({S with own:=E}:St).aa from cK)]
 rfl
theorem awQ(h:AS d j mv gv gr S A gi){src:List Nat}{f:Nat}{ex:Ex}{r:List Nat}(hp:pS f src=some (ex,r))(hb:A.ins.length+ex.size < 1000000000)(hl:src.length < 1000000000):
  ∃S' cR,aJ T1 G X 77 [.ref (.g d j) 0, .str src] S= .ok (I (ex.run A).2) S'∧AS d j mv gv gr S' (ex.run A).1 cR∧UpA d j S gi S' cR:=by
 have cK:d≠S.ai.aa:=by have:=h.fd.hi;have:=gF S;omega
 have hde:d≤S.ai.aa:=by have:=h.fd.hi;have:=gF S;omega
 generalize he:S.ai.aa=e at *
 let S5:St:={S.ai with own:=FE e d j src 0}
 have e5:S5.aa=e:=he
 have hf5:S5.cC d=S.cC d:=by
  rw[show S5= {S.ai with own:=FE e d j src 0} from rfl,G5 (by rw[he];exact cK),fI h.fd]
 have fd5:fE S5 d:=⟨h.fd.lo,by rw[e5];exact hde⟩
 have fe5:fE S5 e:=⟨by have:=S5.sv;have h2:S5.ro=S.ro:=rfl;rw[e5] at this;omega,by rw[e5];exact Nat.le_refl _⟩
 have es:ES d e j mv gv gr src S5 0 A gi:=⟨fd5,fe5,cK,by have:=qI S5;rw[e5] at this;exact this,by rw[hf5];exact h.as,by rw[hf5];exact h.mp,Nat.zero_le _,hl⟩
 obtain⟨S1,g1,h1,u1,d1,c1⟩:=(agn G X f).2.2.1.use G X es hp rfl hb
 obtain⟨E,F,rfl⟩:=u1.st
 have ki:=u1.ki
 rw[cj (fd5.put _ _),hf5] at ki
 have eF:(S5.bz e E).bz d F= {(S.bz d F).ai with own:=E}:=by
  rw[jx h.fd]
  have:S5.bz e E= {S.ai with own:=E}:=by unfold St.bz;rw[if_pos e5.symm]
  rw[this,Bi (by rw[he];exact cK)]
 have has:=h1.as
 have hmp:=h1.mp
 rw[cj (fd5.put _ _)] at has hmp
 refine⟨S.bz d F,g1,?_,⟨h.fd.put _ _,by rw[cj h.fd];exact has,by rw[cj h.fd];exact hmp⟩,⟨F,rfl⟩,by rw[cj h.fd];exact ki⟩
 rw[ahm]
 have pre:f77 (PP T1 G X) (.ref (.g d j) 0) (.str src) S.ai=(PP T1 G X).kr S5 (fun v s=>(PP T1 G X).aI false [some v] s) (.fn 126 (agl d e j)) []:=by
  rw[avN]
  subst he
  rfl
 rw[pre]
 refine(c1 _).trans ?_
 rw[eF]
 rfl
end
structure KC (F F':List bg) (d j:Nat) (mv:AV) (gi cR gr iQ:Gr):Prop where
 aK:∀i o,F[i]? =some o→i≠j→gi≠.bJ (.g d i)→gr≠.bJ (.g d i)→mv≠.map (.g d i)→F'[i]? =some o
 apf:∀i,i < F.length→cR= .bJ (.g d i)→gi= .bJ (.g d i)
 apg:∀i,i < F.length→iQ= .bJ (.g d i)→gr= .bJ (.g d i)
 len:F.length≤F'.length
theorem KC.refl(F:List bg)(d j:Nat)(mv:AV)(gi gr:Gr):KC F F d j mv gi gi gr gr:=⟨fun _ _ h _ _ _ _=>h,fun _ _ h=>h,fun _ _ h=>h,Nat.le_refl _⟩
theorem KI.kc{F F':List bg}{d j:Nat}{g g':Gr}(h:KI F F' d j g g')(mv:AV)(gr:Gr):KC F F' d j mv g g' gr gr:=⟨fun i o ho kE hg _ _=>h.aK i o ho kE hg,h.pj,fun _ _ h=>h,h.len⟩
theorem KC.trans{F F1 F2:List bg}{d j:Nat}{mv:AV}{gi tJ uO gr G6 Te:Gr}(h:KC F F1 d j mv gi tJ gr G6)(k:KC F1 F2 d j mv tJ uO G6 Te):KC F F2 d j mv gi uO gr Te:=
 ⟨fun i o ho kE hg hr hm=>k.aK i o (h.aK i o ho kE hg hr hm) kE (fun e=>hg (h.apf i (bZ.1 ho).1 e)) (fun e=>hr (h.apg i (bZ.1 ho).1 e)) hm,
  fun i hi e=>h.apf i hi (k.apf i (Nat.lt_of_lt_of_le hi h.len) e),fun i hi e=>h.apg i hi (k.apg i (Nat.lt_of_lt_of_le hi h.len) e),Nat.le_trans h.len k.len⟩
structure pK (d j:Nat) (mv:AV) (S:St) (gi gr:Gr) (S':St) (cR iQ:Gr):Prop where
 st:∃F,S'=S.bz d F
 kc:KC (S.cC d) (S'.cC d) d j mv gi cR gr iQ
section
variable{d j:Nat}{mv:AV}{gv gr:Gr}{S S':St}{A:cm}{gi:Gr}
theorem pK.refl(fd:fE S d):pK d j mv S gi gr S gi gr:=⟨⟨S.cC d,by rw[mN fd]⟩, .refl _ _ _ _ _ _⟩
theorem pK.trans{Tb:St}{cR Tc iQ axR:Gr}(h:pK d j mv S gi gr S' cR iQ)(k:pK d j mv S' cR iQ Tb Tc axR):pK d j mv S gi gr Tb Tc axR:=by
 obtain⟨F,rfl⟩:=h.st
 obtain⟨F',rfl⟩:=k.st
 exact⟨⟨F',by rw[gT]⟩,h.kc.trans k.kc⟩
theorem pK.aa{cR iQ:Gr}(h:pK d j mv S gi gr S' cR iQ):S'.aa=S.aa:=by
 obtain⟨F,rfl⟩:=h.st;rw[eV]
theorem UpA.c{cR:Gr}(h:UpA d j S gi S' cR)(mv:AV)(gr:Gr):pK d j mv S gi gr S' cR gr:=⟨h.st,h.ki.kc _ _⟩
theorem AS.same(h:AS d j mv gv gr S A gi)(S':St):rf (du S none (oZ (.ref (.g d j) 0) 4)) (du S none (oZ (.ref (.g d j) 0) 4))=true:=by
 refine pN.2 ⟨[mv],?_,?_⟩ <;>
 ·unfold du cellsOf oZ
  simp only[nH h.fd,h.as.c]
  rfl
theorem AS.cells(h:AS d j mv gv gr S A gi):du S none (oZ (.ref (.g d j) 0) 4)=some [mv]:=by
 unfold du cellsOf oZ
 simp only[nH h.fd,h.as.c]
 rfl
theorem Bj{S S':St}{k:K1}{fn:Nat}{args:List AV}{v:AV}{x:AV}(h:aJ T1 G X fn args S= .ok v S')(hd:S'.aa=S.aa)(hs:rf (du S none x) (du S' none x)=true):(PP T1 G X).mu S k [(none,x)] fn args=k v S':=by
 show cV (EV G (aJ T1 G X) bX) S (fun v s'=>bif rf (du S none x) (du s' none x) && true then k v s' else .fail) (fun _ _=>.fail) fn args=_
 unfold cV
 show(match aJ T1 G X fn args S with
  | .ok v s'=>bif Nat.beq s'.aa S.aa then(bif rf (du S none x) (du s' none x) && true then k v s' else .fail) else .fail
  | .panic v s'=>_
  | .fail=>.fail)=_
 rw[h]
 simp only[hd,Nat.beq_refl,cond_true,hs,Bool.and_self]
theorem AS.emit(h:AS d j mv gv gr S A gi)(hb:A.ins.length < 1000000000)(op a b:Int):
  ∃S' cR,AS d j mv gv gr S' (A.emit op a b).1 cR∧pK d j mv S gi gr S' cR gr∧∀k:K1,(PP T1 G X).mu S k [(none,oZ (.ref (.g d j) 0) 4)] 76 [AV.av S.aa (.ref (.g d j) 0),AV.av S.aa (I op),AV.av S.aa (I a),AV.av S.aa (I b)]=k (I (A.emit op a b).2) S':=by
 obtain⟨F',cR,h1,h2,h3,h4,h5⟩:=agi G X h.fd h.as hb op a b
 have hf:(S.bz d F').cC d=F':=cj h.fd F'
 have hA:AS d j mv gv gr (S.bz d F') (A.emit op a b).1 cR:=⟨h.fd.put _ _,by rw[hf];exact h2,by rw[hf];exact h.mp.aK h3 ⟨_,h.as.c⟩ h.as.wi⟩
 refine⟨_,cR,hA,⟨⟨F',rfl⟩,by rw[hf];exact KI.kc ⟨h3,h4,h5⟩ _ _⟩,fun k=>Bj G X h1 (eV _ _ _) ?_⟩
 rw[h.cells,hA.cells]
 exact pN.2 ⟨_,rfl,rfl⟩
theorem AS.expr(h:AS d j mv gv gr S A gi){src:List Nat}{f:Nat}{ex:Ex}{r:List Nat}(hp:pS f src=some (ex,r))(hb:A.ins.length+ex.size < 1000000000)(hl:src.length < 1000000000):
  ∃S' cR,AS d j mv gv gr S' (ex.run A).1 cR∧pK d j mv S gi gr S' cR gr∧(∀k:K1,(PP T1 G X).mu S k [(none,oZ (.ref (.g d j) 0) 4)] 77 [AV.av S.aa (.ref (.g d j) 0),AV.av S.aa (.str src)]=k (I (ex.run A).2) S')∧
   ∀k:K1,(PP T1 G X).aB S k 77 [AV.av S.aa (.ref (.g d j) 0),AV.av S.aa (.str src)]=k (I (ex.run A).2) S':=by
 obtain⟨S',cR,h1,h2,h3⟩:=awQ G X h hp hb hl
 refine⟨S',cR,h2,h3.c _ _,fun k=>Bj G X h1 (h3.c mv gr).aa ?_,fun k=>dJ h1 (h3.c mv gr).aa⟩
 rw[h.cells,h2.cells]
 exact pN.2 ⟨_,rfl,rfl⟩
theorem AS.X1(h:AS d j mv gv gr S A gi)(k:K1):(PP T1 G X).aq S k none (w9 (.ref (.g d j) (0+4)) (.ref (.g d j) 0) 4)=k mv S:=by
 have:w9 (.ref (.g d j) (0+4)) (.ref (.g d j) 0) 4= .ref (.g d j) 4:=by simp [w9,pZ]
 rw[this]
 exact hZ h.fd h.as.c rfl
theorem AS.aFd(h:AS d j mv gv gr S A gi)(k:K1):(PP T1 G X).aq S k none (.ref (.g d j) (0+4))=k mv S:=hZ h.fd h.as.c rfl
theorem AS.X5(h:AS d j mv gv gr S A gi)(k:K1):(PP T1 G X).aq S k none (.ref (.g d j) (0+5))=k (I A.dx) S:=hZ h.fd h.as.c rfl
theorem AS.nc(h:AS d j mv gv gr S A gi)(k:K1):(PP T1 G X).aq S k none (.ref (.g d j) (0+0+3))=k (gp A.roots gr) S:=hZ h.fd h.as.c rfl
theorem AS.look(h:AS d j mv gv gr S A gi)(k:K1)(w:List Nat):(PP T1 G X).n5 S k .str (.int .i64 0) false mv (AV.av S.aa (.str w))=k (I ((lY A.env w).getD 0)) S:=by
 obtain⟨m,es,rfl,hm,he⟩:=h.mp
 rw[show AV.av S.aa (.str w)= .str w from rfl,Je h.fd hm w,he]
def cm.name(A:cm)(w:List Nat)(v:Int):cm:={A with env:=(w,v) :: A.env}
theorem cH.set{F:List bg}{d n i:Nat}{g:Gr}{o o':bg}(h:cH F d g n)(hi:F[i]? =some o)(ho:∀n,o≠.tok n):cH (F.set i o') d g n:=by
 refine cH.aK h (fun t e=>?_)
 have ht:=(cH.le (e ▸ h)).1
 rw[eM (fun e2=>by subst e2;rw[hi] at ht;injection ht with ht;exact ho _ ht)]
theorem AS.name(h:AS d j mv gv gr S A gi)(w:List Nat)(v:Int):
  ∃S',AS d j mv gv gr S' (A.name w v) gi∧pK d j mv S gi gr S' gi gr∧∀k:K1,(PP T1 G X).m0 S k .str mv (AV.av S.aa (.str w)) (AV.av S.aa (I v))=k .dead S':=by
 obtain⟨m,es,rfl,hm,he⟩:=h.mp
 have hmj:m≠j:=fun e=>by subst e;have:=h.as.c;rw[hm] at this;cases this
 have hf:=fun F=>cj h.fd F
 have vN:=(bZ.1 hm).1
 refine⟨S.bz d ((S.cC d).set m (.map (uM (Af w v es)))),⟨h.fd.put _ _,?_,?_⟩,⟨⟨_,rfl⟩,?_⟩,fun k=>S6 h.fd hm w v⟩
 ·rw[hf]
  exact⟨by rw[eM hmj];exact h.as.c,cH.set h.as.wi hm (fun _ e=>by cases e),cH.set h.as.wv hm (fun _ e=>by cases e),cH.set h.as.wr hm (fun _ e=>by cases e),h.as.iv,h.as.ir,h.as.vr⟩
 ·rw[hf]
  refine⟨m,Af w v es,rfl,by simp [vN],fun x=>?_⟩
  rw[Bf]
  show _=(if x=w then some v else lY A.env x)
  rw[he]
 ·rw[hf]
  refine⟨fun i o ho kE hg hr cK=>?_,fun _ _ e=>e,fun _ _ e=>e,by rw[List.length_set];exact Nat.le_refl _⟩
  rw[eM (fun e=>cK (by rw[e]))]
  exact ho
theorem lD.set{F:List bg}{A':cm}(h:lD F d j A mv gi gv gr)(hi:A'.ins.length=A.ins.length)(hv:A'.aL.length=A.aL.length)(hr:A'.roots.length=A.roots.length):lD (F.set j (.cells (A'.cells mv gi gv gr))) d j A' mv gi gv gr:=
 ⟨by simp [(bZ.1 h.c).1],by rw[hi];exact cH.set h.wi h.c (fun _ e=>by cases e),by rw[hv];exact cH.set h.wv h.c (fun _ e=>by cases e),by rw[hr];exact cH.set h.wr h.c (fun _ e=>by cases e),h.iv,h.ir,h.vr⟩
theorem j0.set{F:List bg}{env:List (List Nat×Int)}{cs:List AV}(h:j0 F d mv env)(hj:F[j]? =some (.cells cs))(o:bg):j0 (F.set j o) d mv env:=by
 obtain⟨m,es,rfl,hm,he⟩:=h
 exact⟨m,es,rfl,by rw[eM (fun e=>by subst e;rw[hm] at hj;cases hj)];exact hm,he⟩
theorem AS.count(h:AS d j mv gv gr S A gi)(v:Int):
  ∃S',AS d j mv gv gr S' {A with dx:=v} gi∧pK d j mv S gi gr S' gi gr∧∀k:K1,(PP T1 G X).a7 S k 1 (.ref (.g d j) (0+5)) (AV.av S.aa (I v))=k .dead S':=by
 have hf:=fun F=>cj h.fd F
 refine⟨S.bz d ((S.cC d).set j (.cells (cm.cells {A with dx:=v} mv gi gv gr))),⟨h.fd.put _ _,by rw[hf];exact h.as.set (A':={A with dx:=v}) rfl rfl rfl,by rw[hf];exact h.mp.set h.as.c _⟩,⟨⟨_,rfl⟩,?_⟩,fun k=>lQ h.fd h.as.c (by simp [cm.cells]) rfl rfl rfl (.inl rfl)⟩
 rw[hf]
 refine⟨fun i o ho kE _ _ _=>by rw[eM (Ne.symm kE)];exact ho,fun _ _ e=>e,fun _ _ e=>e,by rw[List.length_set];exact Nat.le_refl _⟩
end
section
variable{d j:Nat}{mv:AV}{gv gr:Gr}{S S':St}{A:cm}{gi:Gr}
theorem ago{i q bytes:Nat}{es new:List AV}{g g2:Gr}(h:fE S d)(cM:d≠S.aa)(hg:cH (S.cC d) d g es.length)(hn:new≠[])(hb:(es.length+new.length) * bytes≤1099511627776)(hc:(new.flatMap AV.cells).all AV.dU=true)(sR:∀a,g2≠.bJ a):
  ∃t F',F'[t]? =some (.tok (es.length+new.length))∧(g= .nil→(S.cC d).length≤t)∧(∀u,g= .bJ (.g d u)→t=u)∧q9 (S.cC d) F' d g∧∀k:K1,(PP T1 G X).cz S k q bytes (some (.g d i)) (.sl q es g) (.sl q new g2)=k (.sl q (es ++ new) (.bJ (.g d t))) (S.bz d F'):=by
 have el:dl S (.sl q new g2)=some (q,new):=by cases g2 <;> first | rfl | exact absurd rfl (sR _)
 have bl:Nat.ble ((es.length+new.length) * bytes) 1099511627776=true:=dy hb
 cases new with
 | nil=>exact absurd rfl hn
 | cons c cs=>
  rcases hg with⟨rfl,nM⟩ | ⟨t,rfl,kJ,ht⟩
  ·refine⟨(S.cC d).length,S.cC d ++ [.tok (es.length+(c :: cs).length)],by simp,fun _=>Nat.le_refl _,fun u e=>(by cases e),⟨by simp,fun j o hj _=>by rw[eZ (bZ.1 hj).1];exact hj⟩,fun k=>?_⟩
   rw[iu]
   unfold eA
   simp only
   unfold fC
   rw[el]
   simp only[Nat.beq_refl,Bool.true_and,bl,cond_true]
   rw[wU h cM]
   rfl
  ·have uK:=(bZ.1 ht).1
   refine⟨t,(S.cC d).set t (.tok (es.length+(c :: cs).length)),by simp [uK],fun e=>(by cases e),fun u e=>(by cases e;rfl),⟨by simp,fun j o hj cK=>by rw[eM (fun e=>cK (by rw[e]))];exact hj⟩,fun k=>?_⟩
   rw[iu]
   unfold eA
   simp only
   unfold fC
   rw[el]
   simp only[Nat.beq_refl,bl,cond_true,nH h,ht,hc,Bool.and_self]
   rw[uL h]
   rfl
theorem q9.X6{F F':List bg}{d n:Nat}{g g':Gr}(h:q9 F F' d g)(hg:cH F d g' n)(ha:apart d g g'):cH F' d g' n:=
 cH.aK hg (fun u e=>by
  have hu:=(cH.le (e ▸ hg)).1
  rw[hu]
  exact h.pj u _ hu (fun e2=>ha u e2 e))
theorem AS.root(h:AS d j mv gv gr S A gi)(cK:d≠S.aa)(hb:A.roots.length < 1000000000)(v:Int):
  ∃S' iQ,AS d j mv gv iQ S' {A with roots:=A.roots ++ [v]} gi∧pK d j mv S gi gr S' gi iQ∧
   ∀k:K1,(PP T1 G X).cz S (fun v87 s=>(PP T1 G X).aG s (fun X7 s=>(PP T1 G X).aj s (fun v89 s=>(PP T1 G X).aj s (fun v90 s=>(PP T1 G X).a7 s k 1 v90 (AV.av s.aa v87)) 3 v89) 0 X7) (.ref (.g d j) 0)) 1 8 (some (.g d j)) (gp A.roots gr) (.sl 1 [I v] .exact)=k .dead S':=by
 obtain⟨t,F1,k1,k2,k3,k4,k5⟩:=ago G X (S:=S) (i:=j) (q:=1) (bytes:=8) (es:=A.roots.map I) (new:=[I v]) (g:=gr) (g2:=.exact) h.fd cK (by rw[cw];exact h.as.wr) (by simp) (by simp;omega) rfl (fun a e=>by cases e)
 have l7:∀g n,cH (S.cC d) d g n→apart d gr g→∀u,g= .bJ (.g d u)→t≠u:=fun g n hg ha u e e2=>by
  have hu:=(cH.le (e ▸ hg)).1
  have hul:=(bZ.1 hu).1
  rcases h.as.wr with⟨e3,h0⟩ | ⟨u',e3,h1,h2⟩
  ·have:=k2 e3;omega
  ·have:=k3 u' e3;subst this;subst e2;exact ha _ e3 e
 have pn:F1[j]? =some (.cells (A.cells mv gi gv gr)):=k4.pj j _ h.as.c (fun e=>by have:=(cH.le (e ▸ h.as.wr)).1;rw[h.as.c] at this;cases this)
 have oT:=(bZ.1 pn).1
 have S7:t≠j:=fun e=>by subst e;rw[pn] at k1;cases k1
 let A':cm:={A with roots:=A.roots ++ [v]}
 have my:(S.bz d F1).cC d=F1:=cj h.fd F1
 let F2:=F1.set j (.cells (A'.cells mv gi gv (.bJ (.g d t))))
 have jq:(S.bz d F2).cC d=F2:=cj h.fd F2
 have st:=fun k:K1=>lQ (T:=T1) (G:=G) (X:=X) (k:=k) (h.fd.put d F1) (by rw[my];exact pn) (o:=0+0+3) (v:=.sl 1 (A'.roots.map I) (.bJ (.g d t))) (by simp [cm.cells]) rfl rfl rfl (.inr (GZ d t _ _))
 rw[my,gT] at st
 have aw:∀g n,cH (S.cC d) d g n→apart d gr g→cH F2 d g n:=fun g n hg ha=>cH.set (q9.X6 k4 hg ha) pn (fun _ e=>by cases e)
 have map:j0 F2 d mv A.env:=by
  obtain⟨m,es,rfl,hm,he⟩:=h.mp
  have h1:F1[m]? =some (.map (uM es)):=k4.pj m _ hm (fun e=>by have:=(cH.le (e ▸ h.as.wr)).1;rw[hm] at this;cases this)
  exact j0.set ⟨m,es,rfl,h1,he⟩ pn _
 refine⟨S.bz d F2, .bJ (.g d t),⟨h.fd.put _ _,?_,by rw[jq];exact map⟩,⟨⟨_,rfl⟩,?_⟩,fun k=>?_⟩
 ·rw[jq]
  refine⟨by simp [F2,oT,A'],aw _ _ h.as.wi h.as.ir.symm,aw _ _ h.as.wv h.as.vr.symm,?_,h.as.iv,?_,?_⟩
  ·refine .inr ⟨t,rfl,by simp,?_⟩
   show F2[t]? =_
   rw[eM (Ne.symm S7),k1];simp
  ·intro u e e2;injection e2 with e2;injection e2 with e3 e4;exact l7 _ _ h.as.wi h.as.ir.symm u e e4
  ·intro u e e2;injection e2 with e2;injection e2 with e3 e4;exact l7 _ _ h.as.wv h.as.vr.symm u e e4
 ·rw[jq]
  refine⟨fun i o ho kE hgi JG hmv=>?_,fun _ _ e=>e,fun i hi e=>?_,by rw[List.length_set];exact k4.len⟩
  ·rw[eM (Ne.symm kE)];exact k4.pj i o ho JG
  ·injection e with e;injection e with e3 e4
   rcases h.as.wr with⟨e5,h0⟩ | ⟨u',e5,h1,h2⟩
   ·have:=k2 e5;omega
   ·have:=k3 u' e5;subst this;subst e4;exact e5
 ·refine(k5 _).trans ?_
  rw[aU,aC,aC]
  have e:A.roots.map I ++ [I v]=A'.roots.map I:=by simp [A']
  rw[e]
  exact st k
end
inductive Df where
 | gI
 | root (e:Ex)
 | ex (e:Ex)
def Df.size:Df→Nat
 | .gI=>1
 | .root e=>e.size+1
 | .ex e=>e.size
def Df.run(w:List Nat):Df→cm→cm
 | .gI,A=>{(A.emit 1 A.dx 0).1.name w (A.emit 1 A.dx 0).2 with dx:=A.dx+1}
 | .root e,A=>{((e.run A).1.emit 6 (e.run A).2 0).1.name w ((e.run A).1.emit 6 (e.run A).2 0).2 with roots:=(e.run A).1.roots ++ [((e.run A).1.emit 6 (e.run A).2 0).2]}
 | .ex e,A=>(e.run A).1.name w (e.run A).2
def Tf(f:Nat)(s:List Nat):Option Df:=
 if s=[105,110] then some .gI else match s with
  | []=>none
  | x :: r=>if x=33 then(match pS f r with
    | none=>none
    | some (e,_)=>some (.root e))
   else(match pS f (x :: r) with
    | none=>none
    | some (e,_)=>some (.ex e))
def gM(f:Nat):List (List Nat×List Nat)→Option (List (List Nat×Df))
 | []=>some []
 | (w,s) :: l=>match Tf f s with
  | none=>none
  | some x=>match gM f l with
   | none=>none
   | some r=>some ((w,x) :: r)
def n9(f:Nat):List (List Nat)→Option (List Ex)
 | []=>some []
 | s :: l=>match pS f s with
  | none=>none
  | some (e,_)=>match n9 f l with
   | none=>none
   | some r=>some (e :: r)
def cI:List (List Nat×Df)→cm→cm
 | [],A=>A
 | (w,x) :: l,A=>cI l (x.run w A)
def eR:List Ex→cm→cm×List Int
 | [],A=>(A,[])
 | e :: l,A=>((eR l (e.run A).1).1,(e.run A).2 :: (eR l (e.run A).1).2)
def fJ:List (List Nat×Df)→Nat
 | []=>0
 | (_,x) :: l=>x.size+fJ l
def oc:List Ex→Nat
 | []=>0
 | e :: l=>e.size+oc l
theorem fb:∀(x:Ex) (A:cm),(x.run A).1.roots=A.roots∧(x.run A).1.dx=A.dx∧(x.run A).1.aL=A.aL∧(x.run A).1.env=A.env
 | .con _,A=>⟨rfl,rfl,rfl,rfl⟩
 | .var _,A=>⟨rfl,rfl,rfl,rfl⟩
 | .sq a,A=>fb a A
 | .mul a b,A=>by
  have h1:=fb a A;have h2:=fb b (a.run A).1
  exact⟨h2.1.trans h1.1,h2.2.1.trans h1.2.1,h2.2.2.1.trans h1.2.2.1,h2.2.2.2.trans h1.2.2.2⟩
 | .add a b,A=>by
  have h1:=fb a A;have h2:=fb b (a.run A).1
  exact⟨h2.1.trans h1.1,h2.2.1.trans h1.2.1,h2.2.2.1.trans h1.2.2.1,h2.2.2.2.trans h1.2.2.2⟩
 | .sub a b,A=>by
  have h1:=fb a A;have h2:=fb b (a.run A).1
  exact⟨h2.1.trans h1.1,h2.2.1.trans h1.2.1,h2.2.2.1.trans h1.2.2.1,h2.2.2.2.trans h1.2.2.2⟩
 | .neg a,A=>fb a (A.emit 2 0 0).1
structure dK (A:cm) (n m:Nat):Prop where
 ins:A.ins.length+n < 1000000000
 roots:A.roots.length+m < 1000000000
 lo:0≤A.dx
 dx:A.dx+m < 1000000000
theorem dK.df{A:cm}{x:Df}{n m:Nat}(w:List Nat)(h:dK A (x.size+n) (m+1)):dK (x.run w A) n m:=by
 obtain⟨h1,h2,h3,h4⟩:=h
 cases x with
 | gI=>
  refine⟨?_,?_,?_,?_⟩
  ·show((A.emit 1 A.dx 0).1.ins.length+n < _);rw[fQ];rw[Df.size] at h1;omega
  ·show A.roots.length+m < _;omega
  ·show 0≤A.dx+1;omega
  ·show A.dx+1+m < _;omega
 | root e=>
  have hl:=dH e A;have hr:=fb e A
  refine⟨?_,?_,?_,?_⟩
  ·show(((e.run A).1.emit 6 (e.run A).2 0).1.ins.length+n < _);rw[fQ,hl];rw[Df.size] at h1;omega
  ·show((e.run A).1.roots ++ [_]).length+m < _;rw[hr.1];simp;omega
  ·show 0≤(e.run A).1.dx;rw[hr.2.1];exact h3
  ·show(e.run A).1.dx+m < _;rw[hr.2.1];omega
 | ex e=>
  have hl:=dH e A;have hr:=fb e A
  refine⟨?_,?_,?_,?_⟩
  ·show((e.run A).1.ins.length+n < _);rw[hl];rw[Df.size] at h1;omega
  ·show(e.run A).1.roots.length+m < _;rw[hr.1];omega
  ·show 0≤(e.run A).1.dx;rw[hr.2.1];exact h3
  ·show(e.run A).1.dx+m < _;rw[hr.2.1];omega
def ee(l:List (List Nat×List Nat)):List AV:=l.flatMap fun p=>[.str p.1, .str p.2]
theorem qJ:∀l,(ee l).length=2 * l.length
 | []=>rfl
 | p :: l=>by simp only[ee,List.flatMap_cons,dp,cP,eh];have:=qJ l;simp only[ee] at this;omega
theorem wW:∀(pre:List (List Nat×List Nat)) (p:List Nat×List Nat) (l:List (List Nat×List Nat)),(ee (pre ++ p :: l))[2 * pre.length]? =some (.str p.1)∧(ee (pre ++ p :: l))[2 * pre.length+1]? =some (.str p.2)
 | [],p,l=>⟨rfl,rfl⟩
 | q :: pre,p,l=>by
  have h:=wW pre p l
  have e:ee (q :: pre ++ p :: l)= .str q.1 :: .str q.2 :: ee (pre ++ p :: l):=rfl
  rw[e,cP,show 2 * (pre.length+1)=2 * pre.length+1+1 by omega]
  exact h
section
variable{d j:Nat}{mv:AV}{gv:Gr}
theorem X8(f:Nat)(dB:List (List Nat×List Nat))(g1:Gr)(cv:AV)(LH:dB.length < 1000000)(nr:∀p∈dB,p.2.length < 1000000000):∀(l pre:List (List Nat×List Nat)) (D:List (List Nat×Df)) (S:St) (A:cm) (gi gr:Gr),dB=pre ++ l→gM f l=some D→AS d j mv gv gr S A gi→d≠S.aa→dK A (fJ D) l.length→
  ∃S' cR iQ,zo (PP T1 G X) (.ref (.g d j) 0) (.bO [.sl 1 (ee dB) g1,cv]) (.int .i64 ((2 * pre.length:Nat):Int)) S=Dm (PP T1 G X) (.ref (.g d j) 0) (.bO [.sl 1 (ee dB) g1,cv]) S'∧AS d j mv gv iQ S' (cI D A) cR∧pK d j mv S gi gr S' cR iQ:=by
 intro l
 induction l with
 | nil=>
  intro pre D S A gi gr hd hD h cK hR
  injection hD with hD;subst hD
  refine⟨S,gi,gr,?_,h, .refl h.fd⟩
  have hlen:=qJ dB
  rw[List.append_nil] at hd
  subst hd
  have a1:=fun(S:St) (k:K1)=>gD G X S k (2 * dB.length) (by omega)
  rw[FU _ (aA _ _ _),a1,dF,bW,bP,bt,hlen,bb,aT (by omega),bf]
 | cons p l ih=>
  intro pre D S A gi gr hd hD h cK hR
  obtain⟨w,src⟩:=p
  rw[gM] at hD
  cases hx:Tf f src with
  | none=>rw[hx] at hD;cases hD
  | some x=>
   rw[hx] at hD
   simp only at hD
   cases hq:gM f l with
   | none=>rw[hq] at hD;cases hD
   | some D'=>
    rw[hq] at hD
    injection hD with hD
    subst hD
    have hlen:=qJ dB
    have tG:pre.length < dB.length:=by rw[hd];simp
    have hg:=wW pre (w,src) l
    rw[←hd] at hg
    dsimp only at hg
    have kX:src.length < 1000000000:=nr (w,src) (by rw[hd];simp)
    have G7:=hR
    rw[cP,fJ] at G7
    have G8:dK (x.run w A) (fJ D') l.length:=dK.df w G7
    have a1:=fun(S:St) (k:K1)=>gD G X S k (2 * pre.length) (by omega)
    have a2:∀(S:St) (k:K1),(PP T1 G X).ak S k (au .add (.int .i64 ((2 * pre.length:Nat):Int)) (.int .i64 2))=k (.int .i64 ((2 * pre.length+2:Nat):Int)) S:=fun S k=>iI (T:=T1) (G:=G) (X:=X) (s:=S) (k:=k) (2 * pre.length) 2 (by omega)
    have i1:=fun(S:St) (k:K1)=>kF G X S k 1 (ee dB) g1 .i64 (2 * pre.length) _ hg.1
    have i2:=fun(S:St) (k:K1)=>kF G X S k 1 (ee dB) g1 .i64 (2 * pre.length+1) _ hg.2
    have ls:=fun(S:St) (k:K1) (b:List Nat)=>show(PP T1 G X).aq S k none (.bO (AV.cells (.str b)))=k (.str b) S from rfl
    have rest:∀(S1:St) (tJ G6:Gr),AS d j mv gv G6 S1 (x.run w A) tJ→pK d j mv S gi gr S1 tJ G6→∃S' cR iQ,zn (PP T1 G X) (.ref (.g d j) 0) (.bO [.sl 1 (ee dB) g1,cv]) (.int .i64 ((2 * pre.length:Nat):Int)) S1=Dm (PP T1 G X) (.ref (.g d j) 0) (.bO [.sl 1 (ee dB) g1,cv]) S'∧AS d j mv gv iQ S' (cI ((w,x) :: D') A) cR∧pK d j mv S gi gr S' cR iQ:=fun S1 tJ G6 h1 u1=>by
     obtain⟨S2,uO,Te,e2,h2,u2⟩:=ih (pre ++ [(w,src)]) D' S1 (x.run w A) tJ G6 (by rw[hd];simp) hq h1 (by rw[u1.aa];exact cK) G8
     refine⟨S2,uO,Te,?_,h2,u1.trans u2⟩
     rw[Wt _ (aA _ _ _),a2,←e2,dp]
     rfl
    have head:zo (PP T1 G X) (.ref (.g d j) 0) (.bO [.sl 1 (ee dB) g1,cv]) (.int .i64 ((2 * pre.length:Nat):Int)) S=Li (PP T1 G X) (.ref (.g d j) 0) (.bO [.sl 1 (ee dB) g1,cv]) (.int .i64 ((2 * pre.length:Nat):Int)) S:=by
     rw[FU _ (aA _ _ _),a1,dF,bW,bP,bt,hlen,bb,a9 (by omega),be]
    rw[head,Wu _ (aA _ _ _),dF,bW,bP,i1,ls,dF,bW,bP,a1,i2,ls,vF]
    have Jf:=G7.ins
    unfold Tf at hx
    by_cases mn:src=[105,110]
    ·rw[if_pos mn] at hx
     injection hx with hx
     subst hx
     rw[Df.size] at Jf
     obtain⟨S1,tJ,h1,u1,c1⟩:=h.emit G X (by omega) 1 A.dx 0
     obtain⟨S2,h2,u2,c2⟩:=h1.name G X w (A.emit 1 A.dx 0).2
     obtain⟨S3,h3,u3,c3⟩:=h2.count G X (A.dx+1)
     obtain⟨S4,gi4,gr4,e4,h4,u4⟩:=rest S3 tJ gr h3 (u1.trans (u2.trans u3))
     refine⟨S4,gi4,gr4,?_,h4,u4⟩
     have aIU:=G7.dx;have l7:=G7.lo
     rw[a9 mn,be,aU,aC,h.X1,aU,aC,h.X5]
     refine(c1 _).trans ?_
     refine(c2 _).trans ?_
     rw[aU,aC,h2.X5,uc,show((A.emit 1 A.dx 0).1.name w (A.emit 1 A.dx 0).2).dx=A.dx from rfl,ie _ (by omega) (by omega),aU,aC]
     refine(c3 _).trans ?_
     exact e4
    ·rw[if_neg mn] at hx
     cases src with
     | nil=>cases hx
     | cons y r=>
      simp only at hx
      have ix:∀(S:St) (k:K1),(PP T1 G X).cZ S k (.str (y :: r)) (.int .i64 0)=k (.int .u8 (y:Int)) S:=fun S k=>gS G X (s:=S) (k:=k) (y :: r) .i64 0 y rfl
      by_cases hy:y=33
      ·rw[if_pos hy] at hx
       cases hp:pS f r with
       | none=>rw[hp] at hx;cases hx
       | some er=>
        obtain⟨ex,r1⟩:=er
        rw[hp] at hx
        injection hx with hx
        subst hx
        rw[Df.size] at Jf
        have hl:=dH ex A
        have xZ:=fb ex A
        have aph:∀(S:St) (k:K1),(PP T1 G X).qo (.str (y :: r)) (some (.int .i64 1)) none S k=k (.str r) S:=fun S k=>by
         show hSub (.str (y :: r)) (some (.int .i64 1)) none S k=_
         unfold hSub
         simp [tI,eE]
         have q1:Nat.ble 1 (r.length+1)=true:=dy (by omega)
         have q2:Nat.ble (r.length+1) (r.length+1)=true:=dy (Nat.le_refl _)
         rw[q1,q2]
         rfl
        obtain⟨S1,tJ,h1,u1,c1,c1'⟩:=h.expr G X hp (by omega) (by simp at kX;omega)
        obtain⟨S2,uO,h2,u2,c2⟩:=h1.emit G X (by omega) 6 (ex.run A).2 0
        obtain⟨S3,h3,u3,c3⟩:=h2.name G X w ((ex.run A).1.emit 6 (ex.run A).2 0).2
        have awS:=G7.roots
        have hd3:d≠S3.aa:=by rw[u3.aa,u2.aa,u1.aa];exact cK
        have hr3:(((ex.run A).1.emit 6 (ex.run A).2 0).1.name w ((ex.run A).1.emit 6 (ex.run A).2 0).2).roots=A.roots:=xZ.1
        obtain⟨S4,gr4,h4,u4,c4⟩:=h3.root G X hd3 (by rw[hr3];omega) ((ex.run A).1.emit 6 (ex.run A).2 0).2
        obtain⟨S5,gi5,gr5,e5,h5,u5⟩:=rest S4 uO gr4 h4 (u1.trans (u2.trans (u3.trans u4)))
        refine⟨S5,gi5,gr5,?_,h5,u5⟩
        have lk:=fun(k:K1)=>h3.look G X k w
        rw[show(lY (((ex.run A).1.emit 6 (ex.run A).2 0).1.name w ((ex.run A).1.emit 6 (ex.run A).2 0).2).env w).getD 0=((ex.run A).1.emit 6 (ex.run A).2 0).2 from by
         show(lY ((w,_) :: _) w).getD 0=_
         rw[lY,if_pos rfl];rfl] at lk
        rw[aT mn,bf,ix,bj,a9 (by omega),be,aU,aC,h.X1,aph]
        refine(c1 _).trans ?_
        refine(c2 _).trans ?_
        refine(c3 _).trans ?_
        rw[aU,aC,aC,h3.nc,aU,aC,h3.aFd,lk]
        refine Eq.trans ?_ e5
        exact c4 _
      ·rw[if_neg hy] at hx
       cases hp:pS f (y :: r) with
       | none=>rw[hp] at hx;cases hx
       | some er=>
        obtain⟨ex,r1⟩:=er
        rw[hp] at hx
        injection hx with hx
        subst hx
        rw[Df.size] at Jf
        obtain⟨S1,tJ,h1,u1,c1,c1'⟩:=h.expr G X hp (by omega) kX
        obtain⟨S2,h2,u2,c2⟩:=h1.name G X w (ex.run A).2
        obtain⟨S3,gi3,gr3,e3,h3,u3⟩:=rest S2 tJ gr h2 (u1.trans u2)
        refine⟨S3,gi3,gr3,?_,h3,u3⟩
        rw[aT mn,bf,ix,bj,aT (by omega),bf,aU,aC,h.X1]
        refine(c1 _).trans ?_
        refine(c2 _).trans ?_
        exact e3
end
section
variable{d j:Nat}{mv:AV}{gv gr:Gr}{s S:St}{A:cm}{gi:Gr}
theorem Child.ne(hS:Child s S)(h:fE s d):d≠S.aa:=by have:=h.hi;have:=hS.aa;omega
theorem Child.inF(hS:Child s S)(h:fE s d):fE S d:=⟨by rw[hS.ro];exact h.lo,by have:=h.hi;have:=hS.aa;omega⟩
theorem Child.eq(hS:Child s S):S= {s.ai with own:=S.own}:=by
 obtain⟨o,u,r⟩:=S
 obtain⟨h1,h2⟩:=hS
 simp only at h1 h2
 subst h1;subst h2
 rfl
theorem Child.cC(hS:Child s S)(h:fE s d):S.cC d=s.cC d:=by
 rw[Child.eq hS,G5 (by have:=h.hi;have:=gF s;omega),fI h]
theorem Child.bz(hS:Child s S)(h:fE s d)(F:List bg):Child (s.bz d F) (S.bz d F)∧(S.bz d F).own=S.own:=by
 have cK:d≠s.ai.aa:=by have:=h.hi;have:=gF s;omega
 have e:S.bz d F= {(s.bz d F).ai with own:=S.own}:=by
  conv=>lhs;rw[Child.eq hS]
  rw[Bi cK,jx h]
 exact⟨by rw[e];exact⟨rfl,rfl⟩,by rw[e]⟩
theorem AS.child(h:AS d j mv gv gr s A gi)(hS:Child s S):AS d j mv gv gr S A gi:=
 ⟨Child.inF hS h.fd,by rw[Child.cC hS h.fd];exact h.as,by rw[Child.cC hS h.fd];exact h.mp⟩
theorem pK.child{S':St}{A':cm}{cR iQ:Gr}(h:AS d j mv gv gr s A gi)(hS:Child s S)(u:pK d j mv S gi gr S' cR iQ)(h':AS d j mv gv iQ S' A' cR):
  ∃s',Child s' S'∧S'.own=S.own∧pK d j mv s gi gr s' cR iQ∧AS d j mv gv iQ s' A' cR:=by
 obtain⟨F,rfl⟩:=u.st
 obtain⟨c1,c2⟩:=Child.bz hS h.fd F
 have hf:=cj h.fd F
 have jq:=cj (Child.inF hS h.fd) F
 have kc:=u.kc
 rw[jq,Child.cC hS h.fd] at kc
 have a1:=h'.as
 have a2:=h'.mp
 rw[jq] at a1 a2
 exact⟨s.bz d F,c1,c2,⟨⟨F,rfl⟩,by rw[hf];exact kc⟩,⟨h.fd.put _ _,by rw[hf];exact a1,by rw[hf];exact a2⟩⟩
theorem iX.own{S S':St}{g:Gr}{n:Nat}(h:iX S g n)(e:S'.own=S.own):iX S' g n:=by
 cases h with
 | nil=>exact .nil
 | bJ j n hn h=>exact .bJ j n hn (by rw[e];exact h)
theorem Ai{S:St}{es new:List AV}{g g2:Gr}{q bytes:Nat}(hg:iX S g es.length)(hn:new≠[])(hb:(es.length+new.length) * bytes≤1099511627776)(hc:(new.flatMap AV.cells).all AV.dU=true)(sR:∀a,g2≠.bJ a):
  ∃g' S',iX S' g' (es.length+new.length)∧g'≠.nil∧(g≠.nil→g'=g)∧(g= .nil→g'= .bJ (.l S.own.length))∧Grown S S' g∧∀k:K1,(PP T1 G X).cz S k q bytes (some (.l 0)) (.sl q es g) (.sl q new g2)=k (.sl q (es ++ new) g') S':=by
 have el:dl S (.sl q new g2)=some (q,new):=by cases g2 <;> first | rfl | exact absurd rfl (sR _)
 have bl:Nat.ble ((es.length+new.length) * bytes) 1099511627776=true:=dy hb
 cases new with
 | nil=>exact absurd rfl hn
 | cons c cs=>
  rcases hg.inv with⟨rfl,nM⟩ | ⟨j,rfl,kJ,h⟩
  ·refine⟨.bJ (.l S.own.length),S.new (.tok (es.length+(c :: cs).length)), .bJ _ _ (by simp;omega) (by simp [St.new]),by simp,fun h=>absurd rfl h,fun _=>rfl,⟨rfl,rfl,by simp [St.new],fun j o h _=>?_⟩,fun k=>?_⟩
   ·simp only[St.new]
    rw[eZ (bZ.1 h).1]
    exact h
   ·rw[iu]
    unfold eA
    simp only
    unfold fC
    rw[el]
    simp only[Nat.beq_refl,Bool.true_and,bl,cond_true,St.gK]
    rfl
  ·have e:S.get (.l j)=some (.tok es.length):=h
   refine⟨.bJ (.l j),{S with own:=S.own.set j (.tok (es.length+(c :: cs).length))}, .bJ _ _ (by simp;omega) (by simp [(bZ.1 h).1]),by simp,fun _=>rfl,fun h=>(by simp at h),⟨rfl,rfl,by simp,fun i o hi cK=>?_⟩,fun k=>?_⟩
   ·have:j≠i:=fun e=>cK (by rw[e])
    simp only
    rw[eM this]
    exact hi
   ·rw[iu]
    unfold eA
    simp only
    unfold fC
    rw[el]
    simp only[Nat.beq_refl,bl,cond_true,e,hc,Bool.and_self]
    show(match S.set (.l j) (.tok (es.length+(c :: cs).length)) with | some s=>k (.sl q (es ++ c :: cs) (.bJ (.l j))) s | none=>.fail)=_
    simp only[St.set]
theorem nI:∀l:List Int,AV.ba (l.map I)=true
 | []=>rfl
 | x :: l=>by simp only[List.map_cons,AV.ba,AV.bo,nI l,Bool.and_self]
theorem X9(f:Nat)(cs:List (List Nat))(g2:Gr)(LH:cs.length < 1000000)(nr:∀p∈cs,p.length < 1000000000):∀(l pre:List (List Nat)) (E:List Ex) (s S:St) (A:cm) (gi g:Gr) (out:List Int),cs=pre ++ l→n9 f l=some E→AS d j mv gv gr s A gi→Child s S→iX S g out.length→out.length=pre.length→A.ins.length+oc E < 1000000000→
  ∃s' cR,Dl (PP T1 G X) (.ref (.g d j) 0) (gp out g) (.sl 1 (cs.map AV.str) g2) (.int .i64 (cs.length:Int)) (.int .i64 (pre.length:Int)) S= .ok (gp (out ++ (eR E A).2) (fO (out ++ (eR E A).2))) s'∧AS d j mv gv gr s' (eR E A).1 cR∧pK d j mv s gi gr s' cR gr:=by
 intro l
 induction l with
 | nil=>
  intro pre E s S A gi g out hd hE h hS hg xz hb
  injection hE with hE;subst hE
  rw[List.append_nil] at hd
  subst hd
  refine⟨s,gi,?_,h, .refl h.fd⟩
  rw[FT _ (aA _ _ _),bb,aT (by omega),bf,Wx _ (aA _ _ _)]
  have fr:=nC (S:=S) (sz:=1) (es:=out.map I) (g:=g) (by simpa using hg) (nI _)
  rw[pX] at fr
  rw[show(eR [] A).2=[] from rfl,List.append_nil]
  exact jv hS _ _ fr
 | cons src l ih=>
  intro pre E s S A gi g out hd hE h hS hg xz hb
  rw[n9] at hE
  cases hp:pS f src with
  | none=>rw[hp] at hE;cases hE
  | some er=>
   obtain⟨ex,r⟩:=er
   rw[hp] at hE
   simp only at hE
   cases hq:n9 f l with
   | none=>rw[hq] at hE;cases hE
   | some E'=>
    rw[hq] at hE
    injection hE with hE
    subst hE
    rw[oc] at hb
    have hlen:pre.length < cs.length:=by rw[hd];simp
    have hg1:(cs.map AV.str)[pre.length]? =some (.str src):=by rw[hd];simp
    have hl:=dH ex A
    obtain⟨S1,tJ,h1,u1,c1,c1'⟩:=(h.child hS).expr G X hp (by omega) (nr src (by rw[hd];simp))
    obtain⟨s1,LI,ho1,v1,nk⟩:=pK.child h hS u1 h1
    have i1:=fun(S:St) (k:K1)=>kF G X S k 1 (cs.map AV.str) g2 .i64 pre.length _ hg1
    have ls:=fun(S:St) (k:K1) (b:List Nat)=>show(PP T1 G X).aq S k none (.bO (AV.cells (.str b)))=k (.str b) S from rfl
    have bs:∀(S:St) (k:K1),(PP T1 G X).aF S k 1 [I (ex.run A).2]=k (.sl 1 [I (ex.run A).2] .exact) S:=fun S k=>rfl
    have a1:=fun(S:St) (k:K1)=>gD G X S k pre.length (by omega)
    rw[FT _ (aA _ _ _),bb,a9 (by omega),be,Ww _ (aA _ _ _),i1,ls]
    have api:(eR (ex :: E') A).2=(ex.run A).2 :: (eR E' (ex.run A).1).2:=rfl
    obtain⟨g',S',k1,k2,k3,k4,k5,k6⟩:=Ai G X (S:=S1) (q:=1) (bytes:=8) (es:=out.map I) (new:=[I (ex.run A).2]) (g:=g) (g2:=.exact) (by rw[cw];exact iX.own hg ho1) (by simp) (by simp;omega) rfl (fun a e=>by cases e)
    obtain⟨s2,uO,e2,h2,u2⟩:=ih (pre ++ [src]) E' s1 S' (ex.run A).1 tJ g' (out ++ [(ex.run A).2]) (by rw[hd];simp) hq nk (k5.child LI) (by simpa using k1) (by simp [xz]) (by omega)
    refine⟨s2,uO,?_,h2,v1.trans u2⟩
    refine(c1' _).trans ?_
    rw[bs]
    refine(k6 _).trans ?_
    rw[Wv _ (aA _ _ _),a1,api]
    rw[dp,pY,List.singleton_append] at e2
    rw[←e2,gp,List.map_append]
    rfl
theorem awT(f:Nat)(dB:List (List Nat×List Nat))(cs:List (List Nat))(D:List (List Nat×Df))(E:List Ex)(g1 g2:Gr)(hD:gM f dB=some D)(hE:n9 f cs=some E)(LH:dB.length < 1000000)(tH:cs.length < 1000000)(nr:∀p∈dB,p.2.length < 1000000000)(Tg:∀p∈cs,p.length < 1000000000)
  (h:AS d j mv gv gr s A gi)(hR:dK A (fJ D) dB.length)(hb:(cI D A).ins.length+oc E < 1000000000):
  ∃s' cR iQ,aJ T1 G X 45 [.ref (.g d j) 0, .agg [.sl 1 (ee dB) g1, .sl 1 (cs.map AV.str) g2]] s= .ok (gp (eR E (cI D A)).2 (fO (eR E (cI D A)).2)) s'∧AS d j mv gv iQ s' (eR E (cI D A)).1 cR∧pK d j mv s gi gr s' cR iQ:=by
 have hS:=Child.ai s
 obtain⟨S1,tJ,G6,e1,h1,u1⟩:=X8 G X f dB g1 (.sl 1 (cs.map AV.str) g2) LH nr dB [] D s.ai A gi gr rfl hD (h.child hS) (Child.ne hS h.fd) hR
 obtain⟨s1,LI,ho1,v1,nk⟩:=pK.child h hS u1 h1
 have gr0:iX S1 .nil ([]:List Int).length:=.nil
 obtain⟨s2,uO,e2,h2,u2⟩:=X9 G X f cs g2 tH Tg cs [] E s1 S1 (cI D A) tJ .nil [] rfl hE nk LI gr0 rfl hb
 refine⟨s2,uO,G6,?_,h2,v1.trans u2⟩
 rw[ahk,avL,bE]
 refine e1.trans ?_
 rw[Wy _ (aA _ _ _),dF,show List.drop 1 [.sl 1 (ee dB) g1, .sl 1 (cs.map AV.str) g2]=[AV.sl 1 (cs.map AV.str) g2] from rfl,bP,bt,cw]
 exact e2
end
theorem apj(s:St)(n:Nat)(h:n < 10):aJ T1 G X 163 [.int .i64 (n:Int)] s= .ok (.str [48+n]) s:=by
 have a1:=fun(S:St) (k:K1)=>gD G X S k n (by omega)
 have dg:∀n,n < 10→(([48,49,50,51,52,53,54,55,56,57,97,98,99,100,101,102,103,104,105,106,107,108,109,110,111,112,113,114,115,116,117,118,119,120,121,122]:List Nat).drop n).take (n+1 - n)=[48+n]:=by decide
 rw[WJ,anw,bb,a9 (by omega),be,a1,LF G X _ n (n+1) (by omega) (by simp;omega),dg n h]
 exact qw _
theorem apk(s:St)(n:Nat)(h:n < 10):aJ T1 G X 152 [.int .i64 (n:Int), .int .i64 10] s= .ok (.str [48+n]) s:=by
 have l1:decide ((0:Int)≤(n:Int))=true:=a9 (by omega)
 have l2:decide ((n:Int) < 100)=true:=a9 (by omega)
 rw[WI,anu,bj,a9 (by decide),be,rB,l1]
 simp only[dP,bb,l2,c7,be]
 refine(aN (apj G X s.ai n h)).trans ?_
 exact qw _
theorem awU(s:St)(n:Nat)(h:n < 10):aJ T1 G X 75 [.int .i64 (n:Int)] s= .ok (.str [48+n]) s:=by
 have f120:aJ T1 G X 120 [.int .i64 (n:Int)] s.ai= .ok (.str [48+n]) s.ai:=by
  rw[WH,anr]
  refine(aN (apk G X s.ai.ai n h)).trans ?_
  exact qw _
 rw[ahn,av3]
 refine(aN f120).trans ?_
 exact qw _
abbrev Ev:=List (List Nat×Int)
def jz(t:Nat):List (List Nat):=
 if t=1 then[[120],[121],[122]] else if t=2 then[[97],[98],[99]] else if t=3 then[[117],[112],[113],[114],[97,120],[97,121],[97,122]] else[]
def iU(f:Nat→Nat)(t:Nat):Nat→Nat:=fun x=>if x=t then f x+1 else f x
def mz:List Nat→(Nat→Nat)→Nat→Nat
 | [],f=>f
 | t :: ts,f=>mz ts (iU f t)
def iZ(tail:List Nat):List (List Nat)→List Int→Ev→Ev
 | n :: ns,r :: rs,e=>iZ tail ns rs ((n ++ tail,r) :: e)
 | _,_,e=>e
def tn(many:Nat→Nat):(Nat→Nat)→List Nat→List (List Int)→Ev→Ev
 | seen,t :: ts,v :: vs,e=>tn many (iU seen t) ts vs (iZ (if 1 < many t then[48+iU seen t t] else[]) (jz t) v e)
 | _,_,_,e=>e
def G9(ts:List Nat)(vs:List (List Int)):Ev:=tn (mz ts fun _=>0) (fun _=>0) ts vs []
abbrev In(n:Nat):AV:=.int .i64 (n:Int)
abbrev jT(f:Nat→Nat):List AV:=[In (f 0),In (f 1),In (f 2),In (f 3)]
theorem vH(f:Nat→Nat)(t:Nat)(h:t < 4):(jT f)[t]? =some (In (f t)):=by
 have:t=0∨t=1∨t=2∨t=3:=by omega
 rcases this with rfl | rfl | rfl | rfl <;> rfl
theorem Jg(f:Nat→Nat)(t:Nat)(h:t < 4):(jT f).set t (In (f t+1))=jT (iU f t):=by
 have:t=0∨t=1∨t=2∨t=3:=by omega
 rcases this with rfl | rfl | rfl | rfl <;> simp [jT,iU]
def fr(s:St)(d:Nat)(F O:List bg):St:={(s.bz d F).ai with own:=O}
section
variable{s:St}{d:Nat}
theorem LJ(h:fE s d)(F O:List bg):fE (fr s d F O) d:=⟨by show(s.bz d F).ro.length≤d;rw[SZ];exact h.lo,by
 have e:=gF (s.bz d F)
 have e2:(fr s d F O).aa=(s.bz d F).ai.aa:=rfl
 have:=h.hi
 rw[e2,e,eV];omega⟩
theorem apl(h:fE s d)(F O:List bg):d≠(fr s d F O).aa:=by
 have e:=gF (s.bz d F)
 have e2:(fr s d F O).aa=(s.bz d F).ai.aa:=rfl
 have:=h.hi
 rw[e2,e,eV];omega
theorem LK(h:fE s d)(F O:List bg):(fr s d F O).cC d=F:=by
 have cK:d≠(s.bz d F).ai.aa:=apl h F O
 rw[fr,G5 cK,fI (h.put _ _),cj h]
theorem agp(h:fE s d)(F F' O:List bg):(fr s d F O).bz d F'=fr s d F' O:=by
 have cK:d≠(s.bz d F).ai.aa:=apl h F O
 rw[fr,Bi cK,←jx (h.put _ _),gT]
 rfl
end
section
variable{S:St}{k:K1}
theorem lT{i o:Nat}{cs:List AV}{c:AV}(hf:S.own[i]? =some (.cells cs))(hc:cs[o]? =some c):(PP T1 G X).aq S k none (.ref (.l i) o)=k c S:=by
 rw[nA]
 simp only[fK,show S.get (.l i)=some (.cells cs) from hf,fm]
 have:cs.drop o=c :: cs.drop (o+1):=by
  have ho:=(bZ.1 hc)
  rw[List.drop_eq_getElem_cons ho.1,ho.2]
 rw[this]
 rfl
theorem Aj{i o:Nat}{cs:List AV}{v:AV}(hf:S.own[i]? =some (.cells cs))(ho:o < cs.length)(hv:v.dU=true)(hw:v.cells=[v])(oK:v.fF=true):(PP T1 G X).a7 S k 1 (.ref (.l i) o) v=k .dead {S with own:=S.own.set i (.cells (cs.set o v))}:=by
 rw[pV]
 simp only[iS,oK,hw,cP,eh,Nat.zero_add,Nat.beq_refl,Bool.and_self,cond_true]
 unfold lG
 have ht:S.iR (.l i) [v]=true:=by simp [St.iR,St.At]
 rw[show S.get (.l i)=some (.cells cs) from hf]
 simp only[cP,eh,Nat.zero_add,show Nat.ble (o+1) cs.length=true from dy ho,ht,List.all_cons,hv,List.all_nil,Bool.and_self,cond_true]
 rfl
theorem to{a:Ab.Loc}{kk:IntKind}(t n:Nat)(h:t < n):(PP T1 G X).jQ S k 1 n (.ref a 0) (.int kk (t:Int))=k (.ref a t) S:=by
 show kQ (EV G (aJ T1 G X) bX) S k 1 n (.ref a 0) (.int kk (t:Int))=_
 unfold kQ
 simp only[iW]
 rw[show Nat.blt t n=true from dy h]
 simp only[cond_true,Nat.zero_add,Nat.mul_one]
 rfl
theorem DA{a:Ab.Loc}{kk:IntKind}(n c i:Nat)(h:i < n):(PP T1 G X).aX S k 1 (.ck a 0 n c 1) (.int kk (i:Int))=k (.ref a i) S:=by
 show p0 (EV G (aJ T1 G X) bX) S k 1 (.ck a 0 n c 1) (.int kk (i:Int))=_
 unfold p0
 simp only[iW]
 rw[show Nat.blt i n=true from dy h]
 simp only[Nat.beq_refl,Bool.and_self,cond_true,Nat.zero_add,Nat.mul_one]
 rfl
end
def vT(F:List bg)(d:Nat)(v:AV)(ts:List Nat):Prop:=(v= .sl 1 [] .nil∧ts=[])∨∃t,v= .ck (.g d t) 0 ts.length 0 1∧F[t]? =some (.cells (ts.map In))∧0 < ts.length
def apT(d i:Nat)(v:AV):Prop:=∀n c z,v≠.ck (.g d i) 0 n c z
section
variable{s:St}{d j:Nat}
theorem Ya(h:fE s d)(v1:AV)(alike:Bool)(tv:AV)(n:Nat)(O:List bg):∀(rest pre:List Nat) (F:List bg) (f:Nat→Nat),vT F d tv (pre ++ rest)→n=(pre ++ rest).length→n < 1000→(∀t∈rest,t < 4)→(∀t,f t≤pre.length)→
  ∃F',vp (PP T1 G X) (.ref (.g d j) 0) v1 tv (.bool alike) (.ref (.l 0) 0) (.ref (.l 1) 0) tv (In n) (In pre.length) (fr s d F (.cells (jT f) :: O))=Dk (PP T1 G X) (.ref (.g d j) 0) v1 tv (.ref (.l 0) 0) (.ref (.l 1) 0) (fr s d F' (.cells (jT (mz (if alike=true then rest.map (fun _=>1) else rest) f)) :: O))∧
   vT F' d tv (pre ++ (if alike=true then rest.map (fun _=>1) else rest))∧(∀i o,F[i]? =some o→apT d i tv→F'[i]? =some o)∧F'.length=F.length:=by
 intro rest
 induction rest with
 | nil=>
  intro pre F f ht hn Ak h4 hf
  have e:(if alike=true then([]:List Nat).map (fun _=>1) else[])=[]:=by cases alike <;> rfl
  rw[e]
  refine⟨F,?_,ht,fun _ _ h _=>h,rfl⟩
  rw[List.append_nil] at hn
  rw[FP _ (aA _ _ _),bb,aT (by omega),bf]
  rfl
 | cons t rest ih=>
  intro pre F f ht hn Ak h4 hf
  have CO:n=pre.length+(rest.length+1):=by rw[hn];simp
  have tG:pre.length < n:=by omega
  rcases ht with⟨_,e⟩ | ⟨tt,rfl,Im,_⟩
  ·simp at e
  ·rw[←hn] at *
   have fi:=LJ h F (.cells (jT f) :: O)
   have ff:=LK h F (.cells (jT f) :: O)
   have hg:((pre ++ t :: rest).map In)[pre.length]? =some (In t):=by simp
   have cM:pre.length < ((pre ++ t :: rest).map In).length:=by simp
   have nr:(pre ++ t :: rest).length=pre.length+(rest.length+1):=by simp
   have a1:=fun(S:St) (k:K1)=>gD G X S k pre.length (by omega)
   have cnt:∀(F:List bg) (u:Nat),u < 4→Di (PP T1 G X) (.ref (.g d j) 0) v1 (.ck (.g d tt) 0 n 0 1) (.bool alike) (.ref (.l 0) 0) (.ref (.l 1) 0) (In u) (.ck (.g d tt) 0 n 0 1) (In n) (In pre.length) (fr s d F (.cells (jT f) :: O))=vp (PP T1 G X) (.ref (.g d j) 0) v1 (.ck (.g d tt) 0 n 0 1) (.bool alike) (.ref (.l 0) 0) (.ref (.l 1) 0) (.ck (.g d tt) 0 n 0 1) (In n) (In (pre.length+1)) (fr s d F (.cells (jT (iU f u)) :: O)):=fun F u hu=>by
    have af:=fun(S:St) (k:K1)=>gD G X S k (f u) (by have:=hf u;omega)
    rw[Wo _ (aA _ _ _),to G X u 4 hu,lT G X (i:=0) rfl (vH f u hu),af,to G X u 4 hu]
    refine(Aj G X (i:=0) (o:=u) (cs:=jT f) (v:=In (f u+1)) rfl (by simpa using hu) rfl rfl rfl).trans ?_
    rw[Wn _ (aA _ _ _),a1,Jg f u hu]
    rfl
   have hfu:∀u,∀x,iU f u x≤pre.length+1:=fun u x=>by
    unfold iU;have:=hf x;split <;> omega
   have ld:∀k:K1,(PP T1 G X).aq (fr s d F (.cells (jT f) :: O)) k none (.ref (.g d tt) pre.length)=k (In t) (fr s d F (.cells (jT f) :: O)):=fun k=>hZ fi (by rw[ff];exact Im) hg
   rw[FP _ (aA _ _ _),bb,a9 (by omega),be,Wp _ (aA _ _ _),DA G X n 0 pre.length tG,ld]
   cases alike with
   | false=>
    have AN:(pre ++ [t] ++ rest).length=n:=by simp;omega
    obtain⟨F',e1,e2,e3,e4⟩:=ih (pre ++ [t]) F (iU f t) (.inr ⟨tt,by rw[AN],by simpa using Im,by simp;omega⟩) (by simp;omega) Ak (fun u hu=>h4 u (List.mem_cons_of_mem _ hu)) (fun x=>by rw[dp];exact hfu t x)
    refine⟨F',?_,by simpa using e2,e3,e4⟩
    rw[bf]
    refine(cnt F t (h4 t (List.mem_cons_self ..))).trans ?_
    rw[dp] at e1
    refine e1.trans ?_
    simp only[co,if_false,mz]
   | true=>
    have st:=fun k:K1=>lQ (T:=T1) (G:=G) (X:=X) (s:=fr s d F (.cells (jT f) :: O)) (k:=k) (d:=d) (j:=tt) (o:=pre.length) (v:=In 1) fi (by rw[ff];exact Im) cM rfl rfl rfl (.inl rfl)
    rw[ff,agp h] at st
    have dm:((pre ++ t :: rest).map In).set pre.length (In 1)=(pre ++ [1] ++ rest).map In:=by simp
    rw[dm] at st
    have uK:=(bZ.1 Im).1
    have AN:(pre ++ [1] ++ rest).length=n:=by simp;omega
    let F1:=F.set tt (.cells ((pre ++ [1] ++ rest).map In))
    obtain⟨F',e1,e2,e3,e4⟩:=ih (pre ++ [1]) F1 (iU f 1) (.inr ⟨tt,by rw[AN],by simp [F1,uK],by simp;omega⟩) (by simp;omega) Ak (fun u hu=>h4 u (List.mem_cons_of_mem _ hu)) (fun x=>by rw[dp];exact hfu 1 x)
    refine⟨F',?_,by simpa using e2,fun i o hi ha=>e3 i o ?_ ha,by rw[e4];simp [F1]⟩
    ·rw[be,DA G X n 0 pre.length tG]
     refine(st _).trans ?_
     refine(cnt F1 1 (by decide)).trans ?_
     rw[dp] at e1
     refine e1.trans ?_
     simp only[if_true,mz,List.map_cons]
    ·show F1[i]? =_
     rw[eM (fun e=>ha n 0 1 (by rw[e]))];exact hi
end
theorem agq{S:St}{k:K1}(a b:List Nat)(h:a.length+b.length≤1000):(PP T1 G X).ak S k (au .add (.str a) (.str b))=k (.str (a ++ b)) S:=by
 have e:au .add (.str a) (.str b)=some (.str (a ++ b)):=by
  show xa .add a b=_
  simp only[xa]
  rw[if_pos (dy (by omega))]
 rw[e]
 rfl
theorem agr(t:Nat)(ht:t < 4):∀n∈jz t,n.length≤2:=by
 have:t=0∨t=1∨t=2∨t=3:=by omega
 rcases this with rfl | rfl | rfl | rfl <;> decide
def strs(l:List (List Nat)):List AV:=l.map AV.str
abbrev Th:List AV:=[.sl 1 [] .nil, .sl 1 (strs (jz 1)) .exact, .sl 1 (strs (jz 2)) .exact, .sl 1 (strs (jz 3)) .exact]
theorem apm(t:Nat)(h:t < 4):∃g,Th[t]? =some (.sl 1 (strs (jz t)) g):=by
 have:t=0∨t=1∨t=2∨t=3:=by omega
 rcases this with rfl | rfl | rfl | rfl
 ·exact⟨.nil,rfl⟩
 ·exact⟨.exact,rfl⟩
 ·exact⟨.exact,rfl⟩
 ·exact⟨.exact,rfl⟩
structure KM (F F':List bg) (d:Nat) (mv:AV):Prop where
 aK:∀i o,F[i]? =some o→mv≠.map (.g d i)→F'[i]? =some o
 len:F'.length=F.length
theorem KM.refl(F:List bg)(d:Nat)(mv:AV):KM F F d mv:=⟨fun _ _ h _=>h,rfl⟩
theorem KM.trans{F F1 F2:List bg}{d:Nat}{mv:AV}(h:KM F F1 d mv)(k:KM F1 F2 d mv):KM F F2 d mv:=⟨fun i o ho hm=>k.aK i o (h.aK i o ho hm) hm,k.len.trans h.len⟩
section
variable{s:St}{d j:Nat}
theorem Yb(h:fE s d)(v2 v8 v9 v45 v46 v47:AV)(mv:AV)(cs:List AV)(hmv:cs[4]? =some mv)(O:List bg)(hO:O[2]? =some (.cells Th))(t:Nat)(ht:t < 4)(tail:List Nat)(uK:tail.length≤1)(v:List Int)(g:Gr)(hv:v.length≤(jz t).length):∀(rs pre:List Int) (ns uQ:List (List Nat)) (F:List bg) (e:Ev),v=pre ++ rs→jz t=uQ ++ ns→uQ.length=pre.length→j0 F d mv e→F[j]? =some (.cells cs)→
  ∃F',Dj (PP T1 G X) (.ref (.g d j) 0) v2 v8 v9 (.ref (.l 2) 0) (In t) (.str tail) v45 v46 v47 (gp v g) (In v.length) (In pre.length) (fr s d F O)=FM (PP T1 G X) (.ref (.g d j) 0) v2 v8 v9 (.ref (.l 2) 0) v45 v46 v47 (fr s d F' O)∧j0 F' d mv (iZ tail ns rs e)∧KM F F' d mv:=by
 have hnl:(jz t).length < 8:=by
  have:t=0∨t=1∨t=2∨t=3:=by omega
  rcases this with rfl | rfl | rfl | rfl <;> decide
 intro rs
 induction rs with
 | nil=>
  intro pre ns uQ F e lW Mx hnp hm hj
  rw[List.append_nil] at lW
  subst lW
  refine⟨F,?_,?_, .refl _ _ _⟩
  ·rw[FN _ (aA _ _ _),bb,aT (by omega),bf]
  ·cases ns <;> exact hm
 | cons r rs ih=>
  intro pre ns uQ F e lW Mx hnp hm hj
  have tG:pre.length < v.length:=by rw[lW];simp
  cases ns with
  | nil=>rw[List.append_nil] at Mx;have:=congrArg List.length Mx;omega
  | cons nm ns=>
   obtain⟨m,es,rfl,Yc,nM⟩:=hm
   have fi:=LJ h F O
   have ff:=LK h F O
   obtain⟨gg,aFi⟩:=apm t ht
   have g1:(v.map I)[pre.length]? =some (I r):=by rw[lW];simp
   have g2:(strs (jz t))[pre.length]? =some (.str nm):=by rw[Mx,←hnp];simp [strs]
   have i1:=fun(S:St) (k:K1)=>kF G X S k 1 (v.map I) g .i64 pre.length _ g1
   have i2:=fun(S:St) (k:K1)=>kF G X S k 1 (strs (jz t)) gg .i64 pre.length _ g2
   have lI:=fun(S:St) (k:K1)=>show(PP T1 G X).aq S k none (.bO (AV.cells (I r)))=k (I r) S from rfl
   have lS:=fun(S:St) (k:K1)=>show(PP T1 G X).aq S k none (.bO (AV.cells (.str nm)))=k (.str nm) S from rfl
   have a1:=fun(S:St) (k:K1)=>gD G X S k pre.length (by omega)
   have X1:=fun(k:K1)=>hZ (T:=T1) (G:=G) (X:=X) (s:=fr s d F O) (k:=k) (d:=d) (j:=j) (o:=0+4) (c:=.map (.g d m)) fi (by rw[ff];exact hj) hmv
   have ldT:=fun(k:K1)=>lT G X (S:=fr s d F O) (k:=k) (i:=2) (o:=t) (cs:=Th) (c:=.sl 1 (strs (jz t)) gg) hO aFi
   have put:=fun(k:K1)=>S6 (T:=T1) (G:=G) (X:=X) (s:=fr s d F O) (k:=k) (d:=d) (m:=m) (es:=es) fi (by rw[ff];exact Yc) (nm ++ tail) r
   rw[ff] at put
   have vN:=(bZ.1 Yc).1
   have hmj:m≠j:=fun e=>by subst e;rw[Yc] at hj;cases hj
   let F1:=F.set m (.map (uM (Af (nm ++ tail) r es)))
   obtain⟨F',e1,e2,e3⟩:=ih (pre ++ [r]) ns (uQ ++ [nm]) F1 ((nm ++ tail,r) :: e) (by rw[lW];simp) (by rw[Mx];simp) (by simp [hnp]) ⟨m,_,rfl,by simp [F1,vN];rfl,fun x=>by
    rw[Bf]
    show _=(if x=nm ++ tail then some r else lY e x)
    rw[nM]⟩ (by rw[eM hmj];exact hj)
   refine⟨F',?_,e2,KM.trans ⟨fun i o hi cK=>by rw[eM (fun e=>cK (by rw[e]))];exact hi,by simp [F1]⟩ e3⟩
   rw[FN _ (aA _ _ _),bb,a9 (by omega),be,Q8 _ (aA _ _ _),i1,lI,aU,aC,X1,to G X t 4 ht,ldT,i2,lS,agq G X nm tail (by have:=agr t ht nm (by rw[Mx];simp);omega)]
   refine(put _).trans ?_
   rw[agp h,Q7 _ (aA _ _ _),a1,←e1,dp]
   rfl
end
section
variable{s:St}{d j:Nat}
theorem awX(F O:List bg):(PP T1 G X).aI false [] (fr s d F O)= .ok (.cS []) (s.bz d F):=rfl
theorem vT.km{F F':List bg}{tv mv:AV}{ts:List Nat}(h:vT F d tv ts)(k:KM F F' d mv)(hm:∃m es,mv= .map (.g d m)∧F[m]? =some (.map es)):vT F' d tv ts:=by
 rcases h with h | ⟨t,e1,e2,e3⟩
 ·exact .inl h
 ·obtain⟨m,es,rfl,Yc⟩:=hm
  exact .inr ⟨t,e1,k.aK t _ e2 (fun e=>by injection e with e;injection e with e4 e5;subst e5;rw[Yc] at e2;cases e2),e3⟩
theorem j0.is{F:List bg}{mv:AV}{e:Ev}(h:j0 F d mv e):∃m es,mv= .map (.g d m)∧F[m]? =some (.map es):=by
 obtain⟨m,es,h1,h2,_⟩:=h;exact⟨m,_,h1,h2⟩
theorem KM.cells{F F':List bg}{mv:AV}{i:Nat}{cs:List AV}(k:KM F F' d mv)(hm:∃m es,mv= .map (.g d m)∧F[m]? =some (.map es))(h:F[i]? =some (.cells cs)):F'[i]? =some (.cells cs):=by
 obtain⟨m,es,rfl,Yc⟩:=hm
 exact k.aK i _ h (fun e=>by injection e with e;injection e with e4 e5;subst e5;rw[Yc] at h;cases h)
theorem Yd(h:fE s d)(mv tv:AV)(cs:List AV)(hmv:cs[4]? =some mv)(many:Nat→Nat)(rows:List (List Int×Gr))(g:Gr)(ts:List Nat)(ht4:∀t∈ts,t < 4)(hts:ts.length < 9):∀(rest pre:List (List Int×Gr)) (jB mA:List Nat) (F:List bg) (e:Ev) (seen:Nat→Nat),rows=pre ++ rest→ts=mA ++ jB→mA.length=pre.length→rest.length≤jB.length→(∀p∈rest.zip jB,p.1.1.length≤(jz p.2).length)→vT F d tv ts→j0 F d mv e→F[j]? =some (.cells cs)→(∀t,seen t≤pre.length)→
  ∃F',vo (PP T1 G X) (.ref (.g d j) 0) tv (.ref (.l 0) 0) (.ref (.l 1) 0) (.ref (.l 2) 0) (.sl 1 (rows.map bN) g) (In rows.length) (In pre.length) (fr s d F [.cells (jT many), .cells (jT seen), .cells Th])= .ok (.cS []) (s.bz d F')∧j0 F' d mv (tn many seen jB (rest.map Prod.fst) e)∧KM F F' d mv:=by
 intro rest
 induction rest with
 | nil=>
  intro pre jB mA F e seen hr ht hl jM hz Ye hm hj hs
  rw[List.append_nil] at hr
  subst hr
  refine⟨F,?_,?_, .refl _ _ _⟩
  ·rw[FO _ (aA _ _ _),bb,aT (by omega),bf];exact awX G X F _
  ·cases jB <;> exact hm
 | cons v rest ih=>
  intro pre jB mA F e seen hr ht hl jM hz Ye hm hj hs
  cases jB with
  | nil=>simp at jM
  | cons t jB=>
   have tG:pre.length < rows.length:=by rw[hr];simp
   have axS:mA.length < ts.length:=by rw[ht];simp
   have h4:t < 4:=ht4 t (by rw[ht];simp)
   obtain⟨v,gv⟩:=v
   have Ti:v.length≤(jz t).length:=hz ((v,gv),t) (by simp)
   rcases Ye with⟨_,e0⟩ | ⟨tt,rfl,Im,_⟩
   ·rw[e0] at axS;simp at axS
   ·have O:List bg:=[.cells (jT many), .cells (jT seen), .cells Th]
    have g1:(rows.map bN)[pre.length]? =some (gp v gv):=by rw[hr];simp
    have g2:(ts.map In)[pre.length]? =some (In t):=by rw[ht,←hl];simp
    have i1:=fun(S:St) (k:K1)=>kF G X S k 1 (rows.map bN) g .i64 pre.length _ g1
    have lV:=fun(S:St) (k:K1)=>show(PP T1 G X).aq S k none (.bO (AV.cells (gp v gv)))=k (gp v gv) S from rfl
    have a1:=fun(S:St) (k:K1)=>gD G X S k pre.length (by omega)
    have as:=fun(S:St) (k:K1)=>gD G X S k (seen t) (by have:=hs t;omega)
    have ldt:=fun(O:List bg) (k:K1)=>hZ (T:=T1) (G:=G) (X:=X) (s:=fr s d F O) (k:=k) (d:=d) (j:=tt) (o:=pre.length) (c:=In t) (LJ h F O) (by rw[LK h];exact Im) g2
    let O':List bg:=[.cells (jT many), .cells (jT (iU seen t)), .cells Th]
    have aCn:iU seen t t=seen t+1:=by simp [iU]
    have awY:∀tail:List Nat,tail.length≤1→tail=(if 1 < many t then[48+iU seen t t] else[])→
      ∃F',zl (PP T1 G X) (.ref (.g d j) 0) (.ck (.g d tt) 0 ts.length 0 1) (.ref (.l 0) 0) (.ref (.l 1) 0) (.ref (.l 2) 0) (gp v gv) (In t) (.str tail) (.sl 1 (rows.map bN) g) (In rows.length) (In pre.length) (fr s d F O')= .ok (.cS []) (s.bz d F')∧j0 F' d mv (tn many seen (t :: jB) (((v,gv) :: rest).map Prod.fst) e)∧KM F F' d mv:=fun tail uK aCo=>by
     obtain⟨F1,e1,m1,k1⟩:=Yb G X h (.ck (.g d tt) 0 ts.length 0 1) (.ref (.l 0) 0) (.ref (.l 1) 0) (.sl 1 (rows.map bN) g) (In rows.length) (In pre.length) mv cs hmv O' rfl t h4 tail uK v gv Ti v [] (jz t) [] F e rfl rfl rfl hm hj
     have aFj:vT F1 d (.ck (.g d tt) 0 ts.length 0 1) ts:=vT.km (.inr ⟨tt,rfl,Im,by omega⟩) k1 (j0.is hm)
     obtain⟨F2,e2,m2,k2⟩:=ih (pre ++ [(v,gv)]) jB (mA ++ [t]) F1 _ (iU seen t) (by rw[hr];simp) (by rw[ht];simp) (by simp [hl]) (by simpa using jM) (fun p hp=>hz p (by simp [hp])) aFj m1 (KM.cells k1 (j0.is hm) hj) (fun x=>by
      rw[dp]
      unfold iU;have:=hs x;split <;> simp <;> omega)
     refine⟨F2,?_,?_,k1.trans k2⟩
     ·rw[Wq _ (aA _ _ _),bt,cw]
      refine e1.trans ?_
      rw[Q9 _ (aA _ _ _),a1,←e2,dp]
      rfl
     ·rw[aCo] at m2
      exact m2
    have key:vo (PP T1 G X) (.ref (.g d j) 0) (.ck (.g d tt) 0 ts.length 0 1) (.ref (.l 0) 0) (.ref (.l 1) 0) (.ref (.l 2) 0) (.sl 1 (rows.map bN) g) (In rows.length) (In pre.length) (fr s d F [.cells (jT many), .cells (jT seen), .cells Th])=zl (PP T1 G X) (.ref (.g d j) 0) (.ck (.g d tt) 0 ts.length 0 1) (.ref (.l 0) 0) (.ref (.l 1) 0) (.ref (.l 2) 0) (gp v gv) (In t) (.str (if 1 < many t then[48+iU seen t t] else[])) (.sl 1 (rows.map bN) g) (In rows.length) (In pre.length) (fr s d F O'):=by
     rw[FO _ (aA _ _ _),bb,a9 (by omega),be,Wr _ (aA _ _ _),i1,lV,DA G X ts.length 0 pre.length (by omega),ldt,to G X t 4 h4,lT G X (i:=1) rfl (vH seen t h4),as,to G X t 4 h4]
     refine(Aj G X (i:=1) (o:=t) (cs:=jT seen) (v:=In (seen t+1)) rfl (by simpa using h4) rfl rfl rfl).trans ?_
     rw[Jg seen t h4]
     show(PP T1 G X).jQ (fr s d F O') _ 1 4 (.ref (.l 0) 0) (In t)=_
     rw[to G X t 4 h4,lT G X (i:=0) rfl (vH many t h4),dV]
     by_cases hm1:1 < many t
     ·rw[a9 (by omega),be,if_pos hm1,to G X t 4 h4,lT G X (i:=1) rfl (vH (iU seen t) t h4)]
      exact aN (awU G X _ _ (by rw[aCn];have:=hs t;omega))
     ·rw[aT (by omega),bf,if_neg hm1]
    rw[key]
    exact awY _ (by split <;> simp) rfl
end
section
variable{s:St}{d j:Nat}{A:cm}{mv:AV}{gi gv gr:Gr}
def d7(alike:Bool)(ts:List Nat):List Nat:=if alike=true then ts.map (fun _=>1) else ts
theorem Yf(v1 tv:AV)(F:List bg)(c1 c2:bg)(rows:List (List Int×Gr))(g:Gr)(hv:v1= .sl 1 (rows.map bN) g):Dk (PP T1 G X) (.ref (.g d j) 0) v1 tv (.ref (.l 0) 0) (.ref (.l 1) 0) (fr s d F [c1,c2])=vo (PP T1 G X) (.ref (.g d j) 0) tv (.ref (.l 0) 0) (.ref (.l 1) 0) (.ref (.l 2) 0) v1 (In rows.length) (.int .i64 0) (fr s d F [c1,c2, .cells Th]):=by
 rw[Ws _ (aA _ _ _),hv]
 have e:(In rows.length)=(.int .i64 ((rows.map bN).length:Int)):=by rw[cw]
 rw[e]
 rfl
theorem vT.len{F:List bg}{tv:AV}{ts:List Nat}(h:vT F d tv ts)(S:St)(k:K1):(PP T1 G X).aV S k false tv=k (In ts.length) S:=by
 rcases h with⟨rfl,rfl⟩ | ⟨t,rfl,_,_⟩ <;> rfl
theorem awZ(h:fE s d)(hA:lD (s.cC d) d j A mv gi gv gr){tv:AV}{ts:List Nat}(Ye:vT (s.cC d) d tv ts)(hap:apT d j tv)(rows:List (List Int×Gr))(g:Gr)(alike:Bool)(hts:ts.length < 9)(h4:∀t∈ts,t < 4)(hl:rows.length≤ts.length)(hz:∀p∈rows.zip (d7 alike ts),p.1.1.length≤(jz p.2).length):
  ∃F' tK,aJ T1 G X 44 [.ref (.g d j) 0, .sl 1 (rows.map bN) g,tv, .bool alike] s= .ok (.cS []) (s.bz d F')∧AS d j tK gv gr (s.bz d F') {A with env:=G9 (d7 alike ts) (rows.map Prod.fst)} gi∧
   (∀i o,(s.cC d)[i]? =some o→i≠j→apT d i tv→F'[i]? =some o)∧(s.cC d).length≤F'.length∧vT F' d tv (d7 alike ts)∧(∀i,i < (s.cC d).length→tK≠.map (.g d i)):=by
 have he:=h.ai
 have cK:d≠s.ai.aa:=by have:=h.hi;have:=gF s;omega
 have hf:=fI h
 let n:=(s.cC d).length
 let tK:AV:=.map (.g d n)
 let F1:List bg:=s.cC d ++ [.map []]
 have hjn:j < n:=(bZ.1 hA.c).1
 have Ue:F1[j]? =some (.cells (A.cells mv gi gv gr)):=by
  exact(eZ hjn).trans hA.c
 have apq:∀(i:Nat) (o:bg),(s.cC d)[i]? =some o→F1[i]? =some o:=fun i o ho=>by
  exact(eZ (bZ.1 ho).1).trans ho
 let F2:=F1.set j (.cells (A.cells tK gi gv gr))
 have mk:=fun k:K1=>XY (T:=T1) (G:=G) (X:=X) (k:=k) (i:=j) he cK
 rw[hf] at mk
 have he1:fE (s.ai.bz d F1) d:=he.put d F1
 have my:(s.ai.bz d F1).cC d=F1:=cj he F1
 have st:=fun k:K1=>lQ (T:=T1) (G:=G) (X:=X) (k:=k) he1 (by rw[my];exact Ue) (o:=0+4) (v:=tK) (by simp [cm.cells]) rfl rfl rfl (.inr (dy (Nat.le_refl d)))
 rw[my,gT] at st
 have axT:∀(i:Nat) (o:bg),(s.cC d)[i]? =some o→i≠j→F2[i]? =some o:=fun i o ho kE=>by
  rw[eM (Ne.symm kE)];exact apq i o ho
 have oT:j < F1.length:=(bZ.1 Ue).1
 have Uk:F2[j]? =some (.cells (A.cells tK gi gv gr)):=by simp [F2,oT]
 have aFm:vT F2 d tv ts:=by
  rcases Ye with h1 | ⟨t,rfl,h2,h3⟩
  ·exact .inl h1
  ·exact .inr ⟨t,rfl,axT t _ h2 (fun e=>hap _ _ _ (by rw[e])),h3⟩
 have hm2:F2[n]? =some (.map []):=by
  rw[eM (by omega)];simp [F1,n]
 obtain⟨F3,e3,t3,k3,l3⟩:=Ya G X (j:=j) h (.sl 1 (rows.map bN) g) alike tv ts.length [.cells (jT fun _=>0)] ts [] F2 (fun _=>0) aFm rfl (by omega) h4 (fun _=>Nat.zero_le _)
 have aFn:apT d n tv:=fun a b c e=>by
  rcases Ye with⟨h1,_⟩ | ⟨t,h1,h2,_⟩
  ·rw[h1] at e;cases e
  ·rw[h1] at e;injection e with e;injection e with e4 e5
   have:=(bZ.1 h2).1
   omega
 have hc3:=k3 j _ Uk hap
 have hm3:=k3 n _ hm2 aFn
 have t3':vT F3 d tv (d7 alike ts):=t3
 have hla:(d7 alike ts).length=ts.length:=by unfold d7;split <;> simp
 have h4a:∀t∈d7 alike ts,t < 4:=fun t ht=>by
  unfold d7 at ht
  split at ht
  ·simp at ht;obtain⟨_,_,rfl⟩:=ht;decide
  ·exact h4 t ht
 obtain⟨F4,e4,m4,k4⟩:=Yd G X (j:=j) h tK tv (A.cells tK gi gv gr) rfl (mz (d7 alike ts) fun _=>0) rows g (d7 alike ts) h4a (by omega) rows [] (d7 alike ts) [] F3 [] (fun _=>0) rfl rfl rfl (by omega) hz t3' ⟨n,[],rfl,hm3,fun _=>rfl⟩ hc3 (fun _=>Nat.zero_le _)
 have hmi:∃m es,tK= .map (.g d m)∧F3[m]? =some (.map es):=⟨n,[],rfl,hm3⟩
 have axU:∀(i:Nat) (o:bg),(s.cC d)[i]? =some o→i≠j→apT d i tv→F4[i]? =some o:=fun i o ho kE ha=>k4.aK i o (k3 i o (axT i o ho kE) ha) (fun e=>by
  injection e with e;injection e with e5 e6
  have:=(bZ.1 ho).1
  omega)
 have gk:∀g m,cH (s.cC d) d g m→cH F4 d g m:=fun g m hg=>cH.aK hg (fun t e=>by
  have ht:=(cH.le (e ▸ hg)).1
  rw[ht]
  refine axU t _ ht (fun e2=>by subst e2;rw[hA.c] at ht;cases ht) (fun a b c e2=>?_)
  rcases Ye with⟨h1,_⟩ | ⟨t',h1,h2,_⟩
  ·rw[h1] at e2;cases e2
  ·rw[h1] at e2;injection e2 with e2;injection e2 with e5 e6;subst e6;rw[h2] at ht;cases ht)
 have Mw:=cj h F4
 refine⟨F4,tK,?_,⟨h.put _ _,?_,?_⟩,axU,?_,t3'.km k4 hmi,fun i hi e=>by injection e with e;injection e with e5 e6;omega⟩
 ·rw[ahj,avI]
  refine(mk _).trans ?_
  rw[aU,aC]
  refine(st _).trans ?_
  rw[jR,jR,vT.len G X Ye]
  have eS:((s.ai.bz d F2).new (.cells [.int .i64 0, .int .i64 0, .int .i64 0, .int .i64 0])).new (.cells [.int .i64 0, .int .i64 0, .int .i64 0, .int .i64 0])=fr s d F2 [.cells (jT fun _=>0), .cells (jT fun _=>0)]:=by
   rw[←jx h];rfl
  have eo:(s.ai.bz d F2).own.length=0:=by rw[ahO cK];rfl
  have eo1:((s.ai.bz d F2).new (.cells [.int .i64 0, .int .i64 0, .int .i64 0, .int .i64 0])).own.length=1:=by
   simp only[St.new,dp,eo];rfl
  show vp _ _ _ _ _ (.ref (.l (s.ai.bz d F2).own.length) 0) (.ref (.l ((s.ai.bz d F2).new (.cells [.int .i64 0, .int .i64 0, .int .i64 0, .int .i64 0])).own.length) 0) _ _ _ (((s.ai.bz d F2).new (.cells [.int .i64 0, .int .i64 0, .int .i64 0, .int .i64 0])).new (.cells [.int .i64 0, .int .i64 0, .int .i64 0, .int .i64 0]))=_
  rw[eo,eo1,eS]
  refine e3.trans ?_
  rw[Yf G X _ tv F3 _ _ rows g rfl]
  exact e4
 ·rw[Mw]
  exact⟨k4.cells hmi hc3,gk _ _ hA.wi,gk _ _ hA.wv,gk _ _ hA.wr,hA.iv,hA.ir,hA.vr⟩
 ·rw[Mw];exact m4
 ·rw[k4.len,l3]
  show _≤F2.length
  simp [F2,F1]
end
end Go.jY
end
section
namespace Go.jY
open Go.Ab Go.iY
def eC:Nat→Bool→List (List Nat×List Nat)
 | 2,true=>[([116],[105,110]),([109],[49,32,43,32,116,94,50]),([107],[49,32,45,32,116,94,50]),([100,120],[50,32,117,32,97,120,32,43,32,112,32,97,122]),([100,121],[50,32,117,32,97,121,32,43,32,113,32,97,122])]
 | 1,_=>[([120,120],[105,110]),([121,121],[105,110])]
 | 2,_=>[([116],[105,110]),([110],[97,94,50,32,43,32,98,94,50])]
 | 5,_=>[([119],[122,50,32,122,51]),([101,120],[120,51,32,122,50,32,45,32,120,50,32,122,51]),([101,121],[121,51,32,122,50,32,45,32,121,50,32,122,51]),([100],[101,120,94,50,32,43,32,101,121,94,50]),([118],[119,94,50]),([103],[122,49,94,50])]
 | 6,_=>[([119],[122,50,32,122,51]),([101,120],[120,51,32,122,50,32,45,32,120,50,32,122,51]),([101,121],[121,51,32,122,50,32,45,32,121,50,32,122,51]),([100],[101,120,94,50,32,43,32,101,121,94,50]),([118],[119,94,50]),([103],[122,49,94,50])]
 | 7,_=>[([115,49],[120,49,94,50,32,43,32,121,49,94,50]),([102,49],[120,49,32,122,49]),([103,49],[121,49,32,122,49]),([104,49],[122,49,94,50]),([115,50],[120,50,94,50,32,43,32,121,50,94,50]),([102,50],[120,50,32,122,50]),([103,50],[121,50,32,122,50]),([104,50],[122,50,94,50]),([115,51],[120,51,94,50,32,43,32,121,51,94,50]),([102,51],[120,51,32,122,51]),([103,51],[121,51,32,122,51]),([104,51],[122,51,94,50])]
 | 8,_=>[([110],[97,94,50,32,43,32,98,94,50]),([107],[50,32,117,32,99,32,45,32,97,32,112,32,45,32,98,32,113]),([100],[112,94,50,32,43,32,113,94,50,32,45,32,52,32,117,32,114]),([115],[33,110,32,100,32,45,32,107,94,50])]
 | 9,_=>[([97],[117,50,32,112,49,32,45,32,117,49,32,112,50]),([98],[117,50,32,113,49,32,45,32,117,49,32,113,50]),([99],[117,50,32,114,49,32,45,32,117,49,32,114,50]),([117],[117,49]),([112],[112,49]),([113],[113,49]),([114],[114,49]),([110],[97,94,50,32,43,32,98,94,50]),([107],[50,32,117,32,99,32,45,32,97,32,112,32,45,32,98,32,113]),([100],[112,94,50,32,43,32,113,94,50,32,45,32,52,32,117,32,114]),([115],[33,110,32,100,32,45,32,107,94,50])]
 | 10,_=>[([111],[48])]
 | 11,_=>[([111],[48]),([101],[111,32,45,32,98])]
 | 13,_=>[([110],[97,94,50,32,43,32,98,94,50]),([107],[97,32,120,32,43,32,98,32,121,32,43,32,99,32,122])]
 | 14,_=>[([118,120],[120,49,32,122,50,32,45,32,120,50,32,122,49]),([118,121],[121,49,32,122,50,32,45,32,121,50,32,122,49]),([119,120],[120,51,32,122,50,32,45,32,120,50,32,122,51]),([119,121],[121,51,32,122,50,32,45,32,121,50,32,122,51]),([118],[118,120,94,50,32,43,32,118,121,94,50]),([119],[119,120,94,50,32,43,32,119,121,94,50]),([115],[33,118,32,119]),([100,120],[119,32,118,120,32,43,32,115,32,119,120]),([100,121],[119,32,118,121,32,43,32,115,32,119,121])]
 | 15,_=>[([97],[50,32,117,32,120,32,43,32,112,32,122]),([98],[50,32,117,32,121,32,43,32,113,32,122]),([99],[112,32,120,32,43,32,113,32,121,32,43,32,50,32,114,32,122]),([110],[97,94,50,32,43,32,98,94,50]),([107],[50,32,117,32,99,32,45,32,97,32,112,32,45,32,98,32,113]),([100],[112,94,50,32,43,32,113,94,50,32,45,32,52,32,117,32,114]),([115],[33,110,32,100,32,45,32,107,94,50]),([116,120],[45,110,32,112,32,45,32,107,32,97,32,45,32,115,32,98]),([116,121],[45,110,32,113,32,45,32,107,32,98,32,43,32,115,32,97]),([116,122],[50,32,110,32,117])]
 | _,_=>[]
def fY:Nat→Bool→List (List Nat)
 | 2,true=>[[45,112,32,97,122,32,109,32,43,32,107,32,100,120,32,45,32,50,32,116,32,100,121],[45,113,32,97,122,32,109,32,43,32,50,32,116,32,100,120,32,43,32,107,32,100,121],[50,32,117,32,97,122,32,109]]
 | 1,_=>[[120,120],[121,121],[49]]
 | 2,_=>[[45,97,32,99,32,45,32,116,32,98,32,110],[45,98,32,99,32,43,32,116,32,97,32,110],[110]]
 | 3,_=>[[121,49,32,122,50,32,45,32,122,49,32,121,50],[122,49,32,120,50,32,45,32,120,49,32,122,50],[120,49,32,121,50,32,45,32,121,49,32,120,50]]
 | 4,_=>[[121,49,32,122,50,32,45,32,122,49,32,121,50],[122,49,32,120,50,32,45,32,120,49,32,122,50],[120,49,32,121,50,32,45,32,121,49,32,120,50]]
 | 5,_=>[[103,32,118],[45,50,32,120,49,32,122,49,32,118],[45,50,32,121,49,32,122,49,32,118],[40,120,49,94,50,32,43,32,121,49,94,50,41,32,118,32,45,32,103,32,100],[120,49,32,119,32,43,32,122,49,32,101,120],[121,49,32,119,32,43,32,122,49,32,101,121],[122,49,32,119]]
 | 6,_=>[[103,32,118],[45,50,32,120,49,32,122,49,32,118],[45,50,32,121,49,32,122,49,32,118],[40,120,49,94,50,32,43,32,121,49,94,50,41,32,118,32,45,32,103,32,100],[120,49,32,119,32,43,32,122,49,32,101,120],[121,49,32,119,32,43,32,122,49,32,101,121],[122,49,32,119]]
 | 7,_=>[[102,49,32,40,103,50,32,104,51,32,45,32,104,50,32,103,51,41,32,45,32,103,49,32,40,102,50,32,104,51,32,45,32,104,50,32,102,51,41,32,43,32,104,49,32,40,102,50,32,103,51,32,45,32,103,50,32,102,51,41],[45,40,115,49,32,40,103,50,32,104,51,32,45,32,104,50,32,103,51,41,32,45,32,103,49,32,40,115,50,32,104,51,32,45,32,104,50,32,115,51,41,32,43,32,104,49,32,40,115,50,32,103,51,32,45,32,103,50,32,115,51,41,41],[115,49,32,40,102,50,32,104,51,32,45,32,104,50,32,102,51,41,32,45,32,102,49,32,40,115,50,32,104,51,32,45,32,104,50,32,115,51,41,32,43,32,104,49,32,40,115,50,32,102,51,32,45,32,102,50,32,115,51,41],[45,40,115,49,32,40,102,50,32,103,51,32,45,32,103,50,32,102,51,41,32,45,32,102,49,32,40,115,50,32,103,51,32,45,32,103,50,32,115,51,41,32,43,32,103,49,32,40,115,50,32,102,51,32,45,32,102,50,32,115,51,41,41],[120,49],[121,49],[122,49]]
 | 8,_=>[[45,110,32,112,32,45,32,107,32,97,32,45,32,115,32,98],[45,110,32,113,32,45,32,107,32,98,32,43,32,115,32,97],[50,32,110,32,117]]
 | 9,_=>[[45,110,32,112,32,45,32,107,32,97,32,45,32,115,32,98],[45,110,32,113,32,45,32,107,32,98,32,43,32,115,32,97],[50,32,110,32,117]]
 | 10,_=>[[121,32,111,32,45,32,122,32,98],[122,32,97,32,45,32,120,32,111],[120,32,98,32,45,32,121,32,97]]
 | 11,_=>[[121,32,111,32,45,32,122,32,97],[122,32,101,32,45,32,120,32,111],[120,32,97,32,45,32,121,32,101]]
 | 12,_=>[[120,49,32,122,50,32,43,32,120,50,32,122,49],[121,49,32,122,50,32,43,32,121,50,32,122,49],[50,32,122,49,32,122,50]]
 | 13,_=>[[110,32,120,32,45,32,50,32,97,32,107],[110,32,121,32,45,32,50,32,98,32,107],[110,32,122]]
 | 14,_=>[[45,122,50,32,100,121],[122,50,32,100,120],[120,50,32,100,121,32,45,32,121,50,32,100,120]]
 | 15,_=>[[50,32,117,32,116,120,32,43,32,112,32,116,122],[50,32,117,32,116,121,32,43,32,113,32,116,122],[112,32,116,120,32,43,32,113,32,116,121,32,43,32,50,32,114,32,116,122]]
 | _,_=>[[45,112],[45,113],[50,32,117]]
def okF(r:ax)(D:List (List Nat×List Nat))(C:List (List Nat)):Bool:=
 match r with
 | .ok (.agg [.sl 1 a g1, .sl 1 b g2]) _=>AV.oS a (ee D) && AV.oS b (strs C) && (AV.agg [.sl 1 a g1, .sl 1 b g2]).bo
 | _=>false
theorem aw0{r:ax}{D:List (List Nat×List Nat)}{C:List (List Nat)}(h:okF r D C=true):∃g1 g2 s',r= .ok (.agg [.sl 1 (ee D) g1, .sl 1 (strs C) g2]) s'∧(AV.agg [.sl 1 (ee D) g1, .sl 1 (strs C) g2]).bo=true:=by
 unfold okF at h
 split at h
 ·rename_i a g1 b g2 s'
  simp only[bD] at h
  obtain⟨⟨h1,h2⟩,h3⟩:=h
  have e1:=(AV.lH _ _).1 h1
  have e2:=(AV.lH _ _).1 h2
  subst e1;subst e2
  exact⟨g1,g2,s',rfl,h3⟩
 ·cases h
variable(G:Nat→AV)(X:Nat→List AV→St→ax)
theorem apr(op:Nat)(c:Bool)(h:okF (call .not T1 G X 60 46 [In op, .bool c] {own:=[],up:=[],ro:=[]}) (eC op c) (fY op c)=true):∃g1 g2 s',aJ T1 G X 46 [In op, .bool c] {own:=[],up:=[],ro:=[]}= .ok (.agg [.sl 1 (ee (eC op c)) g1, .sl 1 (strs (fY op c)) g2]) s'∧(AV.agg [.sl 1 (ee (eC op c)) g1, .sl 1 (strs (fY op c)) g2]).bo=true:=by
 obtain⟨g1,g2,s',h1,h2⟩:=aw0 h
 exact⟨g1,g2,s',u7 _ _ _ (by intro e;cases e) h1,h2⟩
theorem LL:okF (call .not T1 G X 60 46 [In 1, .bool false] {own:=[],up:=[],ro:=[]}) (eC 1 false) (fY 1 false)=true:=by kernel_rfl
theorem Tj:okF (call .not T1 G X 60 46 [In 1, .bool true] {own:=[],up:=[],ro:=[]}) (eC 1 true) (fY 1 true)=true:=by kernel_rfl
theorem LM:okF (call .not T1 G X 60 46 [In 2, .bool false] {own:=[],up:=[],ro:=[]}) (eC 2 false) (fY 2 false)=true:=by kernel_rfl
theorem Tk:okF (call .not T1 G X 60 46 [In 2, .bool true] {own:=[],up:=[],ro:=[]}) (eC 2 true) (fY 2 true)=true:=by kernel_rfl
theorem LN:okF (call .not T1 G X 60 46 [In 3, .bool false] {own:=[],up:=[],ro:=[]}) (eC 3 false) (fY 3 false)=true:=by kernel_rfl
theorem Tl:okF (call .not T1 G X 60 46 [In 3, .bool true] {own:=[],up:=[],ro:=[]}) (eC 3 true) (fY 3 true)=true:=by kernel_rfl
theorem LO:okF (call .not T1 G X 60 46 [In 4, .bool false] {own:=[],up:=[],ro:=[]}) (eC 4 false) (fY 4 false)=true:=by kernel_rfl
theorem Tm:okF (call .not T1 G X 60 46 [In 4, .bool true] {own:=[],up:=[],ro:=[]}) (eC 4 true) (fY 4 true)=true:=by kernel_rfl
theorem LR:okF (call .not T1 G X 60 46 [In 5, .bool false] {own:=[],up:=[],ro:=[]}) (eC 5 false) (fY 5 false)=true:=by kernel_rfl
theorem Tn:okF (call .not T1 G X 60 46 [In 5, .bool true] {own:=[],up:=[],ro:=[]}) (eC 5 true) (fY 5 true)=true:=by kernel_rfl
theorem LU:okF (call .not T1 G X 60 46 [In 6, .bool false] {own:=[],up:=[],ro:=[]}) (eC 6 false) (fY 6 false)=true:=by kernel_rfl
theorem To:okF (call .not T1 G X 60 46 [In 6, .bool true] {own:=[],up:=[],ro:=[]}) (eC 6 true) (fY 6 true)=true:=by kernel_rfl
theorem LV:okF (call .not T1 G X 60 46 [In 7, .bool false] {own:=[],up:=[],ro:=[]}) (eC 7 false) (fY 7 false)=true:=by kernel_rfl
theorem Tp:okF (call .not T1 G X 60 46 [In 7, .bool true] {own:=[],up:=[],ro:=[]}) (eC 7 true) (fY 7 true)=true:=by kernel_rfl
theorem LW:okF (call .not T1 G X 60 46 [In 8, .bool false] {own:=[],up:=[],ro:=[]}) (eC 8 false) (fY 8 false)=true:=by kernel_rfl
theorem Tq:okF (call .not T1 G X 60 46 [In 8, .bool true] {own:=[],up:=[],ro:=[]}) (eC 8 true) (fY 8 true)=true:=by kernel_rfl
theorem LX:okF (call .not T1 G X 60 46 [In 9, .bool false] {own:=[],up:=[],ro:=[]}) (eC 9 false) (fY 9 false)=true:=by kernel_rfl
theorem Ts:okF (call .not T1 G X 60 46 [In 9, .bool true] {own:=[],up:=[],ro:=[]}) (eC 9 true) (fY 9 true)=true:=by kernel_rfl
theorem Io:okF (call .not T1 G X 60 46 [In 10, .bool false] {own:=[],up:=[],ro:=[]}) (eC 10 false) (fY 10 false)=true:=by kernel_rfl
theorem LY:okF (call .not T1 G X 60 46 [In 10, .bool true] {own:=[],up:=[],ro:=[]}) (eC 10 true) (fY 10 true)=true:=by kernel_rfl
theorem Ip:okF (call .not T1 G X 60 46 [In 11, .bool false] {own:=[],up:=[],ro:=[]}) (eC 11 false) (fY 11 false)=true:=by kernel_rfl
theorem LZ:okF (call .not T1 G X 60 46 [In 11, .bool true] {own:=[],up:=[],ro:=[]}) (eC 11 true) (fY 11 true)=true:=by kernel_rfl
theorem Iq:okF (call .not T1 G X 60 46 [In 12, .bool false] {own:=[],up:=[],ro:=[]}) (eC 12 false) (fY 12 false)=true:=by kernel_rfl
theorem L0:okF (call .not T1 G X 60 46 [In 12, .bool true] {own:=[],up:=[],ro:=[]}) (eC 12 true) (fY 12 true)=true:=by kernel_rfl
theorem Ir:okF (call .not T1 G X 60 46 [In 13, .bool false] {own:=[],up:=[],ro:=[]}) (eC 13 false) (fY 13 false)=true:=by kernel_rfl
theorem L2:okF (call .not T1 G X 60 46 [In 13, .bool true] {own:=[],up:=[],ro:=[]}) (eC 13 true) (fY 13 true)=true:=by kernel_rfl
theorem Is:okF (call .not T1 G X 60 46 [In 14, .bool false] {own:=[],up:=[],ro:=[]}) (eC 14 false) (fY 14 false)=true:=by kernel_rfl
theorem L3:okF (call .not T1 G X 60 46 [In 14, .bool true] {own:=[],up:=[],ro:=[]}) (eC 14 true) (fY 14 true)=true:=by kernel_rfl
theorem It:okF (call .not T1 G X 60 46 [In 15, .bool false] {own:=[],up:=[],ro:=[]}) (eC 15 false) (fY 15 false)=true:=by kernel_rfl
theorem L4:okF (call .not T1 G X 60 46 [In 15, .bool true] {own:=[],up:=[],ro:=[]}) (eC 15 true) (fY 15 true)=true:=by kernel_rfl
theorem Iu:okF (call .not T1 G X 60 46 [In 16, .bool false] {own:=[],up:=[],ro:=[]}) (eC 16 false) (fY 16 false)=true:=by kernel_rfl
theorem L5:okF (call .not T1 G X 60 46 [In 16, .bool true] {own:=[],up:=[],ro:=[]}) (eC 16 true) (fY 16 true)=true:=by kernel_rfl
theorem aw1(op:Nat)(c:Bool)(h1:1≤op)(h2:op≤16):∃g1 g2 s',aJ T1 G X 46 [In op, .bool c] {own:=[],up:=[],ro:=[]}= .ok (.agg [.sl 1 (ee (eC op c)) g1, .sl 1 (strs (fY op c)) g2]) s'∧(AV.agg [.sl 1 (ee (eC op c)) g1, .sl 1 (strs (fY op c)) g2]).bo=true:=by
 have h:op=1∨op=2∨op=3∨op=4∨op=5∨op=6∨op=7∨op=8∨op=9∨op=10∨op=11∨op=12∨op=13∨op=14∨op=15∨op=16:=by omega
 refine apr G X op c ?_
 rcases h with rfl | rfl | rfl | rfl | rfl | rfl | rfl | rfl | rfl | rfl | rfl | rfl | rfl | rfl | rfl | rfl <;> cases c
 ·exact LL G X
 ·exact Tj G X
 ·exact LM G X
 ·exact Tk G X
 ·exact LN G X
 ·exact Tl G X
 ·exact LO G X
 ·exact Tm G X
 ·exact LR G X
 ·exact Tn G X
 ·exact LU G X
 ·exact To G X
 ·exact LV G X
 ·exact Tp G X
 ·exact LW G X
 ·exact Tq G X
 ·exact LX G X
 ·exact Ts G X
 ·exact Io G X
 ·exact LY G X
 ·exact Ip G X
 ·exact LZ G X
 ·exact Iq G X
 ·exact L0 G X
 ·exact Ir G X
 ·exact L2 G X
 ·exact Is G X
 ·exact L3 G X
 ·exact It G X
 ·exact L4 G X
 ·exact Iu G X
 ·exact L5 G X
end Go.jY
end
