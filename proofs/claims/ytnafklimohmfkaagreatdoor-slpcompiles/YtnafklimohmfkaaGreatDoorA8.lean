/- What the claim's texts say of a part of the evaluator and of the program's functions: for every argument that they name. -/
import Derived.Test.YtnafklimohmfkaaGreatDoorA7
import Derived.Test.YtnafklimohmfkaaGreatDoorA4
set_option linter.unusedSectionVars false
set_option linter.unusedSimpArgs false
set_option linter.unusedVariables false
namespace Go.jY
open Go.Ab Go.iY
variable(G:Nat→AV)(X:Nat→List AV→St→ax)
theorem ah3(a b:List Int)(ga gb:Gr)(s:St)(hl:a.length=b.length)(hb:a.length≤9223372036854775807):∀(n i:Nat),i+n=a.length→∀S,Child s S→
  Dy (PP T1 G X) (.sl 1 (a.map I) ga) (.sl 1 (b.map I) gb) (.int .i64 (i:Int)) S= .ok (.bool (decide (a.drop i=b.drop i))) s:=by
 intro n
 induction n with
 | zero=>
  intro i hi S hS
  rw[Gx _ (aA _ _ _)]
  have h:¬((i:Int) < (a.length:Int)):=by omega
  simp only[↓cc,↓bt,↓bb,↓reduceIte,cw,h,decide_false,co,Xv _ (aA _ _ _),eH hS]
  rw[List.drop_of_length_le (by omega),List.drop_of_length_le (by omega)]
  simp
 | succ n ih=>
  intro i hi S hS
  rw[Gx _ (aA _ _ _)]
  have h:(i:Int) < (a.length:Int):=by omega
  have ha:i < a.length:=by omega
  have gl:i < b.length:=by omega
  have ea:(a.map I)[i]? =some (I a[i]):=by simp [ha]
  have eb:(b.map I)[i]? =some (I b[i]):=by simp [gl]
  have hw:IntKind.wrap .i64 ((i:Int)+1)=((i+1:Nat):Int):=Uv i (by omega)
  simp only[↓cc,↓bt,↓bP,↓uc,↓eO,↓bb,jV,ite_not,↓reduceIte,cw,h,decide_true,Xu _ (aA _ _ _),Xt _ (aA _ _ _),l9 _ _ _ _ _ _ ea,l9 _ _ _ _ _ _ eb,AV.cells,eH hS,hw,ih (i+1) (by omega) S hS]
  rw[List.drop_eq_getElem_cons ha,List.drop_eq_getElem_cons gl]
  simp only[List.cons.injEq]
  by_cases rI:a[i]=b[i]
  ·simp only[rI,true_and,↓reduceIte]
  ·simp only[rI,false_and,decide_false,↓reduceIte]
theorem agv(a b:List Int)(ga gb:Gr)(s:St)(hb:a.length≤9223372036854775807):aJ T1 G X 32 [gp a ga,gp b gb] s= .ok (.bool (decide (a=b))) s:=by
 rw[ahs,awt]
 simp only[gp,↓cc,↓bt,↓eO,↓bq,jV,ite_not,cw,Xw _ (aA _ _ _)]
 by_cases h:a.length=b.length
 ·have:=ah3 G X a b ga gb s h hb a.length 0 (by omega) s.ai (.ai s)
  simp only[Int.natCast_zero,bW] at this
  simp [h,this]
 ·have h1:¬(a.length:Int)=(b.length:Int):=by omega
  have h2:¬a=b:=fun e=>h (by rw[e])
  simp [h1,h2]
theorem aC5{S:St}{k:K1}(x:gG):(PP T1 G X).ak S k ((tE (.agg [.int .i64, .int .i64, .int .i64]) x.enc x.enc).map fun b=>.bool (bif true then !b else b))=k (.bool false) S:=by
 have:tE (.agg [.int .i64, .int .i64, .int .i64]) x.enc x.enc=some true:=by
  obtain⟨a,b,c⟩:=x
  show(bif true && true then ke [I a,I b,I c] [I a,I b,I c] else none)=some true
  simp [ke]
 rw[this]
 rfl
theorem axy{S:St}{k:K1}(a:Int):(PP T1 G X).ak S k (au .neq (.int .i64 a) (.int .i64 a))=k (.bool false) S:=by rw[eO,aT (by simp)]
section
variable(gI:Int)(ins:List gG)(gi cR:Gr)(aL:List (List Int×Gr))(gv qM:Gr)(roots:List Int)(gr iQ:Gr)
abbrev tw(gI:Int)(ins:List gG)(gi:Gr)(aL:List (List Int×Gr))(gv:Gr)(roots:List Int)(gr:Gr):List AV:=[I gI, .sl 3 (ins.map gG.enc) gi, .sl 1 (aL.map bN) gv,gp roots gr]
theorem YG(hv:aL.length < 9223372036854775807)(Ti:∀v∈aL,v.1.length≤9223372036854775807)(hr:roots.length≤9223372036854775807)(s:St):∀n i:Nat,i+n=aL.length→zN (PP T1 G X) (.bO (tw gI ins gi aL gv roots gr)) (.bO (tw gI ins cR aL qM roots iQ)) (.int .i64 (i:Int)) s.ai= .ok (.bool true) s:=by
 intro n
 induction n with
 | zero=>
  intro i hi
  have c:=agv G X roots roots (gr.av s.ai.aa) (iQ.av s.ai.aa) s.ai hr
  rw[a9 rfl] at c
  rw[Gu _ (aA _ _ _),dF,tw,dT,dT,bW,bP,bt,cw,bb,aT (by omega),bf,Xq _ (aA _ _ _),dF,dT,dT,dT,bW,bP,dF,tw,dT,dT,dT,bW,bP]
  refine(aN c).trans ?_
  exact bq _
 | succ n ih=>
  intro i hi
  have na:i < aL.length:=by omega
  have c:=agv G X aL[i].1 aL[i].1 (aL[i].2.av s.ai.aa) (aL[i].2.av s.ai.aa) s.ai (Ti _ (nd na))
  rw[a9 rfl] at c
  have ei:(aL.map bN)[i]? =some (bN aL[i]):=by simp [na]
  have i1:=fun(S:St) (k:K1) (g:Gr)=>kF G X S k 1 (aL.map bN) g .i64 i _ ei
  have l0:=fun(S:St) (k:K1) (v:List Int×Gr)=>show(PP T1 G X).aq S k none (.bO (AV.cells (bN v)))=k (bN v) S from rfl
  have a1:=fun(S:St) (k:K1)=>gD G X S k i (by omega)
  rw[Gu _ (aA _ _ _),dF,tw,dT,dT,bW,bP,bt,cw,bb,a9 (by omega),be,Xp _ (aA _ _ _),dF,dT,dT,bW,bP,i1,l0,dF,tw,dT,dT,bW,bP,i1,l0]
  refine(aN c).trans ?_
  rw[fh,Bool.not_true,bf,Xo _ (aA _ _ _),a1]
  exact ih (i+1) (by omega)
theorem YH(hi:ins.length < 9223372036854775807)(S:St):∀n i:Nat,i+n=ins.length→Dx (PP T1 G X) (.bO (tw gI ins gi aL gv roots gr)) (.bO (tw gI ins cR aL qM roots iQ)) (.int .i64 (i:Int)) S=zN (PP T1 G X) (.bO (tw gI ins gi aL gv roots gr)) (.bO (tw gI ins cR aL qM roots iQ)) (.int .i64 0) S:=by
 intro n
 induction n with
 | zero=>
  intro i hi
  rw[Gv _ (aA _ _ _),dF,tw,dT,bW,bP,bt,cw,bb,aT (by omega),bf,Xr _ (aA _ _ _)]
 | succ n ih=>
  intro i hi
  have na:i < ins.length:=by omega
  have ei:(ins.map gG.enc)[i]? =some ins[i].enc:=by simp [na]
  have i1:=fun(S:St) (k:K1) (g:Gr)=>kF G X S k 3 (ins.map gG.enc) g .i64 i _ ei
  have l0:=fun(S:St) (k:K1) (x:gG)=>show(PP T1 G X).aq S k (some 3) (.bO (AV.cells x.enc))=k x.enc S from rfl
  have a1:=fun(S:St) (k:K1)=>gD G X S k i (by omega)
  rw[Gv _ (aA _ _ _),dF,tw,dT,bW,bP,bt,cw,bb,a9 (by omega),be,Xn _ (aA _ _ _),dF,dT,bW,bP,i1,l0,dF,tw,dT,bW,bP,i1,l0,aC5,bf,Xm _ (aA _ _ _),a1]
  exact ih (i+1) (by omega)
theorem axz(hi:ins.length < 9223372036854775807)(hv:aL.length < 9223372036854775807)(Ti:∀v∈aL,v.1.length≤9223372036854775807)(hr:roots.length≤9223372036854775807)(s:St):
  aJ T1 G X 13 [Bk gI ins gi aL gv roots gr,Bk gI ins cR aL qM roots iQ] s= .ok (.bool true) s:=by
 have l2:=YH G X gI ins gi cR aL gv qM roots gr iQ hi s.ai ins.length 0 (by omega)
 have l6:=YG G X gI ins gi cR aL gv qM roots gr iQ hv Ti hr s aL.length 0 (by omega)
 rw[ahr,aws]
 simp only[Bk,bE,dF,dT,bW,bP,bt,cw,axy,dA,dw,bf,Xs _ (aA _ _ _)]
 exact l2.trans l6
end
theorem ah4{l:List aS}(h0:fB l=0):(rJ l).ins.length < 9223372036854775807∧(rJ l).aL.length < 9223372036854775807∧(∀v∈(rJ l).aL,v.1.length≤9223372036854775807)∧(rJ l).roots.length≤9223372036854775807:=by
 obtain⟨hw,vV⟩:=vK h0
 have hI:=Jk h0
 have h1:=hI.ins
 have h2:=hI.nv
 have h3:=hI.roots
 refine⟨by omega,by omega,fun v hv=>?_,by omega⟩
 obtain⟨k,hk⟩:=List.getElem?_of_mem hv
 have sr:=(bZ.1 hk).1
 rw[h2] at sr
 have:=hI.len k l[k] v (d8 sr) hk
 rw[this]
 unfold vI
 split <;> omega
theorem aC6(l:List aS)(g:Gr)(hg:∀a,g≠.bJ a)(hl:l.length < 9223372036854775806)(ct:∀o,o∈l→sp o)(s:St){s10:St}(CV:aJ T1 G X 10 [] {own:=[],up:=[],ro:=[]}= .ok (.bool true) s10):
  aJ T1 G X 3 [bQ l g] s= .ok (.bool true) s:=by
 obtain⟨F',v,e1,hv,_,_⟩:=aw9 G X l g hg hl ct s.ai
 let S1:St:={s.ai with own:=F'}
 have key:∃(gI:Int) (ins:List gG) (gi cR:Gr) (aL:List (List Int×Gr)) (gv qM:Gr) (roots:List Int) (gr iQ:Gr),v=Bk gI ins gi aL gv roots gr∧(if fB l=0 then YF (rJ l) else .agg gN)=Bk gI ins cR aL qM roots iQ∧ins.length < 9223372036854775807∧aL.length < 9223372036854775807∧(∀v∈aL,v.1.length≤9223372036854775807)∧roots.length≤9223372036854775807:=by
  by_cases h0:fB l=0
  ·rw[if_pos h0] at hv
   obtain⟨gi,gv,gr,rfl⟩:=hv
   obtain⟨b1,b2,b3,b4⟩:=ah4 h0
   rw[if_pos h0]
   exact⟨_,_,gi,_,_,gv,_,_,gr,_,rfl,rfl,b1,b2,b3,b4⟩
  ·rw[if_neg h0] at hv
   subst hv
   rw[if_neg h0]
   exact⟨0,[], .nil, .nil,[], .nil, .nil,[], .nil, .nil,rfl,rfl,by decide,by decide,fun v h=>absurd h oR,by decide⟩
 obtain⟨gI,ins,gi,cR,aL,gv,qM,roots,gr,iQ,rfl,hw,b1,b2,b3,b4⟩:=key
 let S2:St:=S1.new (.cells (tw gI ins gi aL gv roots gr))
 have e2:=axx G X l g hg hl ct S2
 rw[hw] at e2
 let S3:St:=S2.new (.cells (tw gI ins cR aL qM roots iQ))
 have e3:=axz G X gI ins gi cR aL gv qM roots gr iQ b1 b2 b3 b4 S3
 have rC:=fun(k:K1)=>qz (T:=T1) (G:=G) (X:=X) (s:=S1) (k:=k) 4 (tw gI ins gi aL gv roots gr) gN rfl rfl rfl
 have Sv:=fun(k:K1)=>qz (T:=T1) (G:=G) (X:=X) (s:=S2) (k:=k) 4 (tw gI ins cR aL qM roots iQ) gN rfl rfl rfl
 have o1:S3.own[S1.own.length]? =some (.cells (tw gI ins gi aL gv roots gr)):=by
  show(S1.own ++ [_] ++ [_])[S1.own.length]? =_
  simp
 have o2:S3.own[S2.own.length]? =some (.cells (tw gI ins cR aL qM roots iQ)):=by
  show(S2.own ++ [_])[S2.own.length]? =_
  simp
 have l1:=fun(k:K1)=>Ao G X (S:=S3) (k:=k) (n:=4) o1 (by simp)
 have l2:=fun(k:K1)=>Ao G X (S:=S3) (k:=k) (n:=4) o2 (by simp)
 have hch:Child s S3:=⟨rfl,rfl⟩
 rw[an1,aBG,yi rfl CV rfl,fk l hg]
 refine(dJ e1 rfl).trans ?_
 rw[lm,lq,jR]
 refine(rC _).trans ?_
 rw[fk l hg]
 refine(aN e2).trans ?_
 rw[lm,lq,jR]
 refine(Sv _).trans ?_
 simp only[dP,bj,decide_true,c7]
 refine(l1 _).trans ?_
 refine(l2 _).trans ?_
 refine(aN e3).trans ?_
 exact eH hch _
end Go.jY
