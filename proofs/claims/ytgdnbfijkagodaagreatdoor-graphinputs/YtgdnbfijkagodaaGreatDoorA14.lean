/- A part of the proof: no condition. -/
import Derived.Test.YtgdnbfijkagodaaGreatDoorA12
import Derived.Test.YtgdnbfijkagodaaGreatDoorA5
set_option linter.unusedSectionVars false
set_option linter.unusedSimpArgs false
set_option linter.unusedVariables false
namespace Go.gw
open Go.Ab Go.hK
def uh(n:fI):fi:=
 match n.g with
 |.nil=>.nil
 |_=>if n.hg.isEmpty then .exact else .any
def dj(n:fI):fI:=⟨n.neg,n.hg,uh n⟩
theorem FA(n:fI):∀a,uh n≠.dB a:=fun a e=>by
 unfold uh at e;split at e
 ·cases e
 ·split at e<;> cases e
theorem hb{n:fI}(h:j9 n):j9 (dj n):=⟨FA n,h.ok,h.len⟩
section
variable(G:Nat→af)(X:Nat→List af→ag→ah)
theorem IJ(n:fI)(dp:j9 n)(hC:n.zM)(s:ag):aL aK G X 70 [n.v] s=.ok (dj n).v s:=by
 rw[JP,VE];obtain⟨neg,hg,g⟩:=n;have cC:∀a,g≠.dB a:=dp.g;have bK:hg.length≤100000:=hC.len;have hC:g=.nil→hg=[]:=hC.nil;show(aU aK G X).ai s.aj _ ((lB .slice (.bG 1 (hg.map U) g) (.bG 1 [] .nil)).map fun b=>.bool (bif false then !b else b))=_;by_cases h:g=.nil
 ·have:=hC h;subst h;subst this;exact iH (T:=aK) (G:=G) (X:=X) (Child.aj s) (.bG 1 [] .nil) (.bG 1 [] .nil) rfl
 ·have e:((lB .slice (.bG 1 (hg.map U) g) (.bG 1 [] .nil)).map fun b=>af.bool (bif false then !b else b))=some (.bool false):=by
   cases g with
   |nil=>exact absurd rfl h
   |dB a=>exact absurd rfl (cC a)
   |exact=>rfl
   |any=>rfl
  rw[e,cK,ev,ES,iM 1 [] rfl rfl,qq];have a3:(dj ⟨neg,hg,g⟩).v=.bG 1 (hg.map U) (if hg.isEmpty then .exact else .any):=by
   unfold fI.v dj uh;cases g with
   |nil=>exact absurd rfl h
   |dB a=>exact absurd rfl (cC a)
   |exact=>rfl
   |any=>rfl
  have iQ:dL s.aj (fI.v ⟨neg,hg,g⟩)=some (1,hg.map U):=by
   cases g with
   |dB a=>exact absurd rfl (cC a)
   |nil=>rfl
   |exact=>rfl
   |any=>rfl
  rw[a3];unfold gX;simp only;unfold h7;rw[iQ];simp only[gM,eM,cy,bg,eG];rw[show Nat.ble (hg.length*4) 1099511627776=true from eQ (by omega)];simp only[b2];cases hg with
  |nil=>exact iH (T:=aK) (G:=G) (X:=X) (Child.aj s) (.bG 1 [] .exact) (.bG 1 [] .exact) rfl
  |cons a m=>simp only[fK,ag.hi,List.nil_append];refine iH (T:=aK) (G:=G) (X:=X) (S:=s.aj.new (.tok (a::m).length)) ((Child.aj s).new _) (.bG 1 ((a::m).map U) (.dB (.l s.aj.own.length))) _ ?_;show jR _ 1 ((a::m).map U)=_;unfold jR;rw[if_pos (gj _)];rfl
theorem V9(a b:fI)(h:j9 a)(q:j9 b)(H:a.zM)(I:b.zM)(s:ag):aL aK G X 41 [.agg [.bool a.neg,a.v,.bool b.neg,b.v]] s=.ok (.agg [.bool a.neg,(dj a).v,.bool b.neg,(dj b).v]) s:=by
 have J:∀d,af.ap d a.v=a.v:=fun d=>by show af.bG 1 _ (a.g.ap d)=_;rw[po h.g];rfl
 have K:∀d,af.ap d b.v=b.v:=fun d=>by show af.bG 1 _ (b.g.ap d)=_;rw[po q.g];rfl
 have L:∀d,af.ap d (dj a).v=(dj a).v:=fun d=>by show af.bG 1 _ ((dj a).g.ap d)=_;rw[po (hb h).g];rfl
 have M:∀d,af.ap d (dj b).v=(dj b).v:=fun d=>by show af.bG 1 _ ((dj b).g.ap d)=_;rw[po (hb q).g];rfl
 have N:=fun s=>IJ G X a h H s
 have O:=fun s=>IJ G X b q I s
 rw[JO,VD,IW _ rfl,a7,show af.cells (.agg [.bool a.neg,a.v,.bool b.neg,b.v])=[.bool a.neg,a.v,.bool b.neg,b.v] from rfl,cJ];show(aU aK G X).av ((s.aj.new (.cells [.bool a.neg,a.v,.bool b.neg,b.v])).new (.cells [.bool false,.bG 1 [] .nil,.bool false,.bG 1 [] .nil])) _ 0 (.ref (.l s.aj.own.length) 0)=_;obtain⟨S,r⟩:∃S:ag,S=(s.aj.new (.cells [.bool a.neg,a.v,.bool b.neg,b.v])).new (.cells [.bool false,.bG 1 [] .nil,.bool false,.bG 1 [] .nil]):=⟨_,rfl⟩;have U:(s.aj.new (.cells [.bool a.neg,a.v,.bool b.neg,b.v])).own.length=s.aj.own.length+1:=by simp [ag.new]
 have own:∀j:Nat,j=s.aj.own.length→S.own[j]? =some (.cells [.bool a.neg,a.v,.bool b.neg,b.v]):=fun j df=>by subst df;subst r;simp [ag.new]
 have V:S.own[s.aj.own.length+1]? =some (.cells [.bool false,.bG 1 [] .nil,.bool false,.bG 1 [] .nil]):=by subst r;simp [ag.new]
 have jT:Child s S:=by subst r;exact((Child.aj s).new _).new _
 rw[←r,U];generalize s.aj.own.length=j at *;have gz:=own j rfl;rw[aA,aA,iN gz (show[af.bool a.neg,a.v,.bool b.neg,b.v][0+0+1]? =some a.v from rfl),J,a9 (N _),aA,aA,L];rw[ow (cs:=[.bool a.neg,a.v,.bool b.neg,b.v]) gz (by simp) rfl rfl rfl];have y:=(ey.1 gz).1;have A:(S.own.set j (.cells ([af.bool a.neg,a.v,.bool b.neg,b.v].set (0+0+1) (dj a).v)))[j]? =some (.cells [.bool a.neg,(dj a).v,.bool b.neg,b.v]):=by simp [y]
 rw[aA,aA];refine(iN (T:=aK) (G:=G) (X:=X) (S:={S with own:=S.own.set j (.cells ([af.bool a.neg,a.v,.bool b.neg,b.v].set (0+0+1) (dj a).v))}) (o:=0+2+1) A (show[af.bool a.neg,(dj a).v,.bool b.neg,b.v][0+2+1]? =some b.v from rfl)).trans ?_;rw[K,a9 (O _),aA,aA,M];refine(ow (S:={S with own:=S.own.set j (.cells ([af.bool a.neg,a.v,.bool b.neg,b.v].set (0+0+1) (dj a).v))}) (o:=0+2+1) (v:=(dj b).v) (cs:=[.bool a.neg,(dj a).v,.bool b.neg,b.v]) A (by simp) rfl rfl rfl).trans ?_;obtain⟨e,u⟩:∃e:ag,e=({S with own:=(S.own.set j (.cells ([af.bool a.neg,a.v,.bool b.neg,b.v].set (0+0+1) (dj a).v))).set j (.cells ([af.bool a.neg,(dj a).v,.bool b.neg,b.v].set (0+2+1) (dj b).v))}:ag):=⟨_,rfl⟩;have Y:e.own[j]? =some (.cells [.bool a.neg,(dj a).v,.bool b.neg,(dj b).v]):=by subst u;simp [y]
 have B:e.own[j+1]? =some (.cells [.bool false,.bG 1 [] .nil,.bool false,.bG 1 [] .nil]):=by subst u;simp only;rw[ns (by omega),ns (by omega)];exact V
 have F:Child s e:=by subst u;exact⟨jT.up,jT.ro⟩
 show(aU aK G X).ar ({S with own:=(S.own.set j (.cells ([af.bool a.neg,a.v,.bool b.neg,b.v].set (0+0+1) (dj a).v))).set j (.cells ([af.bool a.neg,(dj a).v,.bool b.neg,b.v].set (0+2+1) (dj b).v))}:ag) _ (some 4) (.ref (.l j) 0)=_;rw[←u,J6 G X Y (aC 4),a7,pA (T:=aK) (G:=G) (X:=X) (n:=4) (vs:=[af.bool a.neg,(dj a).v,.bool b.neg,(dj b).v].take 4) B rfl rfl rfl];have Z:=(ey.1 B).1;rw[qs (S:={e with own:=e.own.set (j+1) (.cells ([af.bool a.neg,(dj a).v,.bool b.neg,(dj b).v].take 4))}) (j:=j+1) (cs:=[.bool a.neg,(dj a).v,.bool b.neg,(dj b).v]) (n:=4) (by simp [Z]) rfl];refine iH (s:=s) (S:={own:=e.own.set (j+1) (.cells ([af.bool a.neg,(dj a).v,.bool b.neg,(dj b).v].take 4)),up:=e.up,ro:=e.ro}) ⟨F.up,F.ro⟩ _ _ ?_;show(fs (ef _) [_,_,_,_]).map af.agg=_;have eZ:∀S,ef S (dj a).v=some (dj a).v:=fun S=>nN (hb h).g S 1 _
 have au:∀S,ef S (dj b).v=some (dj b).v:=fun S=>nN (hb q).g S 1 _
 simp only[fs,eZ,au,show∀S b,ef S (.bool b)=some (.bool b) from fun S b=>rfl,f6,ew]
end
theorem sH:∀(l:List aX) (b:Nat) (p:Nat×Nat),p∈dt l b→∃j,j<l.length∧p.1=b+j∧(p.2=0∨p.2=1)
 |[],_,_,h=>by simp [dt] at h
 |x::l,b,p,h=>by
  simp only[dt,List.mem_append] at h;rcases h with h|h
  ·refine⟨0,by simp,?_,?_⟩
   ·unfold h1 at h;split at h
    ·simp only[List.mem_cons,mi,or_false] at h;rcases h with rfl |rfl <;> rfl
    ·split at h
     ·simp only[List.mem_cons,mi,or_false] at h;subst h;rfl
     ·cases h
   ·unfold h1 at h;split at h
    ·simp only[List.mem_cons,mi,or_false] at h;rcases h with rfl |rfl
     ·exact .inl rfl
     ·exact .inr rfl
    ·split at h
     ·simp only[List.mem_cons,mi,or_false] at h;subst h;exact .inl rfl
     ·cases h
  ·obtain⟨j,au,az,b3⟩:=sH l (b+1) p h;exact⟨j+1,by simp;omega,by omega,b3⟩
def nP(l:List aX)(p:Nat×Nat):fI×fI:=if p.2=0 then((l.getD p.1 default).hr,(l.getD p.1 default).bN) else((l.getD p.1 default).lJ,(l.getD p.1 default).li)
def nQ(a b:fI):af:=.agg [.bool a.neg,a.v,.bool b.neg,b.v]
def kG(l:List aX)(p:Nat×Nat):af:=nQ (dj (nP l p).1) (dj (nP l p).2)
theorem qa{a b:fI}(e:j9 a)(h:j9 b):(nQ a b).bd=true:=by simp -implicitDefEqProofs only[nQ,af.bd,af.aY,fI.v,ka e.g,ka h.g,bD]
section
variable(G:Nat→af)(X:Nat→List af→ag→ah)
theorem adU{S:ag}{sz:Nat}{es:List af}{g:fi}(cC:∀a,g≠.dB a):Ab.freeze S (.bG sz es g)=some (.bG sz es g):=nN cC S sz es
theorem Wa(l:List aX)(g:fi)(cC:∀a,g≠.dB a)(bK:l.length≤1000)(dg:∀o,o∈l→pJ o)(s:ag):aL aK G X 23 [b7 l g] s=.ok (if hl l=0 then .ea [.bG 2 ((dt l 0).map kn) (ft (dt l 0)),I 0] else .ea [.bG 2 [] .nil,I (hl l)]) s:=by
 have e:∀d,af.ap d (b7 l g)=b7 l g:=fun d=>jm l cC d
 rw[JK,Vz,e,a9 (zG G X l g cC s.aj (by omega) dg),cA];by_cases h:hl l=0
 ·rw[cL (by simp [h]),ev,if_pos h,EH,e,a9 (zE G X l g s.aj bK)];exact hE (.aj s) _ _ _ _ (adU (ps _)) rfl
 ·rw[dY h,eo,if_neg h];exact hE (.aj s) _ _ _ _ rfl rfl
theorem Wb(l:List aX)(g:fi)(cC:∀a,g≠.dB a)(bK:l.length≤1000)(dg:∀o,o∈l→pJ o)(CT:∀o,o∈l→Pn o)(s:ag):aL aK G X 24 [b7 l g] s=.ok (if hl l=0 then .ea [.bG 4 ((dt l 0).map (kG l)) (ft (dt l 0)),I 0] else .ea [.bG 4 [] .nil,I (hl l)]) s:=by
 have N:∀d,af.ap d (b7 l g)=b7 l g:=fun d=>jm l cC d
 have u:∀l b,(dt l b).length≤2*l.length:=fun l=>by
  induction l with
  |nil=>intro b;exact Nat.zero_le _
  |cons x r y=>
   intro b
   have:=y (b+1)
   have:=qx b x;simp only[dt,fJ,bP];omega
 have aw:=u l 0;have O:∀p,p∈dt l 0→j9 (nP l p).1∧j9 (nP l p).2∧(nP l p).1.zM∧(nP l p).2.zM:=fun p fC=>by
  obtain⟨j,au,az,b3⟩:=sH l 0 p fC;have hm:l.getD p.1 default∈l:=by rw[List.getD_eq_getElem?_getD,eP (show p.1<l.length by omega)];exact nT _
  have dJ:=dg _ hm;have A:=CT _ hm;unfold nP;split
  ·exact⟨dJ.hr,dJ.bN,A.hr,A.bN⟩
  ·exact⟨dJ.lJ,dJ.li,A.lJ,A.li⟩
 have Y:∀ec:List (Nat×Nat),(∀p,p∈ec→p∈dt l 0)→af.aY (ec.map (kG l))=true:=fun ec=>by
  induction ec with
  |nil=>intro _;rfl
  |cons p ec y=>intro h;have au:=O p (h p (by simp));show((kG l p).bd&&af.aY (ec.map (kG l)))=true;rw[y (fun q gh=>h q (by simp [gh]))];unfold kG;rw[qa (hb au.1) (hb au.2.1)];rfl
 have loop:∀n i:Nat,i+n=(dt l 0).length→∀(ge:fi) (S:ag),Child s S→gq S ge i→
   ub (aU aK G X) (b7 l g) (.bG 4 (((dt l 0).take i).map (kG l)) ge) (.bG 2 ((dt l 0).map kn) (ft (dt l 0))) (.int .i64 ((dt l 0).length:Int)) (.int .i64 (i:Int)) S=.ok (.ea [.bG 4 ((dt l 0).map (kG l)) (ft (dt l 0)),I 0]) s:=by
  intro n
  induction n with
  |zero=>
   intro i bX ge S H B;rw[v9,bm,cL (by omega),ev,EK,iP (by omega)];have J:i=(dt l 0).length:=by omega
   rw[J] at B
   have:=kA (S:=S) (sz:=4) (es:=(dt l 0).map (kG l)) (g:=ge) (by rw[eG];exact B) (Y _ (fun p fC=>fC));rw[nO] at this;exact hE H _ _ _ _ this rfl
  |succ n y=>
   intro i bX ge S H B;have u:i<(dt l 0).length:=by omega
   have J:((dt l 0).map kn)[i]? =some (kn (dt l 0)[i]):=by simp [u]
   have Z:=fun(k:bf)=>wi G X S k 2 _ (ft (dt l 0)) .i64 i _ J
   have aa:(dt l 0).take (i+1)=(dt l 0).take i++[(dt l 0)[i]]:=by rw[List.take_add_one,eP u];rfl
   have hm:(dt l 0)[i]∈dt l 0:=nT u;have U:=y (i+1) (by omega);rw[aa] at U;generalize fC:(dt l 0)[i]=p at *;obtain⟨j,au,az,b3⟩:=sH l 0 p hm;obtain⟨k1,oR,ab,ac⟩:=O p hm;have ad:p.1<l.length:=by omega
   have ex:(l.map aX.enc)[p.1]? =some (l.getD p.1 default).enc:=by simp [eP ad,List.getD_eq_getElem?_getD]
   have ae:∀K:bf,(aU aK G X).ar S K (some 2) (.bI (kn p).cells)=K (.agg [I p.1,I p.2]) S:=fun K=>bb 2 [I p.1,I p.2] (aC 2)
   obtain⟨e,F⟩:∃e:ag,e=S.new (.cells [I p.1,I p.2]):=⟨_,rfl⟩;have ah:Child s e:=by subst F;exact H.new _
   have ai:gq e ge i:=by subst F;exact B.new _
   have L:e.own[S.own.length]? =some (.cells [I p.1,I p.2]):=by subst F;simp [ag.new]
   have ip:=fun(k:bf)=>jF (T:=aK) (G:=G) (X:=X) (s:=e) (k:=k) 12 (l.map aX.enc) g .i64 p.1 _ ex
   have ak:nP l p=if p.2=0 then((l.getD p.1 default).hr,(l.getD p.1 default).bN) else((l.getD p.1 default).lJ,(l.getD p.1 default).li):=rfl
   have al:kG l p=nQ (dj (nP l p).1) (dj (nP l p).2):=rfl;generalize (l.getD p.1 default)=x at *;have M:∀(i:Nat) (K:bf),i<2→(aU aK G X).hv e K 1 2 (.ref (.l S.own.length) 0) (.int .i64 (i:Int))=K (.ref (.l S.own.length) (0+i*1)) e:=fun i K bX=>by
    match i,bX with
    |0,_=>rfl
    |1,_=>rfl
   have am:∀K:bf,(aU aK G X).ar e K (some 4) (.bI (x.enc.cells.drop 3))=K (nQ x.hr x.bN) e:=fun K=>bb 4 (x.enc.cells.drop 3) (show 4≤9 by omega)
   have an:∀K:bf,(aU aK G X).ar e K (some 4) (.bI (x.enc.cells.drop 7))=K (nQ x.lJ x.li) e:=fun K=>bb 4 (x.enc.cells.drop 7) (show 4≤5 by omega)
   have ao:∀K:bf,(aU aK G X).f4 [.bool false,.bG 1 [] .nil,.bool false,.bG 1 [] .nil,.bool false,.bG 1 [] .nil,.bool false,.bG 1 [] .nil] [(0,4,nQ x.hr x.bN),(4,4,nQ x.lJ x.li)] e K=K (.agg [.bool x.hr.neg,x.hr.v,.bool x.bN.neg,x.bN.v,.bool x.lJ.neg,x.lJ.v,.bool x.li.neg,x.li.v]) e:=fun K=>rfl
   have aq:∀K:bf,(aU aK G X).py e K 4 2 (some 4) (.agg [.bool x.hr.neg,x.hr.v,.bool x.bN.neg,x.bN.v,.bool x.lJ.neg,x.lJ.v,.bool x.li.neg,x.li.v]) (.int .i64 (p.2:Int))=K (nQ (nP l p).1 (nP l p).2) e:=fun K=>by
    rw[ak];rcases b3 with h|h
    ·rw[h];rfl
    ·rw[h];rfl
   have LF:=fun s=>V9 G X (nP l p).1 (nP l p).2 k1 oR ab ac s
   have as:∀d,af.ap d (nQ (nP l p).1 (nP l p).2)=nQ (nP l p).1 (nP l p).2:=fun d=>rfl
   have gh:(kG l p).bd=true:=by rw[al];exact qa (hb k1) (hb oR)
   have fc:∀K:bf,(aU aK G X).be e K 4 [kG l p]=K (.bG 4 [kG l p] .exact) e:=fun K=>iM 4 [kG l p] (by show((kG l p).bd&&true)=true;rw[gh];rfl) rfl
   rw[v9,bm,dY (by omega),eo,EJ,Z,ae,cJ,a7,cP 2 _ _ rfl rfl rfl,←F];rw[show∀K:bf,(aU aK G X).hv e K 1 2 (.ref (.l S.own.length) 0) (.int .i64 0)=K (.ref (.l S.own.length) (0+0*1)) e from fun K=>M 0 K (by omega),iN L (show[I p.1,I p.2][0+0*1]? =some (I p.1) from rfl),ip,ds,am,
    show∀K:bf,(aU aK G X).hv e K 1 2 (.ref (.l S.own.length) 0) (.int .i64 0)=K (.ref (.l S.own.length) (0+0*1)) e from fun K=>M 0 K (by omega),iN L (show[I p.1,I p.2][0+0*1]? =some (I p.1) from rfl),ip,ds,an,ao,
    show∀K:bf,(aU aK G X).hv e K 1 2 (.ref (.l S.own.length) 0) (.int .i64 1)=K (.ref (.l S.own.length) (0+1*1)) e from fun K=>M 1 K (by omega),iN L (show[I p.1,I p.2][0+1*1]? =some (I p.2) from rfl),aq,as]
   refine(a9 (LF e)).trans ?_;refine(fc _).trans ?_;have hlen:(((dt l 0).take i).map (kG l)).length=i:=by simp;omega
   refine pz (new:=[kG l p]) (by rw[hlen];exact ai) (by simp) (by rw[hlen];simp;omega) rfl (fun g' S' V au az b3 av=>?_);rw[hlen,List.length_singleton] at V;rw[EI,ji i (by omega)]
   have:=U g' S' (av.child ah) V;rw[List.map_append] at this;exact this
 rw[JL,VA,N,a9 (zG G X l g cC s.aj (by omega) dg),cA];by_cases h:hl l=0
 ·rw[cL (by simp [h]),ev,if_pos h,EL,N,a9 (zE G X l g s.aj bK),aE,eG];exact loop (dt l 0).length 0 (by omega) .nil s.aj (.aj s) .nil
 ·rw[dY h,eo,if_neg h];exact hE (.aj s) _ _ _ _ rfl rfl
end
def l6(l:List aX)(r:Nat):Int:=if(l.getD r default).lx=2 then -1 else 1
theorem wA:∀(l:List aX) (b r:Nat),r∈cW l b→∃j,j<l.length∧r=b+j
 |[],_,_,h=>by simp [cW] at h
 |x::l,b,r,h=>by
  simp only[cW,List.mem_append] at h;rcases h with h|h
  ·split at h
   ·simp only[List.mem_singleton] at h;exact⟨0,by simp,by omega⟩
   ·cases h
  ·obtain⟨j,au,az⟩:=wA l (b+1) r h;exact⟨j+1,by simp;omega,by omega⟩
theorem Ps(A:List Int)(k:Nat)(v:Int):(A++List.replicate (k+1) 0).set A.length v=A++[v]++List.replicate k 0:=by rw[List.set_append_right _ _ (aC _),Nat.sub_self,List.replicate_succ,List.set_cons_zero];simp
theorem J9(l:List Int):af.aY (l.map I)=true:=by
 induction l with
 |nil=>rfl
 |cons a l e=>show(true&&af.aY (l.map I))=true;rw[e];rfl
section
variable(G:Nat→af)(X:Nat→List af→ag→ah)
theorem IK(l:List aX)(g:fi)(cC:∀a,g≠.dB a)(bK:l.length≤1000)(dg:∀o,o∈l→pJ o)(s:ag):aL aK G X 25 [b7 l g] s=.ok (if hl l=0 then .ea [.bG 1 ((cW l 0).map CM) (ft (cW l 0)),I 0] else .ea [.bG 1 [] .nil,I (hl l)]) s:=by
 have F:∀d,af.ap d (b7 l g)=b7 l g:=fun d=>jm l cC d
 have loop:∀n i:Nat,i+n=l.length→∀(es:List Nat) (ge:fi) (S:ag),Child s S→gq S ge es.length→es.length≤i→
   uc (aU aK G X) (.bG 1 (es.map CM) ge) (b7 l g) (.int .i64 (l.length:Int)) (.int .i64 (i:Int)) S=.ok (.ea [.bG 1 ((es++cW (l.drop i) i).map CM) (ft (es++cW (l.drop i) i)),I 0]) s:=by
  intro n
  induction n with
  |zero=>
   intro i bX es ge S e q he;rw[wb,bm,cL (by omega),ev,EN,lz (by omega)];simp -implicitDefEqProofs only[cW,oJ]
   have:=kA (S:=S) (sz:=1) (es:=es.map CM) (g:=ge) (by simpa using q) (r9 es);rw[nO] at this;exact hE e _ _ _ _ this rfl
  |succ n r=>
   intro i bX es ge S e q he;have u:i<l.length:=by omega
   have H:(l.map aX.enc)[i]? =some l[i].enc:=by simp [u]
   have ip:=fun(k:bf)=>wi G X S k 12 _ g .i64 i _ H
   have J:∀x,l[i]=x→l.drop i=x::l.drop (i+1):=fun x a8=>by rw[←a8];exact iW u
   generalize a8:l[i]=x at *;have cS:=J x rfl;have L:∀K:bf,(aU aK G X).ar S K (some 12) (.bI x.enc.cells)=K x.enc S:=fun K=>bb 12 x.cs (aC 12)
   have M:∀K:bf,(aU aK G X).ar (S.new (.cells x.cs)) K (some 12) (.ref (.l S.own.length) 0)=K x.enc (S.new (.cells x.cs)):=fun K=>bV 12 x.cs (aC 12)
   have LM:=fun s=>Is G X x s
   have y:=fun S k=>nn G X S k i (by omega)
   have A:∀d,af.ap d x.enc=x.enc:=fun d=>rfl
   rw[wb,bm,dY (by omega),eo,EM,ip,L,cJ,A,show x.enc=.agg x.cs from rfl,cP 12 x.cs _ rfl rfl rfl,M,A,a9 (LM _)];cases B:hL x.op with
   |true=>
    have fc:=fun(S:ag) (k:bf)=>Pa G X (S:=S) (k:=k) [(i:Int)]
    rw[eo];refine(fc _ _).trans ?_;refine pz (new:=[CM i]) (by simpa using q.new _) (by simp) (by simp;omega) rfl (fun g' S' N au az b3 O=>?_)
    have:=r (i+1) (by omega) (es++[i]) g' S' (O.child (e.new _)) (by simpa using N) (by simp;omega);rw[List.map_append] at this;rw[wa,y];refine this.trans ?_;rw[cS];simp -implicitDefEqProofs only[cW,B,if_true,ly]
   |false=>have:=r (i+1) (by omega) es ge (S.new (.cells x.cs)) (e.new _) (q.new _) (by omega);rw[ev,wa,y,this,cS];simp -implicitDefEqProofs only[cW,B,bW,if_false,List.nil_append]
 rw[JM,VB,F,a9 (zG G X l g cC s.aj (by omega) dg),cA];by_cases h:hl l=0
 ·rw[cL (by simp [h]),ev,if_pos h,EO,aE,eG]
  have:=loop l.length 0 (by omega) [] .nil s.aj (.aj s) .nil (by simp);simp -implicitDefEqProofs only[List.map_nil,List.nil_append,bL] at this;exact this
 ·rw[dY h,eo,if_neg h];exact hE (.aj s) _ _ _ _ rfl rfl
theorem Wc(l:List aX)(g:fi)(cC:∀a,g≠.dB a)(bK:l.length≤1000)(dg:∀o,o∈l→pJ o)(s:ag):aL aK G X 26 [b7 l g] s=.ok (if hl l=0 then .ea [.bG 1 ((cW l 0).map fun r=>I (l6 l r)) .exact,I 0] else .ea [.bG 1 [] .nil,I (hl l)]) s:=by
 have O:∀d,af.ap d (b7 l g)=b7 l g:=fun d=>jm l cC d
 have qh:(cW l 0).length≤l.length:=by rw[qy];exact zF l
 have loop:∀n i:Nat,i+n=(cW l 0).length→∀(S:ag) (j:Nat),Child s S→S.own[j]? =some (.cells ((((cW l 0).take i).map (l6 l)++List.replicate n 0).map I))→
   ud (aU aK G X) (b7 l g) (.cZ (.l j) 0 (cW l 0).length (cW l 0).length 1) (.bG 1 ((cW l 0).map CM) (ft (cW l 0))) (.int .i64 ((cW l 0).length:Int)) (.int .i64 (i:Int)) S=.ok (.ea [.bG 1 ((cW l 0).map fun r=>I (l6 l r)) .exact,I 0]) s:=by
  intro n
  induction n with
  |zero=>
   intro i bX S j A df;rw[we,bm,cL (by omega),ev,EQ];rw[iP (by omega),List.replicate_zero,oJ,List.map_map] at df;refine hE A _ _ _ _ (Ao df (by simp) ?_ (fun e he=>?_)) rfl
   ·have:=J9 ((cW l 0).map (l6 l));rw[List.map_map] at this;exact this
   ·obtain⟨r,_,rfl⟩:=List.mem_map.1 he;rfl
  |succ n U=>
   intro i bX S j A df;have y:i<(cW l 0).length:=by omega
   have V:((cW l 0).map CM)[i]? =some (CM (cW l 0)[i]):=by simp [y]
   have Y:=fun(k:bf)=>wi G X S k 1 _ (ft (cW l 0)) .i64 i _ V
   have Z:(cW l 0).take (i+1)=(cW l 0).take i++[(cW l 0)[i]]:=by rw[List.take_add_one,eP y];rfl
   have hm:(cW l 0)[i]∈cW l 0:=nT y;have B:=U (i+1) (by omega);rw[Z] at B;generalize (cW l 0)[i]=r at *;obtain⟨q,au,az⟩:=wA l 0 r hm;have aa:r<l.length:=by omega
   have ex:(l.map aX.enc)[r]? =some (l.getD r default).enc:=by simp [eP aa,List.getD_eq_getElem?_getD]
   have L:l6 l r=if(l.getD r default).lx=2 then -1 else 1:=rfl
   generalize (l.getD r default)=x at *;have ab:=(ey.1 df).1;have M:(((cW l 0).take i).map (l6 l)).length=i:=by simp;omega
   have ac:∀v:Int,(((((cW l 0).take i).map (l6 l)++List.replicate (n+1) 0).map I).set (0+i*1) (I v))=((((cW l 0).take i).map (l6 l)++[v]++List.replicate n 0).map I):=fun v=>by have:=Ps (((cW l 0).take i).map (l6 l)) n v;rw[M] at this;rw[←this,List.map_set,Nat.mul_one,bg]
   obtain⟨u,F⟩:∃u:ag,u= {S with own:=S.own.set j (.cells ((((cW l 0).take i).map (l6 l)++[1]++List.replicate n 0).map I))}:=⟨_,rfl⟩;have H:Child s u:=by subst F;exact⟨A.up,A.ro⟩
   have J:u.own[j]? =some (.cells ((((cW l 0).take i).map (l6 l)++[1]++List.replicate n 0).map I)):=by subst F;simp [ab]
   have ad:=fun(c:Int) (k:bf)=>ba (T:=aK) (G:=G) (X:=X) (s:=S) (k:=k) (I c) []
   have ip:=fun(k:bf)=>jF (T:=aK) (G:=G) (X:=X) (s:=u) (k:=k) 12 (l.map aX.enc) g .i64 r _ ex
   have ae:∀K:bf,(aU aK G X).ar u K none (.bI (x.enc.cells.drop 11))=K (I x.lx) u:=fun K=>rfl
   have N:=fun S k=>nn G X S k i (by omega)
   have dU:=ac 1;rw[we,bm,dY (by omega),eo,EP,Y,show af.cells (CM r)=[I (r:Int)] from rfl,ad,jh _ _ _ _ _ _ _ y,aI,ow df (by simp;omega) rfl rfl rfl,dU,←F,ip,ds,ae,bE];by_cases az:x.lx=2
   ·rw[dY az,eo,jh _ _ _ _ _ _ _ y,aI,ow J (by simp;omega) rfl rfl rfl];have ah:(((((cW l 0).take i).map (l6 l)++[1]++List.replicate n 0).map I).set (0+i*1) (I (-1)))=(((((cW l 0).take i++[r]).map (l6 l)++List.replicate n 0).map I)):=by
     rw[Nat.mul_one,bg,←List.map_set,List.map_append (f:=l6 l),fK,List.map_nil,L,if_pos az];congr 1;rw[ly,List.set_append_right _ _ (by omega),M,Nat.sub_self,ly];rfl
    rw[ah,wc,N];exact B _ j ⟨H.up,H.ro⟩ (by simp [(ey.1 J).1])
   ·rw[cL az,ev,wc,N];refine B u j H ?_;rw[J,List.map_append (f:=l6 l),fK,List.map_nil,L,if_neg az]
 have vq:=IK G X l g cC bK dg s.aj;rw[JN,VC,O,a9 vq];by_cases h:hl l=0
 ·rw[if_pos h,if_pos h,k5,k6,cA];rw[cL (by simp),ev,ER,aE,eG,oc _ _ _ _ (aC _) (by omega),aE,eG]
  have:=loop (cW l 0).length 0 (by omega) (s.aj.new (.cells (List.replicate (cW l 0).length (I 0)))) s.aj.own.length ((Child.aj s).new _) (by simp [ag.new]);exact this
 ·rw[if_neg h,if_neg h,k5,k6,cA,dY h,eo];exact hE (.aj s) _ _ _ _ rfl rfl
end
theorem acT(a b:Int):((lB (.agg [.int .i64,.int .i64]) (.agg [I a,I b]) (.agg [I a,I b])).map fun b=>af.bool (bif true then !b else b))=some (.bool false):=by simp [lB,e7,iC]
theorem pt:∀(pre:List aX) (x:aX) (rest:List aX) (b:Nat),dt (pre++x::rest) b=dt pre b++(h1 (b+pre.length) x++dt rest (b+pre.length+1))
 |[],x,rest,b=>by simp [dt]
 |y::pre,x,rest,b=>by simp only[List.cons_append,dt,bP];rw[pt pre x rest (b+1),ly,show b+1+pre.length=b+(pre.length+1) by omega]
theorem oy:∀(pre:List aX) (x:aX) (rest:List aX) (b:Nat),cW (pre++x::rest) b=cW pre b++((if hL x.op=true then[b+pre.length] else[])++cW rest (b+pre.length+1))
 |[],x,rest,b=>by simp [cW]
 |y::pre,x,rest,b=>by simp only[List.cons_append,cW,bP];rw[oy pre x rest (b+1),ly,show b+1+pre.length=b+(pre.length+1) by omega]
theorem CW:∀(l:List aX) (b:Nat),(dt l b).length≤2*l.length
 |[],_=>Nat.zero_le _
 |x::r,b=>by
  have:=CW r (b+1)
  have:=qx b x;simp only[dt,fJ,bP];omega
section
variable(G:Nat→af)(X:Nat→List af→ag→ah)
section
variable(L:List aX)(CZ WD abc acU:fi)(CX:∀a,CZ≠.dB a)(oI:L.length≤40)(dg:∀o,o∈L→pJ o)(CT:∀o,o∈L→Pn o)(jT:hl L=0)(s:ag)
include CX oI dg CT jT
theorem Ka:∀(rest pre:List aX) (S:ag),L=pre++rest→Child s S→
  zu (aU aK G X) (b7 L CZ) (.bG 2 ((dt L 0).map kn) WD) (.bG 4 ((dt L 0).map (kG L)) abc) (.bG 1 ((cW L 0).map CM) acU) (.bG 1 ((cW L 0).map fun r=>I (l6 L r)) .exact) (.int .i64 ((dt pre 0).length:Int)) (.int .i64 ((cW pre 0).length:Int)) (.int .i64 (pre.length:Int)) S=.ok (.bool true) s:=by
 intro rest
 induction rest with
 |nil=>intro pre S bK J;rw[oJ] at bK;subst bK;rw[xV,aE,eG,bm,cL (by omega),ev,EG,aE,eG,bE];simp -implicitDefEqProofs only[dG,fQ,aE,eG,bE,fv];exact ix (T:=aK) (G:=G) (X:=X) J true
 |cons x rest ax=>
  intro pre S bK J;have hlen:L.length=pre.length+(rest.length+1):=by rw[bK];simp
  have F:=sG pre [] x rest (by rw[←bK];exact(J0 jT).1);rw[List.nil_append] at F;unfold Go.gw.wf at F;simp only[bn,b1] at F;obtain⟨⟨⟨br,_⟩,_⟩,_,A,_⟩:=F;have ay:x∈L:=by rw[bK];simp
  have a8:=dg x ay;have Y:L[pre.length]? =some x:=by rw[bK];simp
  have M:L.getD pre.length default=x:=by rw[List.getD_eq_getElem?_getD,Y];rfl
  have next:=ax (pre++[x]) S (by rw[bK];simp) J;have aA:dt (pre++[x]) 0=dt pre 0++h1 pre.length x:=by have:=pt pre x [] 0;simpa [dt] using this
  have aB:cW (pre++[x]) 0=cW pre 0++(if hL x.op=true then[pre.length] else[]):=by have:=oy pre x [] 0;simpa [cW] using this
  rw[aA,aB,fJ,fJ,fJ,List.length_singleton] at next;have Z:dt L 0=dt pre 0++(h1 pre.length x++dt rest (pre.length+1)):=by rw[bK,pt,bg]
  have H:cW L 0=cW pre 0++((if hL x.op=true then[pre.length] else[])++cW rest (pre.length+1)):=by rw[bK,oy,bg]
  have bu:=CW pre 0;have bv:(cW pre 0).length≤pre.length:=by rw[qy];exact zF pre
  have es:(L.map aX.enc)[pre.length]? =some x.enc:=by rw[hy,Y];rfl
  have u:=fun(K:bf)=>jF (T:=aK) (G:=G) (X:=X) (s:=S) (k:=K) 12 (L.map aX.enc) CZ .i64 pre.length _ es
  have N:∀K:bf,(aU aK G X).ar S K none (.bI (x.enc.cells.drop 1))=K (I x.op) S:=fun K=>rfl
  have ab:∀K:bf,(aU aK G X).ar S K none (.bI (x.enc.cells.drop 11))=K (I x.lx) S:=fun K=>rfl
  have aD:∀K:bf,(aU aK G X).ar S K (some 4) (.bI (x.enc.cells.drop 3))=K (m8 x.hr x.bN) S:=fun K=>bb 4 (x.enc.cells.drop 3) (show 4≤9 by omega)
  have aF:∀K:bf,(aU aK G X).ar S K (some 4) (.bI (x.enc.cells.drop 7))=K (m8 x.lJ x.li) S:=fun K=>bb 4 (x.enc.cells.drop 7) (show 4≤5 by omega)
  have ac:∀d a b,af.ap d (m8 a b)=m8 a b:=fun d a b=>rfl
  have ad:=fun S k=>nn G X S k pre.length (by omega)
  have root:∀at_:Nat,at_=(dt pre 0).length+(h1 pre.length x).length→zs (aU aK G X) (b7 L CZ) (.bG 2 ((dt L 0).map kn) WD) (.bG 4 ((dt L 0).map (kG L)) abc) (.bG 1 ((cW L 0).map CM) acU) (.bG 1 ((cW L 0).map fun r=>I (l6 L r)) .exact) (.int .i64 (at_:Int)) (.int .i64 ((cW pre 0).length:Int)) (.int .i64 (pre.length:Int)) S=.ok (.bool true) s:=fun at_ y=>by
   rw[Ja,u,ds,ab,cA];unfold tw at A;cases ah:hL x.op with
   |false=>rw[ah] at A next;simp only[bW,if_false,b1,cy,Nat.add_zero] at A next;rw[cL (by simp [A]),ev,v8,ad,y];exact next
   |true=>
    rw[ah] at A next H;simp only[if_true,b1,List.length_singleton] at A next H;have qh:(cW pre 0).length<(cW L 0).length:=by rw[H];simp
    have aj:(cW L 0)[(cW pre 0).length]? =some pre.length:=by rw[H];simp
    have aG:((cW L 0).map CM)[(cW pre 0).length]? =some (CM pre.length):=by rw[hy,aj];rfl
    have aH:((cW L 0).map fun r=>I (l6 L r))[(cW pre 0).length]? =some (I (l6 L pre.length)):=by rw[hy,aj];rfl
    have aI:=fun(K:bf)=>jF (T:=aK) (G:=G) (X:=X) (s:=S) (k:=K) 1 ((cW L 0).map CM) acU .i64 _ _ aG
    have ak:=fun(K:bf)=>jF (T:=aK) (G:=G) (X:=X) (s:=S) (k:=K) 1 ((cW L 0).map fun r=>I (l6 L r)) .exact .i64 _ _ aH
    have aJ:=fun(c:Int) (k:bf)=>ba (T:=aK) (G:=G) (X:=X) (s:=S) (k:=k) (I c) []
    have aL:IntKind.wrap .i64 (2*x.lx)=2*x.lx:=eD _ (by omega) (by omega);have aM:IntKind.wrap .i64 (3-2*x.lx)=3-2*x.lx:=eD _ (by omega) (by omega);have aN:l6 L pre.length=3-2*x.lx:=by unfold l6;rw[M];split<;> omega
    rw[aN] at ak;rw[dY (by omega),eo,aE,eG,cF,cL (by omega)];simp -implicitDefEqProofs only[dM,aI,af.cells,aJ,cA,not_true_eq_false,dy,eJ,ak];rw[u];simp -implicitDefEqProofs only[dM,ds];rw[ab];simp -implicitDefEqProofs only[dM,fO,aL,fz,aM,cA,not_true_eq_false,dy,eJ,ev];rw[I9,ji _ (by omega),v8,ad,y];exact next
  have J3:∀(at_ k:Nat),(dt L 0)[at_]? =some (pre.length,k)→at_<(dt L 0).length∧((dt L 0).map kn)[at_]? =some (kn (pre.length,k))∧((dt L 0).map (kG L))[at_]? =some (kG L (pre.length,k)):=fun at_ k h=>⟨(ey.1 h).1,by rw[hy,h];rfl,by rw[hy,h];rfl⟩
  have al:∀(k:Nat) (K:bf),(aU aK G X).ar S K (some 2) (.bI (kn (pre.length,k)).cells)=K (.agg [I pre.length,I k]) S:=fun k K=>bb 2 [I pre.length,I k] (aC 2)
  have aO:kG L (pre.length,0)=m8 (dj x.hr) (dj x.bN):=by unfold kG nP nQ;rw[if_pos rfl];simp only[M]
  have aP:kG L (pre.length,1)=m8 (dj x.lJ) (dj x.li):=by unfold kG nP nQ;rw[if_neg (show¬(1:Nat)=0 by omega)];simp only[M]
  have am:∀(a b:fI) (K:bf),(aU aK G X).ar S K (some 4) (.bI (m8 a b).cells)=K (m8 a b) S:=fun a b K=>bb 4 [.bool a.neg,a.v,.bool b.neg,b.v] (aC 4)
  have ao:=Iy G X S (dj x.hr) (dj x.bN) x.hr x.bN (hb a8.hr) (hb a8.bN) a8.hr a8.bN;rw[dY (show((dj x.hr).neg=x.hr.neg∧(dj x.hr).hg=x.hr.hg)∧((dj x.bN).neg=x.bN.neg∧(dj x.bN).hg=x.bN.hg) from⟨⟨rfl,rfl⟩,rfl,rfl⟩)] at ao;have aq:=Iy G X S (dj x.lJ) (dj x.li) x.lJ x.li (hb a8.lJ) (hb a8.li) a8.lJ a8.li;rw[dY (show((dj x.lJ).neg=x.lJ.neg∧(dj x.lJ).hg=x.lJ.hg)∧((dj x.li).neg=x.li.neg∧(dj x.li).hg=x.li.hg) from⟨⟨rfl,rfl⟩,rfl,rfl⟩)] at aq;have aQ:=fun(K:bf)=>a9 (k:=K) ao
  have aS:=fun(K:bf)=>a9 (k:=K) aq
  have IN:∀K:bf,(aU aK G X).f4 [.int .i64 0,.int .i64 0] [(0,1,.int .i64 (pre.length:Int)),(1,1,.int .i64 0)] S K=K (.agg [I pre.length,I 0]) S:=fun K=>rfl
  have wU:∀K:bf,(aU aK G X).f4 [.int .i64 0,.int .i64 0] [(0,1,.int .i64 (pre.length:Int)),(1,1,.int .i64 1)] S K=K (.agg [I pre.length,I 1]) S:=fun K=>rfl
  have aT:∀(K:bf),(aU aK G X).ar S K (some 2) (.bI (kn (pre.length,0)).cells)=K (.agg [I pre.length,I 0]) S:=fun K=>al 0 K
  have aV:∀(K:bf),(aU aK G X).ar S K (some 2) (.bI (kn (pre.length,1)).cells)=K (.agg [I pre.length,I 1]) S:=fun K=>al 1 K
  have snd:∀at_:Nat,at_=(dt pre 0).length+(if x.op=1∨x.op=2 then 1 else 0)→zt (aU aK G X) (b7 L CZ) (.bG 2 ((dt L 0).map kn) WD) (.bG 4 ((dt L 0).map (kG L)) abc) (.bG 1 ((cW L 0).map CM) acU) (.bG 1 ((cW L 0).map fun r=>I (l6 L r)) .exact) (.int .i64 (at_:Int)) (.int .i64 ((cW pre 0).length:Int)) (.int .i64 (pre.length:Int)) S=.ok (.bool true) s:=fun at_ y=>by
   rw[Jc,u,ds,N,bE];by_cases au:x.op=1
   ·have as:h1 pre.length x=[(pre.length,0),(pre.length,1)]:=by unfold h1;rw[if_pos au]
    rw[if_pos (.inl au)] at y;obtain⟨aW,O,B⟩:=J3 at_ 1 (by rw[Z,as,y];simp);rw[aP] at B;have U:=fun(K:bf)=>jF (T:=aK) (G:=G) (X:=X) (s:=S) (k:=K) 2 ((dt L 0).map kn) WD .i64 _ _ O
    have V:=fun(K:bf)=>jF (T:=aK) (G:=G) (X:=X) (s:=S) (k:=K) 4 ((dt L 0).map (kG L)) abc .i64 _ _ B
    rw[dY au,eo,aE,eG,cF,cL (by omega)]
    try simp -implicitDefEqProofs only[dM]
    rw[U]
    try simp -implicitDefEqProofs only[dM]
    rw[aV]
    try simp -implicitDefEqProofs only[dM]
    rw[wU];simp -implicitDefEqProofs only[dM,acT,cK,eJ];rw[V]
    try simp -implicitDefEqProofs only[dM]
    rw[am]
    try simp -implicitDefEqProofs only[dM]
    rw[u];simp -implicitDefEqProofs only[dM,ds];rw[aF];simp -implicitDefEqProofs only[dM,ac];rw[aS];simp -implicitDefEqProofs only[dM,cU,gK,eJ,ev];rw[Jb,ji _ (by omega)];exact root (at_+1) (by rw[as,y];simp)
   ·rw[cL au,ev];refine root at_ ?_;rw[y];unfold h1;rw[if_neg au];by_cases az:x.op=2
    ·rw[if_pos az,if_pos (.inr az)];rfl
    ·rw[if_neg az,if_neg (by omega)];rfl
  rw[xV,aE,eG,bm,dY (by omega),eo,Je,u,ds,N,bE];have fst:x.op=1∨x.op=2→(aU aK G X).cI S (fun aY s=>(aU aK G X).ai s (fun q s=>(aU aK G X).ae q false (fun k=>k (.bG 2 ((dt L 0).map kn) WD) s) s (fun aZ s=>(aU aK G X).ae q false (fun k=>k (.int .i64 ((dt pre 0).length:Int)) s) s (fun a0 s=>(aU aK G X).ae q false (fun k=>(aU aK G X).bT s k 2 aZ a0) s (fun a1 s=>(aU aK G X).ae q false (fun k=>(aU aK G X).ar s k (some 2) a1) s (fun a2 s=>(aU aK G X).ae q false (fun k=>k (.int .i64 (pre.length:Int)) s) s (fun a3 s=>(aU aK G X).ae q false (fun k=>(aU aK G X).f4 [.int .i64 0,.int .i64 0] [(0,1,a3),(1,1,(.int .i64 0))] s k) s (fun a4 s=>(aU aK G X).ae q false (fun k=>(aU aK G X).ai s k ((lB (.agg [.int .i64,.int .i64]) a2 a4).map fun b=>.bool (bif true then !b else b))) s (fun a6 s=>(aU aK G X).bs s (fun e s=>(aU aK G X).ae e false (fun k=>k (.bG 4 ((dt L 0).map (kG L)) abc) s) s (fun a7 s=>(aU aK G X).ae e false (fun k=>k (.int .i64 ((dt pre 0).length:Int)) s) s (fun bc s=>(aU aK G X).ae e false (fun k=>(aU aK G X).bT s k 4 a7 bc) s (fun bd s=>(aU aK G X).ae e false (fun k=>(aU aK G X).ar s k (some 4) bd) s (fun be s=>(aU aK G X).ae e false (fun k=>k (b7 L CZ) s) s (fun bh s=>(aU aK G X).ae e false (fun k=>k (.int .i64 (pre.length:Int)) s) s (fun bi s=>(aU aK G X).ae e false (fun k=>(aU aK G X).bT s k 12 bh bi) s (fun bj s=>(aU aK G X).ae e false (fun k=>(aU aK G X).av s k 3 bj) s (fun bk s=>(aU aK G X).ae e false (fun k=>(aU aK G X).ar s k (some 4) bk) s (fun bl s=>(aU aK G X).ae e false (fun k=>(aU aK G X).bt s k 17 [(af.ap s.aa be),(af.ap s.aa bl)]) s (fun bo s=>(aU aK G X).ae e false (fun k=>(aU aK G X).ai s k (kl .not bo)) s (fun bp s=>(aU aK G X).bs s (fun bq s=>(aU aK G X).aR bq ((aU aK G X).a5 false [some (.bool false)] s) (DT (aU aK G X) (b7 L CZ) (.bG 2 ((dt L 0).map kn) WD) (.bG 4 ((dt L 0).map (kG L)) abc) (.bG 1 ((cW L 0).map CM) acU) (.bG 1 ((cW L 0).map fun r=>I (l6 L r)) .exact) (.int .i64 ((dt pre 0).length:Int)) (.int .i64 ((cW pre 0).length:Int)) (.int .i64 (pre.length:Int)) s)) e (.bool true) bp)))))))))))) q (.bool true) a6)))))))) (an .geq (.int .i64 ((dt pre 0).length:Int)) aY)) false (.bG 2 ((dt L 0).map kn) WD)=.ok (.bool true) s:=fun aw=>by
   obtain⟨aW,O,B⟩:=J3 (dt pre 0).length 0 (by
    rw[Z];unfold h1;rcases aw with h|h
    ·rw[if_pos h];simp
    ·rw[if_neg (by omega),if_pos h];simp)
   rw[aO] at B;have U:=fun(K:bf)=>jF (T:=aK) (G:=G) (X:=X) (s:=S) (k:=K) 2 ((dt L 0).map kn) WD .i64 _ _ O
   have V:=fun(K:bf)=>jF (T:=aK) (G:=G) (X:=X) (s:=S) (k:=K) 4 ((dt L 0).map (kG L)) abc .i64 _ _ B
   rw[aE,eG,cF,cL (by omega)]
   try simp -implicitDefEqProofs only[dM]
   rw[U]
   try simp -implicitDefEqProofs only[dM]
   rw[aT]
   try simp -implicitDefEqProofs only[dM]
   rw[IN];simp -implicitDefEqProofs only[dM,acT,cK,eJ];rw[V]
   try simp -implicitDefEqProofs only[dM]
   rw[am]
   try simp -implicitDefEqProofs only[dM]
   rw[u];simp -implicitDefEqProofs only[dM,ds];rw[aD];simp -implicitDefEqProofs only[dM,ac];rw[aQ];simp -implicitDefEqProofs only[dM,cU,gK,eJ,ev];rw[Jd,ji _ (by omega)];exact snd ((dt pre 0).length+1) (by rw[if_pos aw])
  by_cases au:x.op=1
  ·rw[dY au];simp -implicitDefEqProofs only[gQ,bU,fv,eo];exact fst (.inl au)
  ·rw[cL au]
   try simp -implicitDefEqProofs only[dM]
   rw[u];simp -implicitDefEqProofs only[dM,ds];rw[N];simp -implicitDefEqProofs only[dM,bE,eJ];by_cases az:x.op=2
   ·rw[dY az,eo];exact fst (.inr az)
   ·rw[cL az,ev];exact snd (dt pre 0).length (by rw[if_neg (by omega)];rfl)
end
theorem abd(dX:G 0=.bI jn)(q:∃s',aL aK G X 9 [] {own:=[],up:=[],ro:=[]}=.ok (.bool true) s')(ec:List wv)(e:fi)(u:∀a,e≠.dB a)(y:∀p,p∈ec→p.V7)(A:ec.length≤131072)(s:ag):
  aL aK G X 7 [tB ec e] s=.ok (.bool true) s:=by
 obtain⟨F,q⟩:=q;obtain⟨L,CZ,jT,dg,oI,CX,CT,r⟩:=Po G X dX ec e y A 12 (by omega) s.aj;have B:af.ap s.aj.aa (tB ec e)=tB ec e:=by show af.bG 7 _ (e.ap _)=_;rw[po u]
 have h:∀d,af.ap d (b7 L CZ)=b7 L CZ:=fun d=>jm L CX d
 have adf:∀(S:ag) (K:bf),(aU aK G X).hd S K 9 []=K (.bool true) S:=fun S K=>mE rfl q rfl
 have r:aL aK G X 10 [tB ec e,.int .i64 12] s.aj=.ok (b7 L CZ) s.aj:=r;have DC:=Wa G X L CZ CX (by omega) dg s.aj;have yV:=Wb G X L CZ CX (by omega) dg CT s.aj;have vq:=IK G X L CZ CX (by omega) dg s.aj;have yW:=Wc G X L CZ CX (by omega) dg s.aj;rw[if_pos jT] at DC yV vq yW;rw[OW,aaZ,adf,cU];show(aU aK G X).aR (.bool false) _ _=_;rw[ev,Jg,B,aI,a9 r,h,a9 DC,k5,k6,h,a9 yV,k5,k6,h,a9 vq,k5,k6,h,a9 yW,k5,k6,cA];simp -implicitDefEqProofs only[not_true_eq_false,dy,dM,cA,eJ,aE,eG,ev];rw[Jf];exact Ka G X L CZ _ _ _ CX (by omega) dg CT jT s L [] s.aj rfl (.aj s)
end
end Go.gw
