/- A part of the proof: no condition. -/
import Derived.Test.YtgdnbfijkagodaaGreatDoorA8
import Derived.Test.YtgdnbfijkagodaaGreatDoorA9
import Derived.Test.YtgdnbfijkagodaaGreatDoorA10
import Derived.Test.YtgdnbfijkagodaaGreatDoorA11
import Derived.Test.YtgdnbfijkagodaaGreatDoorA7
set_option linter.unusedSectionVars false
set_option linter.unusedSimpArgs false
set_option linter.unusedVariables false
section
namespace Go.gl
open Go.Ab Go.hC
section
variable(G:Nat→ae)(X:Nat→List ae→ag→ah)
theorem aea{a:Nat}(h:a<33):gT G X a=true:=by
 match a,h with
 |0,_=>exact agy G X
 |1,_=>exact agz G X
 |2,_=>exact agA G X
 |3,_=>exact agB G X
 |4,_=>exact agC G X
 |5,_=>exact agD G X
 |6,_=>exact agE G X
 |7,_=>exact agF G X
 |8,_=>exact agG G X
 |9,_=>exact agH G X
 |10,_=>exact afu G X
 |11,_=>exact afv G X
 |12,_=>exact afw G X
 |13,_=>exact afx G X
 |14,_=>exact afy G X
 |15,_=>exact afz G X
 |16,_=>exact afA G X
 |17,_=>exact afB G X
 |18,_=>exact afC G X
 |19,_=>exact afD G X
 |20,_=>exact afE G X
 |21,_=>exact afF G X
 |22,_=>exact afG G X
 |23,_=>exact afH G X
 |24,_=>exact afI G X
 |25,_=>exact afJ G X
 |26,_=>exact afK G X
 |27,_=>exact afL G X
 |28,_=>exact afM G X
 |29,_=>exact afN G X
 |30,_=>exact afO G X
 |31,_=>exact afP G X
 |32,_=>exact afQ G X
 |n+33,h=>omega
theorem YR{a b:Int}(r: -16≤a∧a≤16)(u:1≤b∧b≤4):∃v s' iC bT,aA aL G X 46 [I a,I b] L9=.ok (.d0 [v,I 0]) s'∧ad9 v iC bT:=by have h:=aea G X (a:=(a+16).toNat) (by omega);unfold gT at h;rw[aX.AV] at h;have h:=List.all_eq_true.1 h (b-1).toNat (List.mem_range.2 (by omega));rw[show(((a+16).toNat:Nat):Int)-16=a by omega,show(((b-1).toNat:Nat):Int)+1=b by omega] at h;obtain⟨v,s',iC,bT,ar,av⟩:=RX h;exact⟨v,s',iC,bT,om aL G X (fun e=>by cases e) ar,av⟩
end
end Go.gl
end
section
namespace Go.gl
open Go.Ab
section
variable(G:Nat→ae)(X:Nat→List ae→ag→ah)
theorem oF{s:ag}{k:bd}{cs:List ae}(n o:Nat)(v:ae)(bM:v.fa=true)(dm:v.cells.length=n)(y:o+n≤cs.length)(aY:v.cells.all ae.eB=true):
  (aV aL G X).bX (s.new (.cells cs)) k n (.ref (.l s.own.length) o) v=k .dead (s.new (.cells (dL cs o v.cells))):=by
 rw[kj];have dH:(s.new (.cells cs)).get (.l s.own.length)=some (.cells cs):=by simp [ag.get,ag.new]
 have e:Nat.ble (o+v.cells.length) cs.length=true:=et (by omega);have h:Nat.beq v.cells.length n=true:=by rw[dm];exact ft n
 have r:(s.new (.cells cs)).gO (.l s.own.length) v.cells=true:=by simp [ag.gO,ag.oZ]
 have u:(s.new (.cells cs)).set (.l s.own.length) (.cells (dL cs o v.cells))=some (s.new (.cells (dL cs o v.cells))):=by simp [ag.set,ag.new]
 simp only[fe,bM,h,bz,bH];unfold h1;simp only[dH,e,r,aY,bz,bH];show(match (s.new (.cells cs)).set (.l s.own.length) (.cells (dL cs o v.cells)) with |some s=>k .dead s|none=>.fail)=_;rw[u]
theorem AH(n:Int)(dm: -9223372036854775808≤n∧n≤9223372036854775807):∃v s' iC bT,aA aL G X 36 [I n] L9=.ok v s'∧ad9 v iC bT:=by
 have J:=mj (x:=n) (n:=33) (by omega);have K:=mj (x:=n) (n:=4) (by omega);have e:=fun s=>sv G X n 33 (by omega) dm s
 have h:=fun s=>sv G X n 4 (by omega) dm s
 obtain⟨v,s',iC,bT,fE,bM⟩:=YR G X (a:=gC n 33-16) (b:=1+gC n 4) (by omega) (by omega);have aU:v.bc=true:=by rw[bM.v];simp -implicitDefEqProofs only[ae.bc,ae.aZ,h0.v,j9 bM.BN.g,j9 bM.gU.g,bz]
 have r:IntKind.wrap .i64 (gC n 33-16)=gC n 33-16:=eP _ (by omega) (by omega);have u:IntKind.wrap .i64 (1+gC n 4)=1+gC n 4:=eP _ (by omega) (by omega);refine⟨v,L9,iC,bT,?_,bM⟩;rw[LO,Yd];have y:∀(S:ag) (k:bd),(aV aL G X).gR S k 46 [I (gC n 33-16),I (1+gC n 4)]=k (.d0 [v,I 0]) S:=fun S k=>lv rfl fE (by simp [ae.bc,ae.aZ,aU])
 have ma:∀(S:ag) (k:bd),(aV aL G X).ca S k 0 (.d0 [v,I 0])=k v S:=fun S k=>ot _ _
 have dH:∀(S:ag) (k:bd),(aV aL G X).ca S k 1 (.d0 [v,I 0])=k (I 0) S:=fun S k=>ou _ _ _
 have fz:∀d,ae.ap d v=v:=fun d=>by rw[bM.v];rfl
 rw[cI,az,az,a8 (e _),fK,r,az,az,a8 (h _),fp,u,az,az];refine(y _ _).trans ?_;rw[ma,dH,cI,fz]
 subst_vars
 obtain⟨A,BN,gU,M,N,O⟩:=bM;subst A;refine(cQ 4 _ _ rfl rfl rfl).trans ?_;refine(b1 4 _ (by simp)).trans ?_;have B:∀S:ag,Ab.freeze S (.agg [.bool iC.neg,iC.v,.bool bT.neg,bT.v])=some (.agg [.bool iC.neg,iC.v,.bool bT.neg,bT.v]):=fun S=>by show(fl (eC S) [_,_,_,_]).map ae.agg=_;have eS:=pW BN.g S 1 (iC.p3.map U);have ar:=pW gU.g S 1 (bT.p3.map U);have F:eC S iC.v=some iC.v:=eS;have H:eC S bT.v=some bT.v:=ar;simp only[fl,F,H,show∀b,eC S (.bool b)=some (.bool b) from fun b=>rfl,fF,ej]
 refine(s0 (T:=aL) (G:=G) (X:=X) (j:=0) (n:=4) (cs:=[.bool false,.bW 1 [] .nil,.bool false,.bW 1 [] .nil]) (vs:=[.bool iC.neg,iC.v,.bool bT.neg,bT.v]) rfl rfl rfl rfl).trans ?_;refine gv (s:=L9) ?_ _ _ (B _);exact⟨rfl,rfl⟩
end
structure uR where
 op:Int
 a:Int
 b:Int
 c:Int
 x:Int
 y:Int
 nD:Int
def uR.cs(p:uR):List ae:=[I p.op,I p.a,I p.b,I p.c,I p.x,I p.y,I p.nD]
def uR.enc(p:uR):ae:=.agg p.cs
def AI(n:Int):Prop:= -9223372036854775808≤n∧n≤9223372036854775807
structure uR.Sj (p:uR):Prop where
 op:AI p.op
 a:AI p.a
 b:AI p.b
 c:AI p.c
 x:AI p.x
 y:AI p.y
 nD:AI p.nD
def ni:h0:=⟨false,[],.nil⟩
theorem il:oX ni:=⟨fun a h=>(by cases h),fun x a5=>(by cases a5),(by show(0:Nat)<_;omega)⟩
theorem nB:ni.Mb:=⟨fun _=>rfl,Nat.zero_le _⟩
structure aeb (x:aT):Prop where
 iC:x.iC.Mb
 bT:x.bT.Mb
 qL:x.qL.Mb
 pU:x.pU.Mb
theorem w7:∀(l pre:List aT) (x:aT),iB pre (l++[x])=(iB pre l&&wf (pre++l) x)
 |[],pre,x=>by simp [iB]
 |y::l,pre,x=>by rw[List.cons_append,iB,w7 l,iB,nk,List.singleton_append,Bool.and_assoc]
theorem yZ:∀(l:List aT) (i:Nat) (x:aT),(jZ (l++[x]) i).length=(jZ l i).length+(if x.op=1 then 2 else if x.op=2 then 1 else 0)
 |[],i,x=>by
  simp only[List.nil_append,jZ,mO,qw,cB,bf];split
  ·rfl
  ·split<;> rfl
 |y::l,i,x=>by simp only[List.cons_append,jZ,gL];rw[yZ l];omega
structure D4 (L:List aT) (gq roots i:Nat):Prop where
 wf:iB [] L=true
 ok:∀x,x∈L→p4 x
 agI:∀x,x∈L→aeb x
 AQ:AQ L≤roots
 rt:roots≤3
 aec:(jZ L 0).length≤gq
 aed:gq≤8
 KG:∀x,x∈L→∃j,j<i∧x.name=115::eL j
theorem D4.check{L:List aT}{gq roots i:Nat}(h:D4 L gq roots i)(bN:L.length≤40):hs L=0:=by have ar:=h.AQ;have av:=h.rt;have bV:=h.aec;have dD:=h.aed;unfold hs;rw[h.wf,bH,if_neg (by omega)]
theorem D4.later{L:List aT}{gq roots i:Nat}(h:D4 L gq roots i):D4 L gq roots (i+1):=
 ⟨h.wf,h.ok,h.agI,h.AQ,h.rt,h.aec,h.aed,fun x a5=>let⟨j,ar,av⟩:=h.KG x a5;⟨j,by omega,av⟩⟩
theorem Mc{w r:Int}(h:mQ w r=true)(aU:r=1∨r=2∨r=3):acc w r=true:=by
 unfold mQ at h;unfold acc;simp only[Bool.or_eq_true,bl,b8] at h ⊢;rcases h with h|⟨ar,av⟩
 ·exact .inl h
 ·exact .inr ⟨ar,by omega⟩
theorem D5{L:List aT}(r:∀o,o∈L→hi o.op≠0){w n:Int}(h:0≤kH L w n):w0 L w (kH L w n)=true:=by
 unfold kH at h ⊢;by_cases eS:(jr w L 0).length=0
 ·rw[if_pos eS] at h;omega
 ·rw[if_neg eS] at h ⊢;have fz:=mj (x:=n) (n:=(jr w L 0).length) (by omega);have e:(gC n (jr w L 0).length).toNat<(jr w L 0).length:=by omega
  have hm:(jr w L 0).getD (gC n (jr w L 0).length).toNat 0∈jr w L 0:=by rw[List.getD_eq_getElem?_getD,ei e,Option.getD_some];exact ml e
  generalize (jr w L 0).getD (gC n (jr w L 0).length).toNat 0=a at *;obtain⟨j,x,ar,av,bV⟩:=yY w L 0 a hm;rw[bf] at ar;have u:=(ec.1 av).1;have eR:=r x (List.mem_of_getElem? av);have aU:=RV x.op;unfold w0;subst ar;rw[Int.toNat_natCast,av];simp only[bl,b8];exact⟨⟨by omega,by omega⟩,Mc bV (by omega)⟩
def eW(L:List aT)(ws cs:List Int):List Int:=List.zipWith (kH L) ws cs
theorem D6{L:List aT}(e:∀o,o∈L→hi o.op≠0):∀(ws cs:List Int),(∀a,a∈eW L ws cs→0≤a)→jD L ws (eW L ws cs)=true
 |[],_,_=>by simp [eW,jD]
 |_::_,[],_=>by simp [eW,jD]
 |w::ws,c::cs,h=>by simp only[eW,List.zipWith_cons_cons] at h ⊢;rw[jD,bl];exact⟨D5 e (h _ List.mem_cons_self),D6 e ws cs (fun a r=>h a (List.mem_cons_of_mem _ r))⟩
theorem y0(op:Int):(gi op).length≤3:=by
 have c:∀(p:Prop) [Decidable p] (a b:List Int),a.length≤3→b.length≤3→(if p then a else b).length≤3:=fun p _ a b ar av=>by
  by_cases h:p
  ·rw[if_pos h];exact ar
  ·rw[if_neg h];exact av
 unfold gi
 repeat (refine c _ _ _ (by decide) ?_)
 decide
theorem Md{L:List aT}{i:Nat}(bL:i<131072)(h:∀x,x∈L→∃j,j<i∧x.name=115::eL j)(x:aT)(a5:x.name=115::eL i):oC L x=false:=by
 unfold oC;rw[List.any_eq_false];intro o r;obtain⟨j,ar,av⟩:=h o r;rw[a5,av];simp only[List.cons.injEq,true_and,b8];intro e
 have:=L7 (by omega) bL e;omega
theorem D4.snoc{L:List aT}{gq roots e r i:Nat}(h:D4 L gq roots i)(bL:i<131072)(x:aT)(M:1≤x.op∧x.op≤16)(u:x.name=115::eL i)(A:jD L (gi x.op) x.args=true)(B:(gi x.op).length=x.args.length)(F:w1 x.op x.nD=true)(H:tY x=true)(dk:p4 x)(I:aeb x)
  (N:gq+(if x.op=1 then 2 else if x.op=2 then 1 else 0)≤e)(J:e≤8)(O:roots+(if iX x.op=true then 1 else 0)≤r)(K:r≤3):D4 (L++[x]) e r (i+1):=by
 refine⟨?_,fun y eM=>?_,fun y eM=>?_,?_,K,?_,J,fun y eM=>?_⟩
 ·rw[w7,h.wf,eI,List.nil_append];unfold Go.gl.wf;have eR:hi x.op≠0:=by
   unfold hi
   repeat' split
   all_goals omega
  rw[A,F,H,Md bL h.KG x u];simp [eR,B,u]
 ·rcases List.mem_append.1 eM with eM|eM
  ·exact h.ok y eM
  ·rw[List.mem_singleton.1 eM];exact dk
 ·rcases List.mem_append.1 eM with eM|eM
  ·exact h.agI y eM
  ·rw[List.mem_singleton.1 eM];exact I
 ·rw[DZ]
  have:=h.AQ;omega
 ·rw[yZ]
  have:=h.aec;omega
 ·rcases List.mem_append.1 eM with eM|eM
  ·obtain⟨j,ar,av⟩:=h.KG y eM;exact⟨j,by omega,av⟩
  ·rw[List.mem_singleton.1 eM];exact⟨i,by omega,u⟩
end Go.gl
end
section
namespace Go.gl
open Go.Ab Go.hC
theorem w8{T:Nat→Option c4}{G:Nat→ae}{X:Nat→List ae→ag→ah}{k:bd}(Q:ah→Prop){S:ag}{es new:List ae}{g g2:eZ}{q bytes:Nat}(cb:gS S g es.length)(dm:new≠[])(r:(es.length+new.length)*bytes≤1099511627776)(aY:(new.flatMap ae.cells).all ae.eB=true)
  (cZ:∀g' S',gS S' g' (es.length+new.length)→g'≠.nil→(g≠.nil→g'=g)→(g=.nil→g'=.dx (.l S.own.length))→Grown S S' g→Q (k (.bW q (es++new) g') S'))(u:∀a,g2≠.dx a:=by intro a h;cases h):
  Q ((aV T G X).fO S k q bytes (some (.l 0)) (.bW q es g) (.bW q new g2)):=by
 by_cases hex:∃g' S',gS S' g' (es.length+new.length)∧g'≠.nil∧(g≠.nil→g'=g)∧(g=.nil→g'=.dx (.l S.own.length))∧Grown S S' g∧(aV T G X).fO S k q bytes (some (.l 0)) (.bW q es g) (.bW q new g2)=k (.bW q (es++new) g') S'
 ·obtain⟨g',S',ar,av,bV,dD,y,A⟩:=hex;rw[A];exact cZ g' S' ar av bV dD y
 ·exfalso;apply hex;rw[qK];unfold gj;simp only;unfold hL;rw[show dv S (.bW q new g2)=some (q,new) from by cases g2<;> first|rfl |exact absurd rfl (u _)];simp only[ft,eI];rw[show Nat.ble ((es.length+new.length)*bytes) 1099511627776=true from et r];simp only[bH];cases new with
  |nil=>exact absurd rfl dm
  |cons c cs=>
   rcases cb.inv with⟨rfl,B⟩|⟨j,rfl,lo,h⟩
   ·simp only[ag.hn];refine⟨.dx (.l S.own.length),S.new (.tok (es.length+(c::cs).length)),.dx _ _ (by simp;omega) ?_,by simp,fun h=>absurd rfl h,fun _=>rfl,⟨rfl,rfl,?_,fun j o h _=>?_⟩,rfl⟩
    ·simp [ag.new]
    ·simp [ag.new]
    ·simp only[ag.new];rw[gm (ec.1 h).1];exact h
   ·have e:S.get (.l j)=some (.tok es.length):=h;simp only[e,ft,aY,bz,bH];refine⟨.dx (.l j),{S with own:=S.own.set j (.tok (es.length+(c::cs).length))},.dx _ _ (by simp;omega) ?_,by simp,fun _=>rfl,fun h=>by simp at h,⟨rfl,rfl,by simp,fun i o bL eR=>?_⟩,?_⟩
    ·simp [(ec.1 h).1]
    ·have:j≠i:=fun e=>eR (by rw[e])
     simp only;rw[lL this];exact bL
    ·show(match S.set (.l j) (.tok (es.length+(c::cs).length)) with |some s=>k (.bW q (es++c::cs) (.dx (.l j))) s|none=>.fail)=_;simp only[ag.set]
structure Mm (s S:ag) (im:eZ) (n sw:Nat) (p:uR):Prop where
 Zb:Child s S
 qp:gS S im n
 aee:S.own[sw]? =some (.cells p.cs)
theorem Mm.new{s S:ag}{im:eZ}{n sw:Nat}{p:uR}(h:Mm s S im n sw p)(o:cU):Mm s (S.new o) im n sw p:=
 ⟨h.Zb.new o,h.qp.new o,by simp only[ag.new];rw[gm (ec.1 h.aee).1];exact h.aee⟩
theorem Mm.grown{s S S':ag}{im r:eZ}{n m sw:Nat}{p:uR}(h:Mm s S im n sw p)(u:gS S r m)(y:∀j,im=.dx (.l j)→r≠.dx (.l j))(cb:Grown S S' r):Mm s S' im n sw p:=
 ⟨cb.child h.Zb,cb.grow h.qp y,cb.own _ _ h.aee (fun e=>by
  subst e;cases u with
  |dx j n dm av=>rw[h.aee] at av;cases av)⟩
theorem He{S:ag}{A:List Int}{g:eZ}(h:gS S g A.length):n5 (iS A g)=iS A (gw A):=by
 rcases h.inv with⟨rfl,eS⟩|⟨j,rfl,dm,eS⟩
 ·cases A with
  |nil=>rfl
  |cons a A=>simp at eS
 ·have aU:ae.aZ (A.map I)=true:=by
   clear h eS dm
   induction A with
   |nil=>rfl
   |cons a A e=>show(true&&ae.aZ (A.map I))=true;rw[e];rfl
  cases A with
  |nil=>simp at dm
  |cons a A=>show(bif ae.aZ ((a::A).map I) then _ else _)=_;rw[aU];rfl
theorem t8(L:List aT):∀(ws cs:List Int) (i:Nat) (w c:Int),ws[i]? =some w→cs[i]? =some c→eW L (ws.take (i+1)) (cs.take (i+1))=eW L (ws.take i) (cs.take i)++[kH L w c]
 |[],_,i,w,c,h,_=>by simp at h
 |_::_,[],i,w,c,_,h=>by simp at h
 |jo::ws,e::cs,0,w,c,h,av=>by simp at h av;subst h;subst av;simp [eW]
 |jo::ws,e::cs,i+1,w,c,h,av=>by have:=t8 L ws cs i w c (by simpa using h) (by simpa using av);simp only[eW] at this ⊢;simp only[cY,List.zipWith_cons_cons,List.cons_append,List.cons.injEq,true_and];exact this
theorem w9(L:List aT):∀(ws cs:List Int) (n:Nat),ws.length≤n→eW L ws (cs.take n)=eW L ws cs
 |[],_,_,_=>by simp [eW]
 |_::_,[],_,_=>by simp [eW]
 |w::ws,c::cs,0,h=>by simp at h
 |w::ws,c::cs,n+1,h=>by have:=w9 L ws cs n (by simpa using h);simp only[eW] at this ⊢;simp only[cY,List.zipWith_cons_cons,this]
theorem oG(L:List aT)(ws cs:List Int)(h:ws.length≤cs.length):(eW L ws cs).length=ws.length:=by simp [eW];omega
section
variable(G:Nat→ae)(X:Nat→List ae→ag→ah)
theorem Hf(Q:ah→Prop)(L:List aT)(Z:L.length≤1000)(im:eZ)(s:ag)(sw:Nat)(p:uR)(ws cs:List Int)(H gc:eZ)(hlen:ws.length≤cs.length)(am:ws.length≤1000)(ab:∀c,c∈cs→AI c)(n1 v1 v6 J K M v10 N:ae)
  (fin:∀(S:ag) (r:eZ),Mm s S im L.length sw p→gS S r (eW L ws cs).length→Q (Ao (aV aL G X) n1 v1 (bp L im) v6 J K M v10 N (iS (eW L ws cs) r) S)):
  ∀(n i:Nat),i+n=ws.length→∀(S:ag) (r:eZ),Mm s S im L.length sw p→gS S r i→(∀j,im=.dx (.l j)→r≠.dx (.l j))→
   Q (uG (aV aL G X) n1 v1 (bp L im) v6 J K M v10 (iS ws H) N (iS cs gc) (iS (eW L (ws.take i) (cs.take i)) r) (.int .i64 (i:Int)) S):=by
 intro n
 induction n with
 |zero=>
  intro i bL S r h7 y A;rw[wJ,aB,ep,be,cA (by omega),ee];have dH:ws.take i=ws:=i6 (by omega);have u:(eW L (ws.take i) (cs.take i)).length=i:=by rw[oG _ _ _ (by simp;omega)];simp;omega
  have B:eW L (ws.take i) (cs.take i)=eW L ws cs:=by rw[dH];exact w9 L ws cs i (by omega)
  rw[B] at u ⊢;exact fin S r h7 (by rw[u];exact y)
 |succ n ac=>
  intro i bL S r h7 y A;have O:ws[i]? =some (ws.getD i 0):=by simp [List.getD_eq_getElem?_getD,ei (show i<ws.length by omega)]
  have F:cs[i]? =some (cs.getD i 0):=by simp [List.getD_eq_getElem?_getD,ei (show i<cs.length by omega)]
  have aY:=ab _ (List.mem_of_getElem? F);have u:(eW L (ws.take i) (cs.take i)).length=i:=by rw[oG _ _ _ (by simp;omega)];simp;omega
  have a7:=t8 L ws cs i _ _ O F;generalize ws.getD i 0=w at *;generalize cs.getD i 0=c at *;have ad:=fun(k:bd)=>DC G X S k 1 (ws.map I) H .i64 i (I w) (by simp [O])
  have af:=fun(k:bd)=>DC G X S k 1 (cs.map I) gc .i64 i (I c) (by simp [F])
  have U:=fun(c:Int) (k:bd)=>bg (T:=aL) (G:=G) (X:=X) (s:=S) (k:=k) (I c) []
  have ai:=fun S k=>ny G X S k i (by omega)
  have aj:=YP G X L (im.ap S.aa) w c aY Z S;rw[wJ,aB,ep,be,dQ (by omega),ek,F1];rw[ad];rw[show ae.cells (I w)=[I w] from rfl,U,af,show ae.cells (I c)=[I c] from rfl,U,az,az,show ae.ap S.aa (bp L im)=bp L (im.ap S.aa) from rfl,a8 aj,yC];refine w8 Q (new:=[I (kH L w c)]) (by rw[ep,u];exact y) (by simp) (by rw[ep,u];simp;omega) rfl (fun g2 ak V ar av bV al=>?_);rw[F0,ai];rw[ep,u,List.length_singleton] at V
  have:=ac (i+1) (by omega) ak g2 (h7.grown y A al) V (fun j cX e=>by
   by_cases dm:r=.nil
   ·have B:=bV dm;rw[B] at e;injection e with e;injection e with e
    have Y:=h7.qp;rw[cX] at Y;cases Y with
    |dx j n dm h=>have:=(ec.1 h).1;omega
   ·exact A j cX (by rw[←av dm];exact e))
  rw[a7] at this;rw[show iS (eW L (ws.take i) (cs.take i)++[kH L w c]) g2=.bW 1 ((eW L (ws.take i) (cs.take i)).map I++[I (kH L w c)]) g2 from by simp [iS]] at this;exact this
def pJ(op:Int)(A:List Int):Int:=if A.any (fun a=>decide (a<0))=true then 1 else op
theorem Hg(A:List Int)(e:eZ)(N:A.length≤1000)(n1 v1 r v6 u y B F:ae)(S:ag):∀(n i:Nat),i+n=A.length→∀op:Int,
  uF (aV aL G X) n1 v1 r v6 u y B (I op) F (iS A e) (.int .i64 (i:Int)) S=se (aV aL G X) n1 v1 r v6 u y B (I (pJ op (A.drop i))) F (iS A e) S:=by
 intro n
 induction n with
 |zero=>intro i bL op;rw[wI,aB,ep,be,cA (by omega),ee,mm (by omega)];rfl
 |succ n H=>
  intro i bL op;have bN:i<A.length:=by omega
  have K:=fun(k:bd)=>DC G X S k 1 (A.map I) e .i64 i (I A[i]) (by simp [bN])
  have M:=fun(c:Int) (k:bd)=>bg (T:=aL) (G:=G) (X:=X) (s:=S) (k:=k) (I c) []
  have J:=fun S k=>ny G X S k i (by omega)
  have cP:A.drop i=A[i]::A.drop (i+1):=iP bN;rw[wI,aB,ep,be,dQ (by omega),ek,F2,K,show ae.cells (I A[i])=[I A[i]] from rfl,M,be,cP];generalize A[i]=a at *;by_cases h:a<0
  ·rw[dQ h,ek,tR,J,H (i+1) (by omega)]
   have:∀x,pJ 1 x=1:=fun x=>by unfold pJ;split<;> rfl
   rw[this,show pJ op (a::A.drop (i+1))=1 from by unfold pJ;simp [h]]
  ·rw[cA h,ee,tR,J,H (i+1) (by omega)];rw[show pJ op (a::A.drop (i+1))=pJ op (A.drop (i+1)) from by unfold pJ;simp [h]]
end
section
variable(G:Nat→ae)(X:Nat→List ae→ag→ah)
theorem nj(Q:ah→Prop)(L:List aT)(im:eZ)(x:aT)(a5:p4 x)(bN:L.length≤1000)(s S:ag)(f4:Child s S)(cb:gS S im L.length)(n1 v1 v6 e:ae)(i:Nat)(bL:i<131072)
  (cZ:∀S' g',Child s S'→gS S' g' (L++[x]).length→Q (kG (aV aL G X) n1 v1 (bp (L++[x]) g') v6 e (.int .i64 ((i+1:Nat):Int)) S')):
  Q (nW (aV aL G X) n1 v1 (bp L im) v6 e (.int .i64 (i:Int)) (.ref (.l S.own.length) 0) (S.new (.cells x.cs))):=by
 rw[Ds,b1 12 x.cs (show 12≤x.cs.length from aD 12)];have h:∀(S:ag) (K:bd),(aV aL G X).a9 S K 12 [.agg (x.cs.take 12)]=K (.bW 12 [x.enc] .exact) S:=fun S K=>by refine jX 12 [x.enc] ?_ rfl;show(x.enc.bc&&true)=true;rw[a5.bc];rfl
 rw[h];refine w8 Q (new:=[x.enc]) (by rw[ep];exact cb.new _) (by simp) (by simp;omega) rfl (fun g2 r u ar av bV y=>?_);rw[tS,hT i (by omega)]
 have:=cZ r g2 (y.child (f4.new _)) (by simpa using u);rw[show bp (L++[x]) g2=.bW 12 (L.map aT.enc++[x.enc]) g2 from by simp [bp]] at this;exact this
def Sr:List ae:=[.str [],.int .i64 0,.bW 1 [] .nil,.bool false,.bW 1 [] .nil,.bool false,.bW 1 [] .nil,.bool false,.bW 1 [] .nil,.bool false,.bW 1 [] .nil,.int .i64 0]
theorem D7(dV:G 0=.bh iT)(Q:ah→Prop)(L:List aT)(im N:eZ)(bN:L.length≤1000)(s S:ag)(sw:Nat)(p:uR)(fz:p.Sj)(h7:Mm s S im L.length sw p)(n1 v1:ae)(i gq roots:Nat)(bL:i<131072)(op:Int)(b:Bool)(A:List Int)(U:gS S N A.length)(ai:A.length≤3)(ak:gq≤8)(am:roots≤3)
  (k1:op=1→∀iC bT qL pU S' g',iC.Mb→bT.Mb→qL.Mb→pU.Mb→oX iC→oX bT→oX qL→oX pU→iY iC bT=true→iY qL pU=true→Child s S'→gS S' g' (L++[aT.mk (115::eL i) op [] .nil iC bT qL pU 0]).length→Q (kG (aV aL G X) n1 v1 (bp (L++[aT.mk (115::eL i) op [] .nil iC bT qL pU 0]) g') (.int .i64 ((gq+2:Nat):Int)) (.int .i64 (roots:Int)) (.int .i64 ((i+1:Nat):Int)) S'))
  (qb:op=2→∀iC bT S' g',iC.Mb→bT.Mb→oX iC→oX bT→iY iC bT=true→Child s S'→gS S' g' (L++[aT.mk (115::eL i) op A (gw A) iC bT ni ni 0]).length→Q (kG (aV aL G X) n1 v1 (bp (L++[aT.mk (115::eL i) op A (gw A) iC bT ni ni 0]) g') (.int .i64 ((gq+1:Nat):Int)) (.int .i64 (roots:Int)) (.int .i64 ((i+1:Nat):Int)) S'))
  (V:op≠1→op≠2→b=true→∀nD S' g',(nD=1∨nD=2)→Child s S'→gS S' g' (L++[aT.mk (115::eL i) op A (gw A) ni ni ni ni nD]).length→Q (kG (aV aL G X) n1 v1 (bp (L++[aT.mk (115::eL i) op A (gw A) ni ni ni ni nD]) g') (.int .i64 (gq:Int)) (.int .i64 ((roots+1:Nat):Int)) (.int .i64 ((i+1:Nat):Int)) S'))
  (Y:op≠1→op≠2→b=false→∀S' g',Child s S'→gS S' g' (L++[aT.mk (115::eL i) op A (gw A) ni ni ni ni 0]).length→Q (kG (aV aL G X) n1 v1 (bp (L++[aT.mk (115::eL i) op A (gw A) ni ni ni ni 0]) g') (.int .i64 (gq:Int)) (.int .i64 (roots:Int)) (.int .i64 ((i+1:Nat):Int)) S')):
  Q (pD (aV aL G X) n1 v1 (bp L im) (.int .i64 (gq:Int)) (.int .i64 (roots:Int)) (.int .i64 (i:Int)) (.ref (.l sw) 0) (I op) (.bool b) (iS A N) S):=by
 have NC:∀(S:ag) (K:bd),(aV aL G X).gR S K 19 [.int .i64 (i:Int)]=K (.str (eL i)) S:=fun S K=>lv rfl (YO G X dV i bL L9) rfl
 have cat:∀(S:ag) (K:bd),(aV aL G X).aj S K (al .add (.str [115]) (.str (eL i)))=K (.str (115::eL i)) S:=fun S K=>by
  have an:=L8 bL;have e:al .add (.str [115]) (.str (eL i))=some (.str (115::eL i)):=by show(if Nat.ble ([115].length+(eL i).length) 1099511627776 then some (ae.str ([115]++eL i)) else none)=_;rw[show Nat.ble ([115].length+(eL i).length) 1099511627776=true from et (by simp;omega)];rfl
  rw[e];rfl
 have Z:∀(S:ag) (K:bd) (a:ae),(aV aL G X).ih [.str [],.int .i64 0,.bW 1 [] .nil,.bool false,.bW 1 [] .nil,.bool false,.bW 1 [] .nil,.bool false,.bW 1 [] .nil,.bool false,.bW 1 [] .nil,.int .i64 0] [(0,1,.str (115::eL i)),(1,1,I op)] S K=K (.agg [.str (115::eL i),I op,.bW 1 [] .nil,.bool false,.bW 1 [] .nil,.bool false,.bW 1 [] .nil,.bool false,.bW 1 [] .nil,.bool false,.bW 1 [] .nil,.int .i64 0]) S:=fun S K a=>rfl
 have F:∀(cs:List ae) (K:bd) (o:Nat) (c:ae),p.cs[o]? =some c→(aV aL G X).aw (S.new (.cells cs)) K none (.ref (.l sw) o)=K c (S.new (.cells cs)):=fun cs K o c h=>iN (h7.new _).aee h
 have w:=He U;have H:∀a,gw A≠.dx a:=fun a e=>by unfold gw at e;split at e<;> cases e
 have J:∀d,ae.ap d (iS A (gw A))=iS A (gw A):=fun d=>by show ae.bW 1 _ ((gw A).ap d)=_;rw[qP H]
 have Sh:A.length<9223372036854775807:=by omega
 rw[Dt,az,NC,cat,Z _ _ .dead,cI,ba,cQ 12 _ _ rfl rfl rfl,bJ];by_cases ar:op=1
 ·rw[dQ ar,ek];obtain⟨B,aa,iC,bT,ex,r⟩:=AH G X p.x fz.x;obtain⟨O,ao,qL,pU,ab,u⟩:=AH G X p.y fz.y;have rx:B.bc=true:=by
   rw[r.v];simp -implicitDefEqProofs only[ae.bc,ae.aZ,h0.v,j9 r.BN.g,j9 r.gU.g,bz]
  have ac:O.bc=true:=by rw[u.v];simp -implicitDefEqProofs only[ae.bc,ae.aZ,h0.v,j9 u.BN.g,j9 u.gU.g,bz]
  have M:∀(S:ag) (K:bd),(aV aL G X).gR S K 36 [I p.x]=K B S:=fun S K=>lv rfl ex rx
  have ad:∀(S:ag) (K:bd),(aV aL G X).gR S K 36 [I p.y]=K O S:=fun S K=>lv rfl ab ac
  rw[aI,F _ _ (0+4) (I p.x) rfl,az,M,aI,r.v,ba];refine(congrArg Q ((oF G X 4 3 (.agg [.bool iC.neg,iC.v,.bool bT.neg,bT.v]) rfl rfl (by simp) rfl:(aV aL G X).bX (S.new (.cells [.str (115::eL i),I op,.bW 1 [] .nil,.bool false,.bW 1 [] .nil,.bool false,.bW 1 [] .nil,.bool false,.bW 1 [] .nil,.bool false,.bW 1 [] .nil,.int .i64 0])) _ 4 (.ref (.l S.own.length) (0+3)) _=_))).mpr ?_;rw[aI];show Q ((aV aL G X).aw (S.new (.cells [.str (115::eL i),I op,.bW 1 [] .nil,.bool iC.neg,iC.v,.bool bT.neg,bT.v,.bool false,.bW 1 [] .nil,.bool false,.bW 1 [] .nil,.int .i64 0])) _ none (.ref (.l sw) (0+5)));rw[F _ _ (0+5) (I p.y) rfl,az,ad,aI,u.v,ba];refine(congrArg Q ((oF G X 4 7 (.agg [.bool qL.neg,qL.v,.bool pU.neg,pU.v]) rfl rfl (by simp) rfl:(aV aL G X).bX (S.new (.cells [.str (115::eL i),I op,.bW 1 [] .nil,.bool iC.neg,iC.v,.bool bT.neg,bT.v,.bool false,.bW 1 [] .nil,.bool false,.bW 1 [] .nil,.int .i64 0])) _ 4 (.ref (.l S.own.length) (0+7)) _=_))).mpr ?_;rw[show∀(S:ag) (K:bd),(aV aL G X).aj S K (al .add (.int .i64 (gq:Int)) (.int .i64 2))=K (.int .i64 ((gq+2:Nat):Int)) S from fun S K=>iw gq 2 (by omega)];refine nj G X Q L im ⟨115::eL i,op,[],.nil,iC,bT,qL,pU,0⟩ ⟨fun a e=>(by cases e),by simp,r.BN,r.gU,u.BN,u.gU⟩ bN s S h7.Zb h7.qp n1 v1 _ _ i bL (fun S' g' aY cb=>?_);exact k1 ar iC bT qL pU S' g' r.ad8 r.kr u.ad8 u.kr r.BN r.gU u.BN u.gU r.valid u.valid aY cb
 ·rw[cA ar,ee,bJ];by_cases av:op=2
  ·rw[dQ av,ek];obtain⟨B,aa,iC,bT,ex,r⟩:=AH G X p.x fz.x;have rx:B.bc=true:=by
    rw[r.v];simp -implicitDefEqProofs only[ae.bc,ae.aZ,h0.v,j9 r.BN.g,j9 r.gU.g,bz]
   have M:∀(S:ag) (K:bd),(aV aL G X).gR S K 36 [I p.x]=K B S:=fun S K=>lv rfl ex rx
   rw[aI,w,J];refine(congrArg Q ((oF G X 1 2 (iS A (gw A)) rfl rfl (by simp) rfl:(aV aL G X).bX (S.new (.cells [.str (115::eL i),I op,.bW 1 [] .nil,.bool false,.bW 1 [] .nil,.bool false,.bW 1 [] .nil,.bool false,.bW 1 [] .nil,.bool false,.bW 1 [] .nil,.int .i64 0])) _ 1 (.ref (.l S.own.length) (0+2)) _=_))).mpr ?_;rw[aI];show Q ((aV aL G X).aw (S.new (.cells [.str (115::eL i),I op,iS A (gw A),.bool false,.bW 1 [] .nil,.bool false,.bW 1 [] .nil,.bool false,.bW 1 [] .nil,.bool false,.bW 1 [] .nil,.int .i64 0])) _ none (.ref (.l sw) (0+4)));rw[F _ _ (0+4) (I p.x) rfl,az,M,aI,r.v,ba];refine(congrArg Q ((oF G X 4 3 (.agg [.bool iC.neg,iC.v,.bool bT.neg,bT.v]) rfl rfl (by simp) rfl:(aV aL G X).bX (S.new (.cells [.str (115::eL i),I op,iS A (gw A),.bool false,.bW 1 [] .nil,.bool false,.bW 1 [] .nil,.bool false,.bW 1 [] .nil,.bool false,.bW 1 [] .nil,.int .i64 0])) _ 4 (.ref (.l S.own.length) (0+3)) _=_))).mpr ?_;rw[show∀(S:ag) (K:bd),(aV aL G X).aj S K (al .add (.int .i64 (gq:Int)) (.int .i64 1))=K (.int .i64 ((gq+1:Nat):Int)) S from fun S K=>iw gq 1 (by omega)];refine nj G X Q L im ⟨115::eL i,op,A,gw A,iC,bT,ni,ni,0⟩ ⟨H,Sh,r.BN,r.gU,il,il⟩ bN s S h7.Zb h7.qp n1 v1 _ _ i bL (fun S' g' aY cb=>?_);exact qb av iC bT S' g' r.ad8 r.kr r.BN r.gU r.valid aY cb
  ·rw[cA av,ee];cases b with
   |true=>
    have aq:=mj (x:=p.nD) (n:=2) (by omega);have yf:=fun s=>sv G X p.nD 2 (by omega) fz.nD s
    have af:IntKind.wrap .i64 (1+gC p.nD 2)=1+gC p.nD 2:=eP _ (by omega) (by omega);rw[ek,aI,w,J];refine(congrArg Q ((oF G X 1 2 (iS A (gw A)) rfl rfl (by simp) rfl:(aV aL G X).bX (S.new (.cells [.str (115::eL i),I op,.bW 1 [] .nil,.bool false,.bW 1 [] .nil,.bool false,.bW 1 [] .nil,.bool false,.bW 1 [] .nil,.bool false,.bW 1 [] .nil,.int .i64 0])) _ 1 (.ref (.l S.own.length) (0+2)) _=_))).mpr ?_;rw[aI];show Q ((aV aL G X).aw (S.new (.cells [.str (115::eL i),I op,iS A (gw A),.bool false,.bW 1 [] .nil,.bool false,.bW 1 [] .nil,.bool false,.bW 1 [] .nil,.bool false,.bW 1 [] .nil,.int .i64 0])) _ none (.ref (.l sw) (0+6)));rw[F _ _ (0+6) (I p.nD) rfl,az,az,a8 (yf _),fp,af,aI,az];refine(congrArg Q ((oF G X 1 11 (I (1+gC p.nD 2)) rfl rfl (by simp) rfl:(aV aL G X).bX (S.new (.cells [.str (115::eL i),I op,iS A (gw A),.bool false,.bW 1 [] .nil,.bool false,.bW 1 [] .nil,.bool false,.bW 1 [] .nil,.bool false,.bW 1 [] .nil,.int .i64 0])) _ 1 (.ref (.l S.own.length) (0+11)) _=_))).mpr ?_;rw[show∀(S:ag) (K:bd),(aV aL G X).aj S K (al .add (.int .i64 (roots:Int)) (.int .i64 1))=K (.int .i64 ((roots+1:Nat):Int)) S from fun S K=>iw roots 1 (by omega)];refine nj G X Q L im ⟨115::eL i,op,A,gw A,ni,ni,ni,ni,1+gC p.nD 2⟩ ⟨H,Sh,il,il,il,il⟩ bN s S h7.Zb h7.qp n1 v1 _ _ i bL (fun S' g' aY cb=>?_);exact V ar av rfl _ S' g' (by omega) aY cb
   |false=>rw[ee,aI,w,J];refine(congrArg Q ((oF G X 1 2 (iS A (gw A)) rfl rfl (by simp) rfl:(aV aL G X).bX (S.new (.cells [.str (115::eL i),I op,.bW 1 [] .nil,.bool false,.bW 1 [] .nil,.bool false,.bW 1 [] .nil,.bool false,.bW 1 [] .nil,.bool false,.bW 1 [] .nil,.int .i64 0])) _ 1 (.ref (.l S.own.length) (0+2)) _=_))).mpr ?_;refine nj G X Q L im ⟨115::eL i,op,A,gw A,ni,ni,ni,ni,0⟩ ⟨H,Sh,il,il,il,il⟩ bN s S h7.Zb h7.qp n1 v1 _ _ i bL (fun S' g' aY cb=>?_);exact Y ar av rfl S' g' aY cb
end
theorem YS(op:Int)(A:List Int):pJ op A=1∨(pJ op A=op∧∀a,a∈A→0≤a):=by
 unfold pJ;by_cases h:A.any (fun a=>decide (a<0))=true
 ·rw[if_pos h];exact .inl rfl
 ·rw[if_neg h];refine .inr ⟨rfl,fun a e=>?_⟩
  have:=List.any_eq_false.1 (Bool.eq_false_iff.2 h) a e;simp at this;omega
theorem sx{α:Type}(A:List α):∀a,gw A≠.dx a:=fun a e=>by unfold gw at e;split at e<;> cases e
section
variable(G:Nat→ae)(X:Nat→List ae→ag→ah)
theorem D8(dV:G 0=.bh iT)(Q:ah→Prop)(L:List aT)(im H:eZ)(bN:L.length≤40)(s S:ag)(sw:Nat)(p:uR)(fz:p.Sj)(h7:Mm s S im L.length sw p)(n1 v1:ae)(i gq roots:Nat)(bL:i<131072)(r:Int)(aE:1≤r∧r≤16)
  (y:D4 L gq roots i)(am:gS S H (eW L (gi r) [p.a,p.b,p.c]).length)
  (cZ:∀K ad ai S' g',D4 K ad ai (i+1)→K.length≤L.length+1→Child s S'→gS S' g' K.length→Q (kG (aV aL G X) n1 v1 (bp K g') (.int .i64 (ad:Int)) (.int .i64 (ai:Int)) (.int .i64 ((i+1:Nat):Int)) S')):
  Q (se (aV aL G X) n1 v1 (bp L im) (.int .i64 (gq:Int)) (.int .i64 (roots:Int)) (.int .i64 (i:Int)) (.ref (.l sw) 0) (I (pJ r (eW L (gi r) [p.a,p.b,p.c]))) (.bool (iX r)) (iS (eW L (gi r) [p.a,p.b,p.c]) H) S):=by
 have M:=y.rt;have O:=y.aed;have an:=y0 r;have F:(eW L (gi r) [p.a,p.b,p.c]).length=(gi r).length:=oG _ _ _ (by simpa using an);have ao:∀o,o∈L→hi o.op≠0:=fun o h=>RW (l:=L) (pre:=L) (rest:=[]) (by simp) y.wf o h
 have U:=YS r (eW L (gi r) [p.a,p.b,p.c]);have V:pJ r (eW L (gi r) [p.a,p.b,p.c])≠1→jD L (gi r) (eW L (gi r) [p.a,p.b,p.c])=true:=fun h=>by
  rcases U with e|⟨_,e⟩
  ·exact absurd e h
  ·exact D6 ao _ _ e
 have Y:pJ r (eW L (gi r) [p.a,p.b,p.c])≠1→pJ r (eW L (gi r) [p.a,p.b,p.c])=r:=fun h=>by
  rcases U with e|⟨e,_⟩
  ·exact absurd e h
  ·exact e
 have aF:1≤pJ r (eW L (gi r) [p.a,p.b,p.c]):=by rcases U with e|⟨e,_⟩<;> omega
 generalize aG:eW L (gi r) [p.a,p.b,p.c]=A at *;generalize aH:pJ r A=op at *;have aI:A.length≤3:=by omega
 have skip:Q (pC (aV aL G X) n1 v1 (bp L im) (.int .i64 (gq:Int)) (.int .i64 (roots:Int)) (.int .i64 (i:Int)) S):=by rw[tS,hT i (by omega)];exact cZ L gq roots S im y.later (by omega) h7.Zb h7.qp
 have go:(iX r=true→roots≠3)→(op≤2→gq≤6)→Q (pD (aV aL G X) n1 v1 (bp L im) (.int .i64 (gq:Int)) (.int .i64 (roots:Int)) (.int .i64 (i:Int)) (.ref (.l sw) 0) (I op) (.bool (iX r)) (iS A H) S):=fun J N=>by
  refine D7 G X dV Q L im H (by omega) s S sw p fz h7 n1 v1 i gq roots bL op (iX r) A am (by omega) O M ?_ ?_ ?_ ?_
  ·intro ar iC bT qL pU S' g' dH Z ap aq aa ab au aw pY q6 aY cb;subst ar;have N:=N (by omega);refine cZ _ _ _ S' g' (y.snoc bL (aT.mk (115::eL i) 1 [] .nil iC bT qL pU 0) (by show(1:Int)≤1∧(1:Int)≤16;omega) rfl rfl rfl rfl ?_ ⟨fun a e=>(by cases e),by simp,aa,ab,au,aw⟩ ⟨dH,Z,ap,aq⟩ ?_ ?_ ?_ M) (by simp) aY cb
   ·show(iY iC bT&&iY qL pU)=true;rw[pY,q6];rfl
   ·show gq+2≤gq+2;omega
   ·omega
   ·show roots+0≤roots;omega
  ·intro av iC bT S' g' dH Z aa ab pY aY cb;have eR:op≠1:=by omega
   have N:=N (by omega);have e:=Y eR;have B:=V eR;subst av;rw[←e] at B F;refine cZ _ _ _ S' g' (y.snoc bL (aT.mk (115::eL i) 2 A (gw A) iC bT ni ni 0) (by show(1:Int)≤2∧(2:Int)≤16;omega) rfl B F.symm rfl ?_ ⟨sx A,(by show A.length<_;omega),aa,ab,il,il⟩ ⟨dH,Z,nB,nB⟩ ?_ ?_ ?_ M) (by simp) aY cb
   ·show(iY iC bT&&l7 ni ni)=true;rw[pY];rfl
   ·show gq+1≤gq+1;omega
   ·omega
   ·show roots+0≤roots;omega
  ·intro ar av u nD S' g' ax aY cb;have e:=Y ar;have B:=V ar;have J:=J u;rw[←e] at B F u;refine cZ _ _ _ S' g' (y.snoc bL (aT.mk (115::eL i) op A (gw A) ni ni ni ni nD) (by show 1≤op∧op≤16;omega) rfl B F.symm ?_ ?_ ⟨sx A,(by show A.length<_;omega),il,il,il,il⟩ ⟨nB,nB,nB,nB⟩ ?_ O ?_ ?_) (by simp) aY cb
   ·unfold w1;rw[if_pos u];exact dQ ax
   ·unfold tY;rw[if_neg ar,if_neg av];rfl
   ·show gq+(if op=1 then 2 else if op=2 then 1 else 0)≤gq;rw[if_neg ar,if_neg av];omega
   ·show roots+(if iX op=true then 1 else 0)≤roots+1;rw[if_pos u];omega
   ·omega
  ·intro ar av u S' g' aY cb;have e:=Y ar;have B:=V ar;rw[←e] at B F u;have ak:¬iX op=true:=by rw[u];simp
   refine cZ _ _ _ S' g' (y.snoc bL (aT.mk (115::eL i) op A (gw A) ni ni ni ni 0) (by show 1≤op∧op≤16;omega) rfl B F.symm ?_ ?_ ⟨sx A,(by show A.length<_;omega),il,il,il,il⟩ ⟨nB,nB,nB,nB⟩ ?_ O ?_ M) (by simp) aY cb
   ·unfold w1;rw[if_neg ak];rfl
   ·unfold tY;rw[if_neg ar,if_neg av];rfl
   ·show gq+(if op=1 then 2 else if op=2 then 1 else 0)≤gq;rw[if_neg ar,if_neg av];omega
   ·show roots+(if iX op=true then 1 else 0)≤roots;rw[if_neg ak];omega
 have rest:(iX r=true→roots≠3)→Q ((aV aL G X).af (.bool false) false (fun k=>k (I op) S) S (fun ay s=>(aV aL G X).af (.bool false) false (fun k=>(aV aL G X).aj s k (al .leq ay (.int .i64 2))) s (fun az s=>(aV aL G X).af (.bool false) false (fun k=>k az s) s (fun ac s=>(aV aL G X).af ac true (fun k=>k (.int .i64 (gq:Int)) s) s (fun aA s=>(aV aL G X).af ac true (fun k=>(aV aL G X).aj s k (al .gtr aA (.int .i64 6))) s (fun aB s=>(aV aL G X).af (.bool false) false (fun k=>(aV aL G X).bS s k ac aB (.bool false)) s (fun aC s=>(aV aL G X).bS s (fun aD s=>(aV aL G X).aP aD (pC (aV aL G X) n1 v1 (bp L im) (.int .i64 (gq:Int)) (.int .i64 (roots:Int)) (.int .i64 (i:Int)) s) (pD (aV aL G X) n1 v1 (bp L im) (.int .i64 (gq:Int)) (.int .i64 (roots:Int)) (.int .i64 (i:Int)) (.ref (.l sw) 0) (I op) (.bool (iX r)) (iS A H) s)) (.bool false) (.bool true) aC))))))):=fun J=>by
  simp -implicitDefEqProofs only[eV,c0];by_cases av:op≤2
  ·simp -implicitDefEqProofs only[dQ av,fU,eV,bZ];by_cases bV:(6:Int)<(gq:Int)
   ·simp -implicitDefEqProofs only[dQ bV,fD,eY,ek];exact skip
   ·simp -implicitDefEqProofs only[cA bV,fD,eY,ee];exact go J (fun _=>by omega)
  ·simp -implicitDefEqProofs only[cA av,gB,b3,eV,fD,eY,ee];exact go J (fun h=>absurd h av)
 rw[Du];cases u:iX r with
 |true=>
  rw[u] at rest;simp -implicitDefEqProofs only[fU,bJ];by_cases bV:(roots:Int)=3
  ·simp -implicitDefEqProofs only[dQ bV,fD,hg,b3,ek];exact skip
  ·simp -implicitDefEqProofs only[cA bV,fD];exact rest (fun _ e=>bV (by omega))
 |false=>rw[u] at rest;simp -implicitDefEqProofs only[gB,b3,eY];exact rest (fun e=>by cases e)
end
theorem Zs(L:List aT)(h:∀x,x∈L→p4 x):ae.aZ (L.map aT.enc)=true:=by
 induction L with
 |nil=>rfl
 |cons x L e=>show(x.enc.bc&&ae.aZ (L.map aT.enc))=true;rw[(h x List.mem_cons_self).bc,e (fun y eM=>h y (List.mem_cons_of_mem _ eM))];rfl
abbrev sy(eb:List uR)(g:eZ):ae:=.bW 7 (eb.map uR.enc) g
section
variable(G:Nat→ae)(X:Nat→List ae→ag→ah)
theorem Hh(dV:G 0=.bh iT)(Q:ah→Prop)(L:List aT)(im:eZ)(bN:L.length≤40)(s S:ag)(sw:Nat)(p:uR)(fz:p.Sj)(h7:Mm s S im L.length sw p)(n1 v1:ae)(i gq roots:Nat)(bL:i<131072)(r:Int)(J:1≤r∧r≤16)
  (M:D4 L gq roots i)
  (cZ:∀u A B S' g',D4 u A B (i+1)→u.length≤L.length+1→Child s S'→gS S' g' u.length→Q (kG (aV aL G X) n1 v1 (bp u g') (.int .i64 (A:Int)) (.int .i64 (B:Int)) (.int .i64 ((i+1:Nat):Int)) S')):
  Q (sf (aV aL G X) n1 v1 (bp L im) (.int .i64 (gq:Int)) (.int .i64 (roots:Int)) (.int .i64 (i:Int)) (.ref (.l sw) 0) (I r) S):=by
 have y:∀(K:bd) (o:Nat) (c:ae),p.cs[o]? =some c→(aV aL G X).aw S K none (.ref (.l sw) o)=K c S:=fun K o c h=>iN h7.aee h
 have zT:=fun s=>KC G X r s
 have e8:∀(S:ag) (K:bd),(aV aL G X).a9 S K 1 [I p.a,I p.b,I p.c]=K (iS [p.a,p.b,p.c] .exact) S:=fun S K=>rfl
 have F:=y0 r;have N:∀K:bd,(aV aL G X).ca S K 0 (oS r)=K (iS (gi r) (sr r)) S:=fun K=>ot _ _
 have O:∀K:bd,(aV aL G X).ca S K 1 (oS r)=K (I (hi r)) S:=fun K=>ou _ _ _
 have U:∀K:bd,(aV aL G X).ca S K 2 (oS r)=K (.bool (iX r)) S:=fun K=>vV _ _ _ _
 rw[F4,az,a8 (zT _),N,O,U,aI,y _ (0+1) (I p.a) rfl,aI,y _ (0+2) (I p.b) rfl,aI,y _ (0+3) (I p.c) rfl,e8];refine Hf G X Q L (by omega) im s sw p (gi r) [p.a,p.b,p.c] (sr r) .exact F (by omega) ?_ n1 v1 _ _ _ _ _ _ (fun S' H V Y=>?_) (gi r).length 0 (by omega) S .nil h7 .nil (fun j _ e=>by cases e)
 ·intro c aY;simp only[List.mem_cons,qv,or_false] at aY;rcases aY with rfl |rfl |rfl
  ·exact fz.a
  ·exact fz.b
  ·exact fz.c
 ·have Z:(eW L (gi r) [p.a,p.b,p.c]).length=(gi r).length:=oG _ _ _ (by simpa using F);rw[F3];refine(congrArg Q (Hg G X (eW L (gi r) [p.a,p.b,p.c]) H (by omega) _ _ _ _ _ _ _ _ S' (eW L (gi r) [p.a,p.b,p.c]).length 0 (by omega) r)).mpr ?_;exact D8 G X dV Q L im H bN s S' sw p fz V n1 v1 i gq roots bL r J M Y cZ
theorem Hi(dV:G 0=.bh iT)(eb:List uR)(B:eZ)(J:∀p,p∈eb→p.Sj)(ab:eb.length≤131072)(n:Nat)(dm:n≤40)(s:ag):∀(k i:Nat),i+k=eb.length→∀(L:List aT) (gq roots:Nat) (S:ag) (im:eZ),D4 L gq roots i→L.length≤n→Child s S→gS S im L.length→
  ∃(e:List aT) (h u hF:Nat),D4 e h u hF∧e.length≤n∧kG (aV aL G X) (sy eb B) (.int .i64 (n:Int)) (bp L im) (.int .i64 (gq:Int)) (.int .i64 (roots:Int)) (.int .i64 (i:Int)) S=.ok (bp e (gw e)) s:=by
 intro k
 induction k with
 |zero=>
  intro i bL L gq roots S im y bN f4 cb;refine⟨L,gq,roots,i,y,bN,?_⟩;rw[qN,aB,ep,be,cA (by omega)];simp -implicitDefEqProofs only[gB,b3,eY,ee];rw[tT]
  have:=oo (S:=S) (sz:=12) (es:=L.map aT.enc) (g:=im) (by simpa using cb) (Zs L y.ok);rw[s9] at this;exact gv f4 _ _ this
 |succ k M=>
  intro i bL L gq roots S im y bN f4 cb;have F:i<eb.length:=by omega
  have el:(L.map aT.enc).length=L.length:=ep ..;by_cases ac:L.length<n
  ·have N:(eb.map uR.enc)[i]? =some eb[i].enc:=by simp [F]
   have H:=J eb[i] (ml F);have ip:=fun(k:bd)=>DC G X S k 7 _ B .i64 i _ N
   generalize eb[i]=p at *;have O:∀K:bd,(aV aL G X).aw S K (some 7) (.bh p.enc.cells)=K (.agg p.cs) S:=fun K=>bk 7 p.cs (show 7≤p.cs.length from aD 7)
   have ad:=mj (x:=p.op) (n:=16) (by omega);have yf:=fun s=>sv G X p.op 16 (by omega) H.op s
   have U:IntKind.wrap .i64 (1+gC p.op 16)=1+gC p.op 16:=eP _ (by omega) (by omega);have h7:Mm s (S.new (.cells p.cs)) im L.length S.own.length p:=⟨f4.new _,cb.new _,by simp [ag.new]⟩;have fin:∀A:Int,1≤A∧A≤16→∃(e:List aT) (h u hF:Nat),D4 e h u hF∧e.length≤n∧sf (aV aL G X) (sy eb B) (.int .i64 (n:Int)) (bp L im) (.int .i64 (gq:Int)) (.int .i64 (roots:Int)) (.int .i64 (i:Int)) (.ref (.l S.own.length) 0) (I A) (S.new (.cells p.cs))=.ok (bp e (gw e)) s:=fun A V=>by refine Hh G X dV (fun r=>∃(e:List aT) (h u hF:Nat),D4 e h u hF∧e.length≤n∧r=.ok (bp e (gw e)) s) L im (by omega) s _ _ p H h7 _ _ i gq roots (by omega) A V y (fun e h u S' g' Y ae Z aa=>?_);exact M (i+1) (by omega) e h u S' g' Y (by omega) Z aa
   rw[qN,aB,ep,be,dQ (by omega)];simp -implicitDefEqProofs only[fU,aB,be,el];rw[dQ (show(L.length:Int)<(n:Int) by omega)];simp -implicitDefEqProofs only[fD,ek];rw[F5,ip,O,cI,ba,cQ 7 p.cs _ rfl rfl rfl,aI,iN h7.aee (show p.cs[0+0]? =some (I p.op) from rfl),az,az,a8 (yf _),fp,U,be];by_cases av:(i:Int)<2
   ·rw[dQ av,ek];exact fin 1 (by omega)
   ·rw[cA av,ee];exact fin _ (by omega)
  ·refine⟨L,gq,roots,i,y,bN,?_⟩;rw[qN,aB,ep,be,dQ (by omega)];simp -implicitDefEqProofs only[fU,aB,be,el];rw[cA (show¬(L.length:Int)<(n:Int) by omega)];simp -implicitDefEqProofs only[fD,ee];rw[tT]
   have:=oo (S:=S) (sz:=12) (es:=L.map aT.enc) (g:=im) (by simpa using cb) (Zs L y.ok);rw[s9] at this;exact gv f4 _ _ this
theorem RY(dV:G 0=.bh iT)(eb:List uR)(e:eZ)(r:∀p,p∈eb→p.Sj)(u:eb.length≤131072)(n:Nat)(dm:n≤40)(s:ag):∃(L:List aT) (g:eZ),hs L=0∧(∀x,x∈L→p4 x)∧L.length≤n∧(∀a,g≠.dx a)∧(∀x,x∈L→aeb x)∧aA aL G X 10 [sy eb e,.int .i64 (n:Int)] s=.ok (bp L g) s:=by have y:D4 [] 0 0 0:=⟨rfl,fun x h=>(by cases h),fun x h=>(by cases h),aD _,by omega,aD _,by omega,fun x h=>(by cases h)⟩;obtain⟨L,gq,roots,i,ar,av,bV⟩:=Hi G X dV eb e r u n dm s eb.length 0 (by omega) [] 0 0 s.ai .nil y (Nat.zero_le _) (.ai s) .nil;refine⟨L,gw L,ar.check (by omega),ar.ok,av,sx L,ar.agI,?_⟩;rw[LL,Ya];exact bV
theorem YT(dV:G 0=.bh iT)(eb:List uR)(e:eZ)(h:∀p,p∈eb→p.Sj)(r:eb.length≤131072)(n:Nat)(dm:n≤40)(s:ag):∃(L:List aT) (g:eZ),hs L=0∧(∀x,x∈L→p4 x)∧L.length≤n∧(∀a,g≠.dx a)∧aA aL G X 10 [sy eb e,.int .i64 (n:Int)] s=.ok (bp L g) s:=by obtain⟨L,g,ar,av,bV,dD,_,u⟩:=RY G X dV eb e h r n dm s;exact⟨L,g,ar,av,bV,dD,u⟩
end
end Go.gl
end
section
namespace Go.gl
open Go.Ab Go.hC
variable(G:Nat→ae)(X:Nat→List ae→ag→ah)
end Go.gl
end
section
namespace Go.gl
open Go.Ab Go.hC
section
variable{T:Nat→Option c4}{G:Nat→ae}{X:Nat→List ae→ag→ah}
def xa(S:ag)(g:eZ)(n:Nat):Prop:=(g=.nil∧n=0)∨∃t,g=.dx (.g S.aa t)∧0<n∧S.own[t]? =some (.tok n)
theorem qS{S:ag}{k:bd}{j o:Nat}{cs:List ae}{v:ae}(h:S.own[j]? =some (.cells cs))(e:o<cs.length)(bM:v.eB=true)(hw:v.cells=[v])(r:v.fa=true):(aV T G X).bX S k 1 (.ref (.l j) o) v=k .dead {S with own:=S.own.set j (.cells (cs.set o v))}:=by
 rw[kj];simp -implicitDefEqProofs only[fe,r,hw,bP,cB,bf,ft,bz,bH];unfold h1;have dH:S.get (.l j)=some (.cells cs):=h;have ed:S.gO (.l j) [v]=true:=by simp [ag.gO,ag.oZ]
 simp -implicitDefEqProofs only[dH,bP,cB,bf,show Nat.ble (o+1) cs.length=true from et e,ed,List.all_cons,bM,List.all_nil,bz,bH];rfl
theorem Hj{S:ag}{es new:List ae}{g g2:eZ}{q bytes:Nat}(cb:xa S g es.length)(dm:new≠[])(r:(es.length+new.length)*bytes≤1099511627776)(aY:(new.flatMap ae.cells).all ae.eB=true)(u:∀a,g2≠.dx a:=by intro a h;cases h):
  ∃g' F t,(∀k:bd,(aV T G X).fO S k q bytes (some (.l 0)) (.bW q es g) (.bW q new g2)=k (.bW q (es++new) g') {S with own:=F})∧g'.ap S.aa=.dx (.g S.aa t)∧F[t]? =some (.tok (es.length+new.length))∧S.own.length≤F.length∧
   (∀(j:Nat) (o:cU),S.own[j]? =some o→(∀n:Nat,o≠cU.tok n)→F[j]? =some o):=by
 have bs:∀k:bd,(aV T G X).fO S k q bytes (some (.l 0)) (.bW q es g) (.bW q new g2)=gj (gz G (aA T G X) bQ) S k q bytes (some (.l 0)) (.bW q es g) (.bW q new g2):=fun k=>qK ..
 cases new with
 |nil=>exact absurd rfl dm
 |cons c cs=>
  have iH:dv S (.bW q (c::cs) g2)=some (q,c::cs):=by cases g2<;> first|rfl |exact absurd rfl (u _)
  rcases cb with⟨rfl,A⟩|⟨t,rfl,lo,h⟩
  ·refine⟨.dx (.l S.own.length),S.own++[.tok (es.length+(c::cs).length)],S.own.length,fun k=>?_,rfl,by simp,by simp,fun j o h _=>?_⟩
   ·rw[bs];unfold gj;simp only;unfold hL;rw[iH];simp only[ft,eI];rw[show Nat.ble ((es.length+(c::cs).length)*bytes) 1099511627776=true from et r];simp only[bH,ag.hn];rfl
   ·rw[gm (ec.1 h).1];exact h
  ·have e:S.get (.g S.aa t)=some (.tok es.length):=by simp only[ag.get,↓reduceIte];exact h
   refine⟨.dx (.g S.aa t),S.own.set t (.tok (es.length+(c::cs).length)),t,fun k=>?_,rfl,by simp [(ec.1 h).1],by simp,fun j o cX y=>?_⟩
   ·rw[bs];unfold gj;simp only;unfold hL;rw[iH];simp only[ft,eI];rw[show Nat.ble ((es.length+(c::cs).length)*bytes) 1099511627776=true from et r];simp only[bH,e,ft,aY,bz];show(match S.set (.g S.aa t) (.tok (es.length+(c::cs).length)) with |some s=>k (.bW q (es++c::cs) (.dx (.g S.aa t))) s|none=>.fail)=_;simp only[ag.set,↓reduceIte]
   ·have:t≠j:=fun e=>by subst e;rw[h] at cX;injection cX with cX;exact y _ cX.symm
    rw[lL this];exact cX
end
section
variable(G:Nat→ae)(X:Nat→List ae→ag→ah)
theorem ael{s:ag}(n c x y:Int)(K:bd):(aV aL G X).aj s (fun e s=>(aV aL G X).af e true (fun k=>k (I c) s) s (fun r s=>(aV aL G X).af e true (fun k=>(aV aL G X).aj s k (al .eql r (.int .i64 y))) s (fun u s=>(aV aL G X).bS s (fun A s=>K A s) e u (.bool false)))) (al .eql (.int .i64 n) (.int .i64 x))=K (.bool (decide (n=x)&&decide (c=y))) s:=by
 rw[bJ];cases h:decide (n=x)
 ·simp -implicitDefEqProofs only[gB,b3,eY,gb]
 ·simp -implicitDefEqProofs only[fU,bJ,fD,eI]
end
end Go.gl
end
