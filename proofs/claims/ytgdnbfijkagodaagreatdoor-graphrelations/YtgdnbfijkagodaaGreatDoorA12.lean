/- A part of the proof: no condition. -/
import Derived.Test.YtgdnbfijkagodaaGreatDoorA8
import Derived.Test.YtgdnbfijkagodaaGreatDoorA9
import Derived.Test.YtgdnbfijkagodaaGreatDoorA10
import Derived.Test.YtgdnbfijkagodaaGreatDoorA11
import Derived.Test.YtgdnbfijkagodaaGreatDoorA7
set_option linter.unusedSectionVars false
set_option linter.unusedSimpArgs false
set_option linter.unusedVariables false
section
namespace Go.gR
open Go.Ab Go.hO
section
variable(G:Nat→ae)(X:Nat→List ae→ag→ah)
theorem aac{a:Nat}(h:a<33):gM G X a=true:=by
 match a,h with
 |0,_=>exact acS G X
 |1,_=>exact acT G X
 |2,_=>exact acU G X
 |3,_=>exact acV G X
 |4,_=>exact acW G X
 |5,_=>exact acX G X
 |6,_=>exact acY G X
 |7,_=>exact acZ G X
 |8,_=>exact ac0 G X
 |9,_=>exact ac1 G X
 |10,_=>exact abE G X
 |11,_=>exact abF G X
 |12,_=>exact abG G X
 |13,_=>exact abH G X
 |14,_=>exact abI G X
 |15,_=>exact abJ G X
 |16,_=>exact abK G X
 |17,_=>exact abL G X
 |18,_=>exact abM G X
 |19,_=>exact abN G X
 |20,_=>exact abO G X
 |21,_=>exact abP G X
 |22,_=>exact abQ G X
 |23,_=>exact abR G X
 |24,_=>exact abS G X
 |25,_=>exact abT G X
 |26,_=>exact abU G X
 |27,_=>exact abV G X
 |28,_=>exact abW G X
 |29,_=>exact abX G X
 |30,_=>exact abY G X
 |31,_=>exact abZ G X
 |32,_=>exact ab0 G X
 |n+33,h=>omega
theorem Vb{a b:Int}(r: -16≤a∧a≤16)(u:1≤b∧b≤4):∃v s' iw bQ,aP aR G X 46 [I a,I b] Js=.ok (.eb [v,I 0]) s'∧aab v iw bQ:=by have h:=aac G X (a:=(a+16).toNat) (by omega);unfold gM at h;rw[aU.zB] at h;have h:=List.all_eq_true.1 h (b-1).toNat (List.mem_range.2 (by omega));rw[show(((a+16).toNat:Nat):Int)-16=a by omega,show(((b-1).toNat:Nat):Int)+1=b by omega] at h;obtain⟨v,s',iw,bQ,ar,av⟩:=Ow h;exact⟨v,s',iw,bQ,mm aR G X (fun e=>by cases e) ar,av⟩
end
end Go.gR
end
section
namespace Go.gR
open Go.Ab
section
variable(G:Nat→ae)(X:Nat→List ae→ag→ah)
theorem oi{s:ag}{k:be}{cs:List ae}(n o:Nat)(v:ae)(bJ:v.ff=true)(dk:v.cells.length=n)(y:o+n≤cs.length)(a1:v.cells.all ae.eG=true):
  (a0 aR G X).cC (s.new (.cells cs)) k n (.ref (.l s.own.length) o) v=k .dead (s.new (.cells (dN cs o v.cells))):=by
 rw[kT];have dM:(s.new (.cells cs)).get (.l s.own.length)=some (.cells cs):=by simp [ag.get,ag.new]
 have e:Nat.ble (o+v.cells.length) cs.length=true:=eN (by omega);have h:Nat.beq v.cells.length n=true:=by rw[dk];exact gf n
 have r:(s.new (.cells cs)).ho (.l s.own.length) v.cells=true:=by simp [ag.ho,ag.oD]
 have u:(s.new (.cells cs)).set (.l s.own.length) (.cells (dN cs o v.cells))=some (s.new (.cells (dN cs o v.cells))):=by simp [ag.set,ag.new]
 simp only[fh,bJ,h,bC,bX];unfold ii;simp only[dM,e,r,a1,bC,bX];show(match (s.new (.cells cs)).set (.l s.own.length) (.cells (dN cs o v.cells)) with |some s=>k .dead s|none=>.fail)=_;rw[u]
theorem zu(n:Int)(dk: -9223372036854775808≤n∧n≤9223372036854775807):∃v s' iw bQ,aP aR G X 36 [I n] Js=.ok v s'∧aab v iw bQ:=by
 have J:=j7 (x:=n) (n:=33) (by omega);have K:=j7 (x:=n) (n:=4) (by omega);have e:=fun s=>oh G X n 33 (by omega) dk s
 have h:=fun s=>oh G X n 4 (by omega) dk s
 obtain⟨v,s',iw,bQ,gr,bJ⟩:=Vb G X (a:=f4 n 33-16) (b:=1+f4 n 4) (by omega) (by omega);have aQ:v.bb=true:=by rw[bJ.v];simp -implicitDefEqProofs only[ae.bb,ae.a7,hV.v,kX bJ.Ak.g,kX bJ.gN.g,bC]
 have r:IntKind.wrap .i64 (f4 n 33-16)=f4 n 33-16:=eK _ (by omega) (by omega);have u:IntKind.wrap .i64 (1+f4 n 4)=1+f4 n 4:=eK _ (by omega) (by omega);refine⟨v,Js,iw,bQ,?_,bJ⟩;rw[Jg,UG];have y:∀(S:ag) (k:be),(a0 aR G X).gn S k 46 [I (f4 n 33-16),I (1+f4 n 4)]=k (.eb [v,I 0]) S:=fun S k=>kk rfl gr (by simp [ae.bb,ae.a7,aQ])
 have nV:∀(S:ag) (k:be),(a0 aR G X).bH S k 0 (.eb [v,I 0])=k v S:=fun S k=>nd _ _
 have dM:∀(S:ag) (k:be),(a0 aR G X).bH S k 1 (.eb [v,I 0])=k (I 0) S:=fun S k=>nf _ _ _
 have fp:∀d,ae.ap d v=v:=fun d=>by rw[bJ.v];rfl
 rw[cI,aG,aG,bd (e _),fA,r,aG,aG,bd (h _),fl,u,aG,aG];refine(y _ _).trans ?_;rw[nV,dM,cI,fp]
 subst_vars
 obtain⟨A,Ak,gN,L,M,N⟩:=bJ;subst A;refine(cN 4 _ _ rfl rfl rfl).trans ?_;refine(bV 4 _ (by simp)).trans ?_;have B:∀S:ag,Ab.freeze S (.agg [.bool iw.neg,iw.v,.bool bQ.neg,bQ.v])=some (.agg [.bool iw.neg,iw.v,.bool bQ.neg,bQ.v]):=fun S=>by show(fC (ev S) [_,_,_,_]).map ae.agg=_;have eJ:=xR Ak.g S 1 (iw.pB.map U);have ar:=xR gN.g S 1 (bQ.pB.map U);have F:ev S iw.v=some iw.v:=eJ;have H:ev S bQ.v=some bQ.v:=ar;simp only[fC,F,H,show∀b,ev S (.bool b)=some (.bool b) from fun b=>rfl,f0,ep]
 refine(sv (T:=aR) (G:=G) (X:=X) (j:=0) (n:=4) (cs:=[.bool false,.cr 1 [] .nil,.bool false,.cr 1 [] .nil]) (vs:=[.bool iw.neg,iw.v,.bool bQ.neg,bQ.v]) rfl rfl rfl rfl).trans ?_;refine kl (s:=Js) ?_ _ _ (B _);exact⟨rfl,rfl⟩
end
structure ui where
 op:Int
 a:Int
 b:Int
 c:Int
 x:Int
 y:Int
 nl:Int
def ui.cs(p:ui):List ae:=[I p.op,I p.a,I p.b,I p.c,I p.x,I p.y,I p.nl]
def ui.enc(p:ui):ae:=.agg p.cs
def qs(n:Int):Prop:= -9223372036854775808≤n∧n≤9223372036854775807
structure ui.OI (p:ui):Prop where
 op:qs p.op
 a:qs p.a
 b:qs p.b
 c:qs p.c
 x:qs p.x
 y:qs p.y
 nl:qs p.nl
def mY:hV:=⟨false,[],.nil⟩
theorem ia:oz mY:=⟨fun a h=>(by cases h),fun x a9=>(by cases a9),(by show(0:Nat)<_;omega)⟩
theorem nk:mY.Ju:=⟨fun _=>rfl,Nat.zero_le _⟩
structure aad (x:a5):Prop where
 iw:x.iw.Ju
 bQ:x.bQ.Ju
 qk:x.qk.Ju
 pt:x.pt.Ju
theorem wh:∀(l pre:List a5) (x:a5),jx pre (l++[x])=(jx pre l&&wf (pre++l) x)
 |[],pre,x=>by simp [jx]
 |y::l,pre,x=>by rw[List.cons_append,jx,wh l,jx,p2,List.singleton_append,Bool.and_assoc]
theorem xX:∀(l:List a5) (i:Nat) (x:a5),(jN (l++[x]) i).length=(jN l i).length+(if x.op=1 then 2 else if x.op=2 then 1 else 0)
 |[],i,x=>by
  simp only[List.nil_append,jN,mA,uj,cx,bf];split
  ·rfl
  ·split<;> rfl
 |y::l,i,x=>by simp only[List.cons_append,jN,gu];rw[xX l];omega
structure CC (L:List a5) (gi roots i:Nat):Prop where
 wf:jx [] L=true
 ok:∀x,x∈L→qo x
 ac2:∀x,x∈L→aad x
 zw:zw L≤roots
 rt:roots≤3
 aae:(jN L 0).length≤gi
 aaf:gi≤8
 H5:∀x,x∈L→∃j,j<i∧x.name=115::eF j
theorem CC.check{L:List a5}{gi roots i:Nat}(h:CC L gi roots i)(bK:L.length≤40):iv L=0:=by have ar:=h.zw;have av:=h.rt;have bO:=h.aae;have dD:=h.aaf;unfold iv;rw[h.wf,bX,if_neg (by omega)]
theorem CC.later{L:List a5}{gi roots i:Nat}(h:CC L gi roots i):CC L gi roots (i+1):=
 ⟨h.wf,h.ok,h.ac2,h.zw,h.rt,h.aae,h.aaf,fun x a9=>let⟨j,ar,av⟩:=h.H5 x a9;⟨j,by omega,av⟩⟩
theorem Jv{w r:Int}(h:mC w r=true)(aQ:r=1∨r=2∨r=3):acc w r=true:=by
 unfold mC at h;unfold acc;simp only[Bool.or_eq_true,bm,b6] at h ⊢;rcases h with h|⟨ar,av⟩
 ·exact .inl h
 ·exact .inr ⟨ar,by omega⟩
theorem CD{L:List a5}(n2:∀o,o∈L→fE o.op≠0){w n:Int}(h:0≤ku L w n):sC L w (ku L w n)=true:=by
 unfold ku at h ⊢;by_cases eJ:(jd w L 0).length=0
 ·rw[if_pos eJ] at h;omega
 ·rw[if_neg eJ] at h ⊢;have fp:=j7 (x:=n) (n:=(jd w L 0).length) (by omega);have e:(f4 n (jd w L 0).length).toNat<(jd w L 0).length:=by omega
  have hm:(jd w L 0).getD (f4 n (jd w L 0).length).toNat 0∈jd w L 0:=by rw[List.getD_eq_getElem?_getD,eI e,Option.getD_some];exact m0 e
  generalize (jd w L 0).getD (f4 n (jd w L 0).length).toNat 0=a at *;obtain⟨j,x,ar,av,bO⟩:=xW w L 0 a hm;rw[bf] at ar;have r:=(eA.1 av).1;have e3:=n2 x (List.mem_of_getElem? av);have aQ:=CA x.op;unfold sC;subst ar;rw[Int.toNat_natCast,av];simp only[bm,b6];exact⟨⟨by omega,by omega⟩,Jv bO (by omega)⟩
def eU(L:List a5)(ws cs:List Int):List Int:=List.zipWith (ku L) ws cs
theorem CE{L:List a5}(n2:∀o,o∈L→fE o.op≠0):∀(ws cs:List Int),(∀a,a∈eU L ws cs→0≤a)→hQ L ws (eU L ws cs)=true
 |[],_,_=>by simp [eU,hQ]
 |_::_,[],_=>by simp [eU,hQ]
 |w::ws,c::cs,h=>by simp only[eU,List.zipWith_cons_cons] at h ⊢;rw[hQ,bm];exact⟨CD n2 (h _ List.mem_cons_self),CE n2 ws cs (fun a e=>h a (List.mem_cons_of_mem _ e))⟩
theorem xY(op:Int):(gq op).length≤3:=by
 have c:∀(p:Prop) [Decidable p] (a b:List Int),a.length≤3→b.length≤3→(if p then a else b).length≤3:=fun p _ a b ar av=>by
  by_cases h:p
  ·rw[if_pos h];exact ar
  ·rw[if_neg h];exact av
 unfold gq
 repeat (refine c _ _ _ (by decide) ?_)
 decide
theorem Jw{L:List a5}{i:Nat}(bY:i<131072)(h:∀x,x∈L→∃j,j<i∧x.name=115::eF j)(x:a5)(a9:x.name=115::eF i):oe L x=false:=by
 unfold oe;rw[List.any_eq_false];intro o r;obtain⟨j,ar,av⟩:=h o r;rw[a9,av];simp only[List.cons.injEq,true_and,b6];intro e
 have:=Jp (by omega) bY e;omega
theorem CC.snoc{L:List a5}{gi roots e r i:Nat}(h:CC L gi roots i)(bY:i<131072)(x:a5)(K:1≤x.op∧x.op≤16)(u:x.name=115::eF i)(A:hQ L (gq x.op) x.args=true)(qh:(gq x.op).length=x.args.length)(B:v9 x.op x.nl=true)(F:tt x=true)(dd:qo x)(H:aad x)
  (M:gi+(if x.op=1 then 2 else if x.op=2 then 1 else 0)≤e)(I:e≤8)(N:roots+(if iD x.op=true then 1 else 0)≤r)(J:r≤3):CC (L++[x]) e r (i+1):=by
 refine⟨?_,fun y eQ=>?_,fun y eQ=>?_,?_,J,?_,I,fun y eQ=>?_⟩
 ·rw[wh,h.wf,er,List.nil_append];unfold Go.gR.wf;have e3:fE x.op≠0:=by
   unfold fE
   repeat' split
   all_goals omega
  rw[A,B,F,Jw bY h.H5 x u];simp [e3,qh,u]
 ·rcases List.mem_append.1 eQ with eQ|eQ
  ·exact h.ok y eQ
  ·rw[List.mem_singleton.1 eQ];exact dd
 ·rcases List.mem_append.1 eQ with eQ|eQ
  ·exact h.ac2 y eQ
  ·rw[List.mem_singleton.1 eQ];exact H
 ·rw[Cw]
  have:=h.zw;omega
 ·rw[xX]
  have:=h.aae;omega
 ·rcases List.mem_append.1 eQ with eQ|eQ
  ·obtain⟨j,ar,av⟩:=h.H5 y eQ;exact⟨j,by omega,av⟩
  ·rw[List.mem_singleton.1 eQ];exact⟨i,by omega,u⟩
end Go.gR
end
section
namespace Go.gR
open Go.Ab Go.hO
theorem wi{T:Nat→Option c0}{G:Nat→ae}{X:Nat→List ae→ag→ah}{k:be}(Q:ah→Prop){S:ag}{es new:List ae}{g g2:e2}{q bytes:Nat}(cB:gY S g es.length)(dk:new≠[])(r:(es.length+new.length)*bytes≤1099511627776)(a1:(new.flatMap ae.cells).all ae.eG=true)
  (dc:∀g' S',gY S' g' (es.length+new.length)→g'≠.nil→(g≠.nil→g'=g)→(g=.nil→g'=.dt (.l S.own.length))→Grown S S' g→Q (k (.cr q (es++new) g') S'))(u:∀a,g2≠.dt a:=by intro a h;cases h):
  Q ((a0 T G X).f8 S k q bytes (some (.l 0)) (.cr q es g) (.cr q new g2)):=by
 by_cases hex:∃g' S',gY S' g' (es.length+new.length)∧g'≠.nil∧(g≠.nil→g'=g)∧(g=.nil→g'=.dt (.l S.own.length))∧Grown S S' g∧(a0 T G X).f8 S k q bytes (some (.l 0)) (.cr q es g) (.cr q new g2)=k (.cr q (es++new) g') S'
 ·obtain⟨g',S',ar,av,bO,dD,y,A⟩:=hex;rw[A];exact dc g' S' ar av bO dD y
 ·exfalso;apply hex;rw[qj];unfold f7;simp only;unfold hG;rw[show dG S (.cr q new g2)=some (q,new) from by cases g2<;> first|rfl |exact absurd rfl (u _)];simp only[gf,er];rw[show Nat.ble ((es.length+new.length)*bytes) 1099511627776=true from eN r];simp only[bX];cases new with
  |nil=>exact absurd rfl dk
  |cons c cs=>
   rcases cB.inv with⟨rfl,B⟩|⟨j,rfl,kB,h⟩
   ·simp only[ag.hd];refine⟨.dt (.l S.own.length),S.new (.tok (es.length+(c::cs).length)),.dt _ _ (by simp;omega) ?_,by simp,fun h=>absurd rfl h,fun _=>rfl,⟨rfl,rfl,?_,fun j o h _=>?_⟩,rfl⟩
    ·simp [ag.new]
    ·simp [ag.new]
    ·simp only[ag.new];rw[ha (eA.1 h).1];exact h
   ·have e:S.get (.l j)=some (.tok es.length):=h;simp only[e,gf,a1,bC,bX];refine⟨.dt (.l j),{S with own:=S.own.set j (.tok (es.length+(c::cs).length))},.dt _ _ (by simp;omega) ?_,by simp,fun _=>rfl,fun h=>by simp at h,⟨rfl,rfl,by simp,fun i o bY e3=>?_⟩,?_⟩
    ·simp [(eA.1 h).1]
    ·have:j≠i:=fun e=>e3 (by rw[e])
     simp only;rw[nm this];exact bY
    ·show(match S.set (.l j) (.tok (es.length+(c::cs).length)) with |some s=>k (.cr q (es++c::cs) (.dt (.l j))) s|none=>.fail)=_;simp only[ag.set]
structure JF (s S:ag) (ic:e2) (n qt:Nat) (p:ui):Prop where
 JE:Child s S
 ps:gY S ic n
 aag:S.own[qt]? =some (.cells p.cs)
theorem JF.new{s S:ag}{ic:e2}{n qt:Nat}{p:ui}(h:JF s S ic n qt p)(o:dp):JF s (S.new o) ic n qt p:=
 ⟨h.JE.new o,h.ps.new o,by simp only[ag.new];rw[ha (eA.1 h.aag).1];exact h.aag⟩
theorem JF.grown{s S S':ag}{ic lm:e2}{n m qt:Nat}{p:ui}(h:JF s S ic n qt p)(r:gY S lm m)(u:∀j,ic=.dt (.l j)→lm≠.dt (.l j))(cB:Grown S S' lm):JF s S' ic n qt p:=
 ⟨cB.child h.JE,cB.grow h.ps u,cB.own _ _ h.aag (fun e=>by
  subst e;cases r with
  |dt j n dk av=>rw[h.aag] at av;cases av)⟩
theorem E8{S:ag}{A:List Int}{g:e2}(h:gY S g A.length):nN (fY A g)=fY A (gp A):=by
 rcases h.inv with⟨rfl,eJ⟩|⟨j,rfl,dk,eJ⟩
 ·cases A with
  |nil=>rfl
  |cons a A=>simp at eJ
 ·have aQ:ae.a7 (A.map I)=true:=by
   clear h eJ dk
   induction A with
   |nil=>rfl
   |cons a A e=>show(true&&ae.a7 (A.map I))=true;rw[e];rfl
  cases A with
  |nil=>simp at dk
  |cons a A=>show(bif ae.a7 ((a::A).map I) then _ else _)=_;rw[aQ];rfl
theorem tv(L:List a5):∀(ws cs:List Int) (i:Nat) (w c:Int),ws[i]? =some w→cs[i]? =some c→eU L (ws.take (i+1)) (cs.take (i+1))=eU L (ws.take i) (cs.take i)++[ku L w c]
 |[],_,i,w,c,h,_=>by simp at h
 |_::_,[],i,w,c,_,h=>by simp at h
 |jb::ws,e::cs,0,w,c,h,av=>by simp at h av;subst h;subst av;simp [eU]
 |jb::ws,e::cs,i+1,w,c,h,av=>by have:=tv L ws cs i w c (by simpa using h) (by simpa using av);simp only[eU] at this ⊢;simp only[cT,List.zipWith_cons_cons,List.cons_append,List.cons.injEq,true_and];exact this
theorem wj(L:List a5):∀(ws cs:List Int) (n:Nat),ws.length≤n→eU L ws (cs.take n)=eU L ws cs
 |[],_,_,_=>by simp [eU]
 |_::_,[],_,_=>by simp [eU]
 |w::ws,c::cs,0,h=>by simp at h
 |w::ws,c::cs,n+1,h=>by have:=wj L ws cs n (by simpa using h);simp only[eU] at this ⊢;simp only[cT,List.zipWith_cons_cons,this]
theorem oj(L:List a5)(ws cs:List Int)(h:ws.length≤cs.length):(eU L ws cs).length=ws.length:=by simp [eU];omega
section
variable(G:Nat→ae)(X:Nat→List ae→ag→ah)
theorem E9(Q:ah→Prop)(L:List a5)(n2:L.length≤1000)(ic:e2)(s:ag)(qt:Nat)(p:ui)(ws cs:List Int)(F gc:e2)(hlen:ws.length≤cs.length)(ak:ws.length≤1000)(Y:∀c,c∈cs→qs c)(nJ v1 v6 H J K v10 M:ae)
  (fin:∀(S:ag) (lm:e2),JF s S ic L.length qt p→gY S lm (eU L ws cs).length→Q (zi (a0 aR G X) nJ v1 (b3 L ic) v6 H J K v10 M (fY (eU L ws cs) lm) S)):
  ∀(n i:Nat),i+n=ws.length→∀(S:ag) (lm:e2),JF s S ic L.length qt p→gY S lm i→(∀j,ic=.dt (.l j)→lm≠.dt (.l j))→
   Q (t9 (a0 aR G X) nJ v1 (b3 L ic) v6 H J K v10 (fY ws F) M (fY cs gc) (fY (eU L (ws.take i) (cs.take i)) lm) (.int .i64 (i:Int)) S):=by
 intro n
 induction n with
 |zero=>
  intro i bY S lm h1 u y;rw[vW,aC,eo,br,bR (by omega),ee];have dM:ws.take i=ws:=jr (by omega);have r:(eU L (ws.take i) (cs.take i)).length=i:=by rw[oj _ _ _ (by simp;omega)];simp;omega
  have A:eU L (ws.take i) (cs.take i)=eU L ws cs:=by rw[dM];exact wj L ws cs i (by omega)
  rw[A] at r ⊢;exact fin S lm h1 (by rw[r];exact u)
 |succ n Z=>
  intro i bY S lm h1 u y;have N:ws[i]? =some (ws.getD i 0):=by simp [List.getD_eq_getElem?_getD,eI (show i<ws.length by omega)]
  have B:cs[i]? =some (cs.getD i 0):=by simp [List.getD_eq_getElem?_getD,eI (show i<cs.length by omega)]
  have a1:=Y _ (List.mem_of_getElem? B);have r:(eU L (ws.take i) (cs.take i)).length=i:=by rw[oj _ _ _ (by simp;omega)];simp;omega
  have a3:=tv L ws cs i _ _ N B;generalize ws.getD i 0=w at *;generalize cs.getD i 0=c at *;have ab:=fun(k:be)=>Ca G X S k 1 (ws.map I) F .i64 i (I w) (by simp [N])
  have ac:=fun(k:be)=>Ca G X S k 1 (cs.map I) gc .i64 i (I c) (by simp [B])
  have O:=fun(c:Int) (k:be)=>bc (T:=aR) (G:=G) (X:=X) (s:=S) (k:=k) (I c) []
  have ad:=fun S k=>nh G X S k i (by omega)
  have af:=U9 G X L (ic.ap S.aa) w c a1 n2 S;rw[vW,aC,eo,br,dH (by omega),d0,En];rw[ab];rw[show ae.cells (I w)=[I w] from rfl,O,ac,show ae.cells (I c)=[I c] from rfl,O,aG,aG,show ae.ap S.aa (b3 L ic)=b3 L (ic.ap S.aa) from rfl,bd af,ss];refine wi Q (new:=[I (ku L w c)]) (by rw[eo,r];exact u) (by simp) (by rw[eo,r];simp;omega) rfl (fun g2 ai U ar av bO aj=>?_);rw[Em,ad];rw[eo,r,List.length_singleton] at U
  have:=Z (i+1) (by omega) ai g2 (h1.grown u y aj) U (fun j df e=>by
   by_cases dk:lm=.nil
   ·have A:=bO dk;rw[A] at e;injection e with e;injection e with e
    have V:=h1.ps;rw[df] at V;cases V with
    |dt j n dk h=>have:=(eA.1 h).1;omega
   ·exact y j df (by rw[←av dk];exact e))
  rw[a3] at this;rw[show fY (eU L (ws.take i) (cs.take i)++[ku L w c]) g2=.cr 1 ((eU L (ws.take i) (cs.take i)).map I++[I (ku L w c)]) g2 from by simp [fY]] at this;exact this
def pf(op:Int)(A:List Int):Int:=if A.any (fun a=>decide (a<0))=true then 1 else op
theorem Fa(A:List Int)(lm:e2)(L:A.length≤1000)(nJ v1 e v6 r u y B:ae)(S:ag):∀(n i:Nat),i+n=A.length→∀op:Int,
  t8 (a0 aR G X) nJ v1 e v6 r u y (I op) B (fY A lm) (.int .i64 (i:Int)) S=rR (a0 aR G X) nJ v1 e v6 r u y (I (pf op (A.drop i))) B (fY A lm) S:=by
 intro n
 induction n with
 |zero=>intro i bY op;rw[vV,aC,eo,br,bR (by omega),ee,l5 (by omega)];rfl
 |succ n F=>
  intro i bY op;have bK:i<A.length:=by omega
  have J:=fun(k:be)=>Ca G X S k 1 (A.map I) lm .i64 i (I A[i]) (by simp [bK])
  have K:=fun(c:Int) (k:be)=>bc (T:=aR) (G:=G) (X:=X) (s:=S) (k:=k) (I c) []
  have H:=fun S k=>nh G X S k i (by omega)
  have cR:A.drop i=A[i]::A.drop (i+1):=jq bK;rw[vV,aC,eo,br,dH (by omega),d0,Eo,J,show ae.cells (I A[i])=[I A[i]] from rfl,K,br,cR];generalize A[i]=a at *;by_cases h:a<0
  ·rw[dH h,d0,tn,H,F (i+1) (by omega)]
   have:∀x,pf 1 x=1:=fun x=>by unfold pf;split<;> rfl
   rw[this,show pf op (a::A.drop (i+1))=1 from by unfold pf;simp [h]]
  ·rw[bR h,ee,tn,H,F (i+1) (by omega)];rw[show pf op (a::A.drop (i+1))=pf op (A.drop (i+1)) from by unfold pf;simp [h]]
end
section
variable(G:Nat→ae)(X:Nat→List ae→ag→ah)
theorem mZ(Q:ah→Prop)(L:List a5)(ic:e2)(x:a5)(a9:qo x)(bK:L.length≤1000)(s S:ag)(h:Child s S)(cB:gY S ic L.length)(nJ v1 v6 e:ae)(i:Nat)(bY:i<131072)
  (dc:∀S' g',Child s S'→gY S' g' (L++[x]).length→Q (kt (a0 aR G X) nJ v1 (b3 (L++[x]) g') v6 e (.int .i64 ((i+1:Nat):Int)) S')):
  Q (nH (a0 aR G X) nJ v1 (b3 L ic) v6 e (.int .i64 (i:Int)) (.ref (.l S.own.length) 0) (S.new (.cells x.cs))):=by
 rw[B5,bV 12 x.cs (show 12≤x.cs.length from aB 12)];have r:∀(S:ag) (K:be),(a0 aR G X).a6 S K 12 [.agg (x.cs.take 12)]=K (.cr 12 [x.enc] .exact) S:=fun S K=>by refine nc 12 [x.enc] ?_ rfl;show(x.enc.bb&&true)=true;rw[a9.bb];rfl
 rw[r];refine wi Q (new:=[x.enc]) (by rw[eo];exact cB.new _) (by simp) (by simp;omega) rfl (fun g2 u y ar av bO A=>?_);rw[to,mr i (by omega)]
 have:=dc u g2 (A.child (h.new _)) (by simpa using y);rw[show b3 (L++[x]) g2=.cr 12 (L.map a5.enc++[x.enc]) g2 from by simp [b3]] at this;exact this
def OQ:List ae:=[.str [],.int .i64 0,.cr 1 [] .nil,.bool false,.cr 1 [] .nil,.bool false,.cr 1 [] .nil,.bool false,.cr 1 [] .nil,.bool false,.cr 1 [] .nil,.int .i64 0]
theorem CF(dS:G 0=.bP iN)(Q:ah→Prop)(L:List a5)(ic lm:e2)(bK:L.length≤1000)(s S:ag)(qt:Nat)(p:ui)(fp:p.OI)(h1:JF s S ic L.length qt p)(nJ v1:ae)(i gi roots:Nat)(bY:i<131072)(op:Int)(b:Bool)(A:List Int)(O:gY S lm A.length)(af:A.length≤3)(aj:gi≤8)(ak:roots≤3)
  (k1:op=1→∀iw bQ qk pt S' g',iw.Ju→bQ.Ju→qk.Ju→pt.Ju→oz iw→oz bQ→oz qk→oz pt→iQ iw bQ=true→iQ qk pt=true→Child s S'→gY S' g' (L++[a5.mk (115::eF i) op [] .nil iw bQ qk pt 0]).length→Q (kt (a0 aR G X) nJ v1 (b3 (L++[a5.mk (115::eF i) op [] .nil iw bQ qk pt 0]) g') (.int .i64 ((gi+2:Nat):Int)) (.int .i64 (roots:Int)) (.int .i64 ((i+1:Nat):Int)) S'))
  (pI:op=2→∀iw bQ S' g',iw.Ju→bQ.Ju→oz iw→oz bQ→iQ iw bQ=true→Child s S'→gY S' g' (L++[a5.mk (115::eF i) op A (gp A) iw bQ mY mY 0]).length→Q (kt (a0 aR G X) nJ v1 (b3 (L++[a5.mk (115::eF i) op A (gp A) iw bQ mY mY 0]) g') (.int .i64 ((gi+1:Nat):Int)) (.int .i64 (roots:Int)) (.int .i64 ((i+1:Nat):Int)) S'))
  (U:op≠1→op≠2→b=true→∀nl S' g',(nl=1∨nl=2)→Child s S'→gY S' g' (L++[a5.mk (115::eF i) op A (gp A) mY mY mY mY nl]).length→Q (kt (a0 aR G X) nJ v1 (b3 (L++[a5.mk (115::eF i) op A (gp A) mY mY mY mY nl]) g') (.int .i64 (gi:Int)) (.int .i64 ((roots+1:Nat):Int)) (.int .i64 ((i+1:Nat):Int)) S'))
  (V:op≠1→op≠2→b=false→∀S' g',Child s S'→gY S' g' (L++[a5.mk (115::eF i) op A (gp A) mY mY mY mY 0]).length→Q (kt (a0 aR G X) nJ v1 (b3 (L++[a5.mk (115::eF i) op A (gp A) mY mY mY mY 0]) g') (.int .i64 (gi:Int)) (.int .i64 (roots:Int)) (.int .i64 ((i+1:Nat):Int)) S')):
  Q (pa (a0 aR G X) nJ v1 (b3 L ic) (.int .i64 (gi:Int)) (.int .i64 (roots:Int)) (.int .i64 (i:Int)) (.ref (.l qt) 0) (I op) (.bool b) (fY A lm) S):=by
 have Kw:∀(S:ag) (K:be),(a0 aR G X).gn S K 19 [.int .i64 (i:Int)]=K (.str (eF i)) S:=fun S K=>kk rfl (U8 G X dS i bY Js) rfl
 have cat:∀(S:ag) (K:be),(a0 aR G X).ai S K (al .add (.str [115]) (.str (eF i)))=K (.str (115::eF i)) S:=fun S K=>by
  have am:=Jq bY;have e:al .add (.str [115]) (.str (eF i))=some (.str (115::eF i)):=by show(if Nat.ble ([115].length+(eF i).length) 1099511627776 then some (ae.str ([115]++eF i)) else none)=_;rw[show Nat.ble ([115].length+(eF i).length) 1099511627776=true from eN (by simp;omega)];rfl
  rw[e];rfl
 have Y:∀(S:ag) (K:be) (a:ae),(a0 aR G X).hq [.str [],.int .i64 0,.cr 1 [] .nil,.bool false,.cr 1 [] .nil,.bool false,.cr 1 [] .nil,.bool false,.cr 1 [] .nil,.bool false,.cr 1 [] .nil,.int .i64 0] [(0,1,.str (115::eF i)),(1,1,I op)] S K=K (.agg [.str (115::eF i),I op,.cr 1 [] .nil,.bool false,.cr 1 [] .nil,.bool false,.cr 1 [] .nil,.bool false,.cr 1 [] .nil,.bool false,.cr 1 [] .nil,.int .i64 0]) S:=fun S K a=>rfl
 have F:∀(cs:List ae) (K:be) (o:Nat) (c:ae),p.cs[o]? =some c→(a0 aR G X).ay (S.new (.cells cs)) K none (.ref (.l qt) o)=K c (S.new (.cells cs)):=fun cs K o c h=>j5 (h1.new _).aag h
 have w:=E8 O;have H:∀a,gp A≠.dt a:=fun a e=>by unfold gp at e;split at e<;> cases e
 have J:∀d,ae.ap d (fY A (gp A))=fY A (gp A):=fun d=>by show ae.cr 1 _ ((gp A).ap d)=_;rw[zo H]
 have OG:A.length<9223372036854775807:=by omega
 rw[B6,aG,Kw,cat,Y _ _ .dead,cI,a8,cN 12 _ _ rfl rfl rfl,bl];by_cases ar:op=1
 ·rw[dH ar,d0];obtain⟨B,Z,iw,bQ,ex,r⟩:=zu G X p.x fp.x;obtain⟨N,an,qk,pt,aa,u⟩:=zu G X p.y fp.y;have rx:B.bb=true:=by
   rw[r.v];simp -implicitDefEqProofs only[ae.bb,ae.a7,hV.v,kX r.Ak.g,kX r.gN.g,bC]
  have ab:N.bb=true:=by rw[u.v];simp -implicitDefEqProofs only[ae.bb,ae.a7,hV.v,kX u.Ak.g,kX u.gN.g,bC]
  have M:∀(S:ag) (K:be),(a0 aR G X).gn S K 36 [I p.x]=K B S:=fun S K=>kk rfl ex rx
  have ac:∀(S:ag) (K:be),(a0 aR G X).gn S K 36 [I p.y]=K N S:=fun S K=>kk rfl aa ab
  rw[az,F _ _ (0+4) (I p.x) rfl,aG,M,az,r.v,a8];refine(congrArg Q ((oi G X 4 3 (.agg [.bool iw.neg,iw.v,.bool bQ.neg,bQ.v]) rfl rfl (by simp) rfl:(a0 aR G X).cC (S.new (.cells [.str (115::eF i),I op,.cr 1 [] .nil,.bool false,.cr 1 [] .nil,.bool false,.cr 1 [] .nil,.bool false,.cr 1 [] .nil,.bool false,.cr 1 [] .nil,.int .i64 0])) _ 4 (.ref (.l S.own.length) (0+3)) _=_))).mpr ?_;rw[az];show Q ((a0 aR G X).ay (S.new (.cells [.str (115::eF i),I op,.cr 1 [] .nil,.bool iw.neg,iw.v,.bool bQ.neg,bQ.v,.bool false,.cr 1 [] .nil,.bool false,.cr 1 [] .nil,.int .i64 0])) _ none (.ref (.l qt) (0+5)));rw[F _ _ (0+5) (I p.y) rfl,aG,ac,az,u.v,a8];refine(congrArg Q ((oi G X 4 7 (.agg [.bool qk.neg,qk.v,.bool pt.neg,pt.v]) rfl rfl (by simp) rfl:(a0 aR G X).cC (S.new (.cells [.str (115::eF i),I op,.cr 1 [] .nil,.bool iw.neg,iw.v,.bool bQ.neg,bQ.v,.bool false,.cr 1 [] .nil,.bool false,.cr 1 [] .nil,.int .i64 0])) _ 4 (.ref (.l S.own.length) (0+7)) _=_))).mpr ?_;rw[show∀(S:ag) (K:be),(a0 aR G X).ai S K (al .add (.int .i64 (gi:Int)) (.int .i64 2))=K (.int .i64 ((gi+2:Nat):Int)) S from fun S K=>im gi 2 (by omega)];refine mZ G X Q L ic ⟨115::eF i,op,[],.nil,iw,bQ,qk,pt,0⟩ ⟨fun a e=>(by cases e),by simp,r.Ak,r.gN,u.Ak,u.gN⟩ bK s S h1.JE h1.ps nJ v1 _ _ i bY (fun S' g' a1 cB=>?_);exact k1 ar iw bQ qk pt S' g' r.aaa r.ka u.aaa u.ka r.Ak r.gN u.Ak u.gN r.valid u.valid a1 cB
 ·rw[bR ar,ee,bl];by_cases av:op=2
  ·rw[dH av,d0];obtain⟨B,Z,iw,bQ,ex,r⟩:=zu G X p.x fp.x;have rx:B.bb=true:=by
    rw[r.v];simp -implicitDefEqProofs only[ae.bb,ae.a7,hV.v,kX r.Ak.g,kX r.gN.g,bC]
   have M:∀(S:ag) (K:be),(a0 aR G X).gn S K 36 [I p.x]=K B S:=fun S K=>kk rfl ex rx
   rw[az,w,J];refine(congrArg Q ((oi G X 1 2 (fY A (gp A)) rfl rfl (by simp) rfl:(a0 aR G X).cC (S.new (.cells [.str (115::eF i),I op,.cr 1 [] .nil,.bool false,.cr 1 [] .nil,.bool false,.cr 1 [] .nil,.bool false,.cr 1 [] .nil,.bool false,.cr 1 [] .nil,.int .i64 0])) _ 1 (.ref (.l S.own.length) (0+2)) _=_))).mpr ?_;rw[az];show Q ((a0 aR G X).ay (S.new (.cells [.str (115::eF i),I op,fY A (gp A),.bool false,.cr 1 [] .nil,.bool false,.cr 1 [] .nil,.bool false,.cr 1 [] .nil,.bool false,.cr 1 [] .nil,.int .i64 0])) _ none (.ref (.l qt) (0+4)));rw[F _ _ (0+4) (I p.x) rfl,aG,M,az,r.v,a8];refine(congrArg Q ((oi G X 4 3 (.agg [.bool iw.neg,iw.v,.bool bQ.neg,bQ.v]) rfl rfl (by simp) rfl:(a0 aR G X).cC (S.new (.cells [.str (115::eF i),I op,fY A (gp A),.bool false,.cr 1 [] .nil,.bool false,.cr 1 [] .nil,.bool false,.cr 1 [] .nil,.bool false,.cr 1 [] .nil,.int .i64 0])) _ 4 (.ref (.l S.own.length) (0+3)) _=_))).mpr ?_;rw[show∀(S:ag) (K:be),(a0 aR G X).ai S K (al .add (.int .i64 (gi:Int)) (.int .i64 1))=K (.int .i64 ((gi+1:Nat):Int)) S from fun S K=>im gi 1 (by omega)];refine mZ G X Q L ic ⟨115::eF i,op,A,gp A,iw,bQ,mY,mY,0⟩ ⟨H,OG,r.Ak,r.gN,ia,ia⟩ bK s S h1.JE h1.ps nJ v1 _ _ i bY (fun S' g' a1 cB=>?_);exact pI av iw bQ S' g' r.aaa r.ka r.Ak r.gN r.valid a1 cB
  ·rw[bR av,ee];cases b with
   |true=>
    have ao:=j7 (x:=p.nl) (n:=2) (by omega);have rs:=fun s=>oh G X p.nl 2 (by omega) fp.nl s
    have ad:IntKind.wrap .i64 (1+f4 p.nl 2)=1+f4 p.nl 2:=eK _ (by omega) (by omega);rw[d0,az,w,J];refine(congrArg Q ((oi G X 1 2 (fY A (gp A)) rfl rfl (by simp) rfl:(a0 aR G X).cC (S.new (.cells [.str (115::eF i),I op,.cr 1 [] .nil,.bool false,.cr 1 [] .nil,.bool false,.cr 1 [] .nil,.bool false,.cr 1 [] .nil,.bool false,.cr 1 [] .nil,.int .i64 0])) _ 1 (.ref (.l S.own.length) (0+2)) _=_))).mpr ?_;rw[az];show Q ((a0 aR G X).ay (S.new (.cells [.str (115::eF i),I op,fY A (gp A),.bool false,.cr 1 [] .nil,.bool false,.cr 1 [] .nil,.bool false,.cr 1 [] .nil,.bool false,.cr 1 [] .nil,.int .i64 0])) _ none (.ref (.l qt) (0+6)));rw[F _ _ (0+6) (I p.nl) rfl,aG,aG,bd (rs _),fl,ad,az,aG];refine(congrArg Q ((oi G X 1 11 (I (1+f4 p.nl 2)) rfl rfl (by simp) rfl:(a0 aR G X).cC (S.new (.cells [.str (115::eF i),I op,fY A (gp A),.bool false,.cr 1 [] .nil,.bool false,.cr 1 [] .nil,.bool false,.cr 1 [] .nil,.bool false,.cr 1 [] .nil,.int .i64 0])) _ 1 (.ref (.l S.own.length) (0+11)) _=_))).mpr ?_;rw[show∀(S:ag) (K:be),(a0 aR G X).ai S K (al .add (.int .i64 (roots:Int)) (.int .i64 1))=K (.int .i64 ((roots+1:Nat):Int)) S from fun S K=>im roots 1 (by omega)];refine mZ G X Q L ic ⟨115::eF i,op,A,gp A,mY,mY,mY,mY,1+f4 p.nl 2⟩ ⟨H,OG,ia,ia,ia,ia⟩ bK s S h1.JE h1.ps nJ v1 _ _ i bY (fun S' g' a1 cB=>?_);exact U ar av rfl _ S' g' (by omega) a1 cB
   |false=>rw[ee,az,w,J];refine(congrArg Q ((oi G X 1 2 (fY A (gp A)) rfl rfl (by simp) rfl:(a0 aR G X).cC (S.new (.cells [.str (115::eF i),I op,.cr 1 [] .nil,.bool false,.cr 1 [] .nil,.bool false,.cr 1 [] .nil,.bool false,.cr 1 [] .nil,.bool false,.cr 1 [] .nil,.int .i64 0])) _ 1 (.ref (.l S.own.length) (0+2)) _=_))).mpr ?_;refine mZ G X Q L ic ⟨115::eF i,op,A,gp A,mY,mY,mY,mY,0⟩ ⟨H,OG,ia,ia,ia,ia⟩ bK s S h1.JE h1.ps nJ v1 _ _ i bY (fun S' g' a1 cB=>?_);exact V ar av rfl S' g' a1 cB
end
theorem Vc(op:Int)(A:List Int):pf op A=1∨(pf op A=op∧∀a,a∈A→0≤a):=by
 unfold pf;by_cases h:A.any (fun a=>decide (a<0))=true
 ·rw[if_pos h];exact .inl rfl
 ·rw[if_neg h];refine .inr ⟨rfl,fun a e=>?_⟩
  have:=List.any_eq_false.1 (Bool.eq_false_iff.2 h) a e;simp at this;omega
theorem r5{α:Type}(A:List α):∀a,gp A≠.dt a:=fun a e=>by unfold gp at e;split at e<;> cases e
section
variable(G:Nat→ae)(X:Nat→List ae→ag→ah)
theorem CG(dS:G 0=.bP iN)(Q:ah→Prop)(L:List a5)(ic lm:e2)(bK:L.length≤40)(s S:ag)(qt:Nat)(p:ui)(fp:p.OI)(h1:JF s S ic L.length qt p)(nJ v1:ae)(i gi roots:Nat)(bY:i<131072)(r:Int)(aB:1≤r∧r≤16)
  (y:CC L gi roots i)(ak:gY S lm (eU L (gq r) [p.a,p.b,p.c]).length)
  (dc:∀J ac ad S' g',CC J ac ad (i+1)→J.length≤L.length+1→Child s S'→gY S' g' J.length→Q (kt (a0 aR G X) nJ v1 (b3 J g') (.int .i64 (ac:Int)) (.int .i64 (ad:Int)) (.int .i64 ((i+1:Nat):Int)) S')):
  Q (rR (a0 aR G X) nJ v1 (b3 L ic) (.int .i64 (gi:Int)) (.int .i64 (roots:Int)) (.int .i64 (i:Int)) (.ref (.l qt) 0) (I (pf r (eU L (gq r) [p.a,p.b,p.c]))) (.bool (iD r)) (fY (eU L (gq r) [p.a,p.b,p.c]) lm) S):=by
 have K:=y.rt;have N:=y.aaf;have am:=xY r;have F:(eU L (gq r) [p.a,p.b,p.c]).length=(gq r).length:=oj _ _ _ (by simpa using am);have n2:∀o,o∈L→fE o.op≠0:=fun o h=>CB (l:=L) (pre:=L) (rest:=[]) (by simp) y.wf o h
 have O:=Vc r (eU L (gq r) [p.a,p.b,p.c]);have U:pf r (eU L (gq r) [p.a,p.b,p.c])≠1→hQ L (gq r) (eU L (gq r) [p.a,p.b,p.c])=true:=fun h=>by
  rcases O with e|⟨_,e⟩
  ·exact absurd e h
  ·exact CE n2 _ _ e
 have V:pf r (eU L (gq r) [p.a,p.b,p.c])≠1→pf r (eU L (gq r) [p.a,p.b,p.c])=r:=fun h=>by
  rcases O with e|⟨e,_⟩
  ·exact absurd e h
  ·exact e
 have aC:1≤pf r (eU L (gq r) [p.a,p.b,p.c]):=by rcases O with e|⟨e,_⟩<;> omega
 generalize aD:eU L (gq r) [p.a,p.b,p.c]=A at *;generalize aE:pf r A=op at *;have aF:A.length≤3:=by omega
 have skip:Q (o9 (a0 aR G X) nJ v1 (b3 L ic) (.int .i64 (gi:Int)) (.int .i64 (roots:Int)) (.int .i64 (i:Int)) S):=by rw[to,mr i (by omega)];exact dc L gi roots S ic y.later (by omega) h1.JE h1.ps
 have go:(iD r=true→roots≠3)→(op≤2→gi≤6)→Q (pa (a0 aR G X) nJ v1 (b3 L ic) (.int .i64 (gi:Int)) (.int .i64 (roots:Int)) (.int .i64 (i:Int)) (.ref (.l qt) 0) (I op) (.bool (iD r)) (fY A lm) S):=fun H M=>by
  refine CF G X dS Q L ic lm (by omega) s S qt p fp h1 nJ v1 i gi roots bY op (iD r) A ak (by omega) N K ?_ ?_ ?_ ?_
  ·intro ar iw bQ qk pt S' g' dM Y an ao Z aa ap aq px qG a1 cB;subst ar;have M:=M (by omega);refine dc _ _ _ S' g' (y.snoc bY (a5.mk (115::eF i) 1 [] .nil iw bQ qk pt 0) (by show(1:Int)≤1∧(1:Int)≤16;omega) rfl rfl rfl rfl ?_ ⟨fun a e=>(by cases e),by simp,Z,aa,ap,aq⟩ ⟨dM,Y,an,ao⟩ ?_ ?_ ?_ K) (by simp) a1 cB
   ·show(iQ iw bQ&&iQ qk pt)=true;rw[px,qG];rfl
   ·show gi+2≤gi+2;omega
   ·omega
   ·show roots+0≤roots;omega
  ·intro av iw bQ S' g' dM Y Z aa px a1 cB;have e3:op≠1:=by omega
   have M:=M (by omega);have e:=V e3;have B:=U e3;subst av;rw[←e] at B F;refine dc _ _ _ S' g' (y.snoc bY (a5.mk (115::eF i) 2 A (gp A) iw bQ mY mY 0) (by show(1:Int)≤2∧(2:Int)≤16;omega) rfl B F.symm rfl ?_ ⟨r5 A,(by show A.length<_;omega),Z,aa,ia,ia⟩ ⟨dM,Y,nk,nk⟩ ?_ ?_ ?_ K) (by simp) a1 cB
   ·show(iQ iw bQ&&lS mY mY)=true;rw[px];rfl
   ·show gi+1≤gi+1;omega
   ·omega
   ·show roots+0≤roots;omega
  ·intro ar av u nl S' g' as a1 cB;have e:=V ar;have B:=U ar;have H:=H u;rw[←e] at B F u;refine dc _ _ _ S' g' (y.snoc bY (a5.mk (115::eF i) op A (gp A) mY mY mY mY nl) (by show 1≤op∧op≤16;omega) rfl B F.symm ?_ ?_ ⟨r5 A,(by show A.length<_;omega),ia,ia,ia,ia⟩ ⟨nk,nk,nk,nk⟩ ?_ N ?_ ?_) (by simp) a1 cB
   ·unfold v9;rw[if_pos u];exact dH as
   ·unfold tt;rw[if_neg ar,if_neg av];rfl
   ·show gi+(if op=1 then 2 else if op=2 then 1 else 0)≤gi;rw[if_neg ar,if_neg av];omega
   ·show roots+(if iD op=true then 1 else 0)≤roots+1;rw[if_pos u];omega
   ·omega
  ·intro ar av u S' g' a1 cB;have e:=V ar;have B:=U ar;rw[←e] at B F u;have aj:¬iD op=true:=by rw[u];simp
   refine dc _ _ _ S' g' (y.snoc bY (a5.mk (115::eF i) op A (gp A) mY mY mY mY 0) (by show 1≤op∧op≤16;omega) rfl B F.symm ?_ ?_ ⟨r5 A,(by show A.length<_;omega),ia,ia,ia,ia⟩ ⟨nk,nk,nk,nk⟩ ?_ N ?_ K) (by simp) a1 cB
   ·unfold v9;rw[if_neg aj];rfl
   ·unfold tt;rw[if_neg ar,if_neg av];rfl
   ·show gi+(if op=1 then 2 else if op=2 then 1 else 0)≤gi;rw[if_neg ar,if_neg av];omega
   ·show roots+(if iD op=true then 1 else 0)≤roots;rw[if_neg aj];omega
 have rest:(iD r=true→roots≠3)→Q ((a0 aR G X).af (.bool false) false (fun k=>k (I op) S) S (fun au s=>(a0 aR G X).af (.bool false) false (fun k=>(a0 aR G X).ai s k (al .leq au (.int .i64 2))) s (fun aw s=>(a0 aR G X).af (.bool false) false (fun k=>k aw s) s (fun ab s=>(a0 aR G X).af ab true (fun k=>k (.int .i64 (gi:Int)) s) s (fun ax s=>(a0 aR G X).af ab true (fun k=>(a0 aR G X).ai s k (al .gtr ax (.int .i64 6))) s (fun ay s=>(a0 aR G X).af (.bool false) false (fun k=>(a0 aR G X).bF s k ab ay (.bool false)) s (fun az s=>(a0 aR G X).bF s (fun aA s=>(a0 aR G X).aK aA (o9 (a0 aR G X) nJ v1 (b3 L ic) (.int .i64 (gi:Int)) (.int .i64 (roots:Int)) (.int .i64 (i:Int)) s) (pa (a0 aR G X) nJ v1 (b3 L ic) (.int .i64 (gi:Int)) (.int .i64 (roots:Int)) (.int .i64 (i:Int)) (.ref (.l qt) 0) (I op) (.bool (iD r)) (fY A lm) s)) (.bool false) (.bool true) az))))))):=fun H=>by
  simp -implicitDefEqProofs only[eL,cX];by_cases av:op≤2
  ·simp -implicitDefEqProofs only[dH av,fK,eL,b5];by_cases bO:(6:Int)<(gi:Int)
   ·simp -implicitDefEqProofs only[dH bO,fc,eM,d0];exact skip
   ·simp -implicitDefEqProofs only[bR bO,fc,eM,ee];exact go H (fun _=>by omega)
  ·simp -implicitDefEqProofs only[bR av,gL,bG,eL,fc,eM,ee];exact go H (fun h=>absurd h av)
 rw[B7];cases u:iD r with
 |true=>
  rw[u] at rest;simp -implicitDefEqProofs only[fK,bl];by_cases bO:(roots:Int)=3
  ·simp -implicitDefEqProofs only[dH bO,fc,gh,bG,d0];exact skip
  ·simp -implicitDefEqProofs only[bR bO,fc];exact rest (fun _ e=>bO (by omega))
 |false=>rw[u] at rest;simp -implicitDefEqProofs only[gL,bG,eM];exact rest (fun e=>by cases e)
end
theorem VG(L:List a5)(h:∀x,x∈L→qo x):ae.a7 (L.map a5.enc)=true:=by
 induction L with
 |nil=>rfl
 |cons x L e=>show(x.enc.bb&&ae.a7 (L.map a5.enc))=true;rw[(h x List.mem_cons_self).bb,e (fun y eQ=>h y (List.mem_cons_of_mem _ eQ))];rfl
abbrev r6(ea:List ui)(g:e2):ae:=.cr 7 (ea.map ui.enc) g
section
variable(G:Nat→ae)(X:Nat→List ae→ag→ah)
theorem Fb(dS:G 0=.bP iN)(Q:ah→Prop)(L:List a5)(ic:e2)(bK:L.length≤40)(s S:ag)(qt:Nat)(p:ui)(fp:p.OI)(h1:JF s S ic L.length qt p)(nJ v1:ae)(i gi roots:Nat)(bY:i<131072)(r:Int)(H:1≤r∧r≤16)
  (J:CC L gi roots i)
  (dc:∀u A B S' g',CC u A B (i+1)→u.length≤L.length+1→Child s S'→gY S' g' u.length→Q (kt (a0 aR G X) nJ v1 (b3 u g') (.int .i64 (A:Int)) (.int .i64 (B:Int)) (.int .i64 ((i+1:Nat):Int)) S')):
  Q (rS (a0 aR G X) nJ v1 (b3 L ic) (.int .i64 (gi:Int)) (.int .i64 (roots:Int)) (.int .i64 (i:Int)) (.ref (.l qt) 0) (I r) S):=by
 have y:∀(K:be) (o:Nat) (c:ae),p.cs[o]? =some c→(a0 aR G X).ay S K none (.ref (.l qt) o)=K c S:=fun K o c h=>j5 h1.aag h
 have yO:=fun s=>HZ G X r s
 have fb:∀(S:ag) (K:be),(a0 aR G X).a6 S K 1 [I p.a,I p.b,I p.c]=K (fY [p.a,p.b,p.c] .exact) S:=fun S K=>rfl
 have F:=xY r;have M:∀K:be,(a0 aR G X).bH S K 0 (mz r)=K (fY (gq r) (pW r)) S:=fun K=>nd _ _
 have N:∀K:be,(a0 aR G X).bH S K 1 (mz r)=K (I (fE r)) S:=fun K=>nf _ _ _
 have O:∀K:be,(a0 aR G X).bH S K 2 (mz r)=K (.bool (iD r)) S:=fun K=>sw _ _ _ _
 rw[Er,aG,bd (yO _),M,N,O,az,y _ (0+1) (I p.a) rfl,az,y _ (0+2) (I p.b) rfl,az,y _ (0+3) (I p.c) rfl,fb];refine E9 G X Q L (by omega) ic s qt p (gq r) [p.a,p.b,p.c] (pW r) .exact F (by omega) ?_ nJ v1 _ _ _ _ _ _ (fun S' lm U V=>?_) (gq r).length 0 (by omega) S .nil h1 .nil (fun j _ e=>by cases e)
 ·intro c a1;simp only[List.mem_cons,p3,or_false] at a1;rcases a1 with rfl |rfl |rfl
  ·exact fp.a
  ·exact fp.b
  ·exact fp.c
 ·have Y:(eU L (gq r) [p.a,p.b,p.c]).length=(gq r).length:=oj _ _ _ (by simpa using F);rw[Ep];refine(congrArg Q (Fa G X (eU L (gq r) [p.a,p.b,p.c]) lm (by omega) _ _ _ _ _ _ _ _ S' (eU L (gq r) [p.a,p.b,p.c]).length 0 (by omega) r)).mpr ?_;exact CG G X dS Q L ic lm bK s S' qt p fp U nJ v1 i gi roots bY r H J V dc
theorem Fc(dS:G 0=.bP iN)(ea:List ui)(F:e2)(M:∀p,p∈ea→p.OI)(ac:ea.length≤131072)(n:Nat)(dk:n≤40)(s:ag):∀(k i:Nat),i+k=ea.length→∀(L:List a5) (gi roots:Nat) (S:ag) (ic:e2),CC L gi roots i→L.length≤n→Child s S→gY S ic L.length→
  ∃(e:List a5) (h u hx:Nat),CC e h u hx∧e.length≤n∧kt (a0 aR G X) (r6 ea F) (.int .i64 (n:Int)) (b3 L ic) (.int .i64 (gi:Int)) (.int .i64 (roots:Int)) (.int .i64 (i:Int)) S=.ok (b3 e (gp e)) s:=by
 intro k
 induction k with
 |zero=>
  intro i bY L gi roots S ic y bK B cB;refine⟨L,gi,roots,i,y,bK,?_⟩;rw[qm,aC,eo,br,bR (by omega)];simp -implicitDefEqProofs only[gL,bG,eM,ee];rw[tp]
  have:=n5 (S:=S) (sz:=12) (es:=L.map a5.enc) (g:=ic) (by simpa using cB) (VG L y.ok);rw[sE] at this;exact kl B _ _ this
 |succ k N=>
  intro i bY L gi roots S ic y bK B cB;have H:i<ea.length:=by omega
  have el:(L.map a5.enc).length=L.length:=eo ..;by_cases ad:L.length<n
  ·have O:(ea.map ui.enc)[i]? =some ea[i].enc:=by simp [H]
   have J:=M ea[i] (m0 H);have ip:=fun(k:be)=>Ca G X S k 7 _ F .i64 i _ O
   generalize ea[i]=p at *;have U:∀K:be,(a0 aR G X).ay S K (some 7) (.bP p.enc.cells)=K (.agg p.cs) S:=fun K=>bi 7 p.cs (show 7≤p.cs.length from aB 7)
   have ae:=j7 (x:=p.op) (n:=16) (by omega);have rs:=fun s=>oh G X p.op 16 (by omega) J.op s
   have V:IntKind.wrap .i64 (1+f4 p.op 16)=1+f4 p.op 16:=eK _ (by omega) (by omega);have h1:JF s (S.new (.cells p.cs)) ic L.length S.own.length p:=⟨B.new _,cB.new _,by simp [ag.new]⟩;have fin:∀A:Int,1≤A∧A≤16→∃(e:List a5) (h u hx:Nat),CC e h u hx∧e.length≤n∧rS (a0 aR G X) (r6 ea F) (.int .i64 (n:Int)) (b3 L ic) (.int .i64 (gi:Int)) (.int .i64 (roots:Int)) (.int .i64 (i:Int)) (.ref (.l S.own.length) 0) (I A) (S.new (.cells p.cs))=.ok (b3 e (gp e)) s:=fun A Y=>by refine Fb G X dS (fun r=>∃(e:List a5) (h u hx:Nat),CC e h u hx∧e.length≤n∧r=.ok (b3 e (gp e)) s) L ic (by omega) s _ _ p J h1 _ _ i gi roots (by omega) A Y y (fun e h u S' g' Z af aa ab=>?_);exact N (i+1) (by omega) e h u S' g' Z (by omega) aa ab
   rw[qm,aC,eo,br,dH (by omega)];simp -implicitDefEqProofs only[fK,aC,br,el];rw[dH (show(L.length:Int)<(n:Int) by omega)];simp -implicitDefEqProofs only[fc,d0];rw[Es,ip,U,cI,a8,cN 7 p.cs _ rfl rfl rfl,az,j5 h1.aag (show p.cs[0+0]? =some (I p.op) from rfl),aG,aG,bd (rs _),fl,V,br];by_cases av:(i:Int)<2
   ·rw[dH av,d0];exact fin 1 (by omega)
   ·rw[bR av,ee];exact fin _ (by omega)
  ·refine⟨L,gi,roots,i,y,bK,?_⟩;rw[qm,aC,eo,br,dH (by omega)];simp -implicitDefEqProofs only[fK,aC,br,el];rw[bR (show¬(L.length:Int)<(n:Int) by omega)];simp -implicitDefEqProofs only[fc,ee];rw[tp]
   have:=n5 (S:=S) (sz:=12) (es:=L.map a5.enc) (g:=ic) (by simpa using cB) (VG L y.ok);rw[sE] at this;exact kl B _ _ this
theorem Ox(dS:G 0=.bP iN)(ea:List ui)(e:e2)(r:∀p,p∈ea→p.OI)(u:ea.length≤131072)(n:Nat)(dk:n≤40)(s:ag):∃(L:List a5) (g:e2),iv L=0∧(∀x,x∈L→qo x)∧L.length≤n∧(∀a,g≠.dt a)∧(∀x,x∈L→aad x)∧aP aR G X 10 [r6 ea e,.int .i64 (n:Int)] s=.ok (b3 L g) s:=by have y:CC [] 0 0 0:=⟨rfl,fun x h=>(by cases h),fun x h=>(by cases h),aB _,by omega,aB _,by omega,fun x h=>(by cases h)⟩;obtain⟨L,gi,roots,i,ar,av,bO⟩:=Fc G X dS ea e r u n dk s ea.length 0 (by omega) [] 0 0 s.aj .nil y (Nat.zero_le _) (.aj s) .nil;refine⟨L,gp L,ar.check (by omega),ar.ok,av,r5 L,ar.ac2,?_⟩;rw[Jd,UD];exact bO
theorem Vd(dS:G 0=.bP iN)(ea:List ui)(e:e2)(h:∀p,p∈ea→p.OI)(r:ea.length≤131072)(n:Nat)(dk:n≤40)(s:ag):∃(L:List a5) (g:e2),iv L=0∧(∀x,x∈L→qo x)∧L.length≤n∧(∀a,g≠.dt a)∧aP aR G X 10 [r6 ea e,.int .i64 (n:Int)] s=.ok (b3 L g) s:=by obtain⟨L,g,ar,av,bO,dD,_,u⟩:=Ox G X dS ea e h r n dk s;exact⟨L,g,ar,av,bO,dD,u⟩
end
end Go.gR
end
section
namespace Go.gR
open Go.Ab Go.hO
variable(G:Nat→ae)(X:Nat→List ae→ag→ah)
def e7(k:Int):List Int:=
 if k=1 then[1,1] else if k=2 then[1,0] else if k=3∨k=4 then[2,2] else if k=5∨k=8 then[1,1,1,1] else if k=6 then[1,1,1] else if k=7 then[2,2,2] else[]
def CH(l:List a5)(k:Int)(args:List Int):Int:=
 if iv l≠0 then iv l else if(e7 k).length=0∨(e7 k).length≠args.length then 102 else if hQ l (e7 k) args=true then 0 else 102
def okW(r:ah)(w:List Int):Bool:=
 match r with
 |.ok (.cr 1 a g) _=>ae.kG a (w.map I)&&(ae.cr 1 a g).bb
 |_=>false
theorem Ve{r:ah}{w:List Int}(h:okW r w=true):∃g s',r=.ok (fY w g) s'∧(fY w g).bb=true:=by
 unfold okW at h;split at h
 ·rename_i a g s';simp -implicitDefEqProofs only[bm] at h;obtain⟨ar,bO⟩:=h;have dM:=(ae.iF _ _).1 ar;subst dM;exact⟨g,s',rfl,bO⟩
 ·cases h
theorem pg(f:Nat)(k:Int)(h:okW (call .not aR G X 60 f [I k] {own:=[],up:=[],ro:=[]}) (e7 k)=true):∃g s',aP aR G X f [I k] {own:=[],up:=[],ro:=[]}=.ok (fY (e7 k) g) s'∧(fY (e7 k) g).bb=true:=by obtain⟨g,s',ar,av⟩:=Ve h;exact⟨g,s',mm _ _ _ (by intro e;cases e) ar,av⟩
theorem aah:okW (call .not aR G X 60 49 [I 1] {own:=[],up:=[],ro:=[]}) (e7 1)=true:=by kernel_rfl
theorem aai:okW (call .not aR G X 60 49 [I 2] {own:=[],up:=[],ro:=[]}) (e7 2)=true:=by kernel_rfl
theorem aaj:okW (call .not aR G X 60 49 [I 3] {own:=[],up:=[],ro:=[]}) (e7 3)=true:=by kernel_rfl
theorem aak:okW (call .not aR G X 60 49 [I 4] {own:=[],up:=[],ro:=[]}) (e7 4)=true:=by kernel_rfl
theorem aal:okW (call .not aR G X 60 49 [I 5] {own:=[],up:=[],ro:=[]}) (e7 5)=true:=by kernel_rfl
theorem aam:okW (call .not aR G X 60 49 [I 6] {own:=[],up:=[],ro:=[]}) (e7 6)=true:=by kernel_rfl
theorem aan:okW (call .not aR G X 60 49 [I 7] {own:=[],up:=[],ro:=[]}) (e7 7)=true:=by kernel_rfl
theorem aao:okW (call .not aR G X 60 49 [I 8] {own:=[],up:=[],ro:=[]}) (e7 8)=true:=by kernel_rfl
theorem Vf(k:Int):∃g s',aP aR G X 49 [I k] {own:=[],up:=[],ro:=[]}=.ok (fY (e7 k) g) s'∧(fY (e7 k) g).bb=true:=by
 by_cases ar:k=1
 ·subst ar;exact pg G X 49 1 (aah G X)
 by_cases av:k=2
 ·subst av;exact pg G X 49 2 (aai G X)
 by_cases bO:k=3
 ·subst bO;exact pg G X 49 3 (aaj G X)
 by_cases dD:k=4
 ·subst dD;exact pg G X 49 4 (aak G X)
 by_cases u:k=5
 ·subst u;exact pg G X 49 5 (aal G X)
 by_cases h:k=6
 ·subst h;exact pg G X 49 6 (aam G X)
 by_cases r:k=7
 ·subst r;exact pg G X 49 7 (aan G X)
 by_cases y:k=8
 ·subst y;exact pg G X 49 8 (aao G X)
 have e:e7 k=[]:=by unfold e7;rw[if_neg ar,if_neg av,if_neg (by omega),if_neg (by omega),if_neg h,if_neg r]
 rw[e];refine⟨.nil,{own:=[],up:=[],ro:=[]},?_,rfl⟩;rw[Jc,UC];simp -implicitDefEqProofs only[bl,El,Ek,Ej,bR ar,bR av,bR bO,bR dD,bR u,bR h,bR r,bR y,ee];exact kl (Child.aj _) _ _ rfl
section
variable(l:List a5)(g:e2)(cB:∀a,g≠.dt a)(bK:l.length<9223372036854775806)(dd:∀o,o∈l→qo o)(k:Int)(args:List Int)(pd:e2)(qh:args.length<9223372036854775807)(s:ag)
include cB bK dd qh
theorem Fe(ws:List Int)(e:e2)(V:ws.length=args.length):∀n i:Nat,i+n=args.length→
  t0 (a0 aR G X) (b3 l g) (fY ws e) (fY args pd) (.int .i64 (args.length:Int)) (.int .i64 (i:Int)) s.aj=.ok (I (if hQ l (ws.drop i) (args.drop i)=true then 0 else 102)) s:=by
 intro n
 induction n with
 |zero=>intro i bY;rw[vU,br,bR (by omega),ee,Eg,l5 (by omega),l5 (by omega)];exact aJ _ _
 |succ n A=>
  intro i bY;have r:i<args.length:=by omega
  have u:i<ws.length:=by omega
  have B:(args.map I)[i]? =some (I args[i]):=by simp [r]
  have F:(ws.map I)[i]? =some (I ws[i]):=by simp [u]
  have H:∀k:be,(a0 aR G X).cL s.aj k 1 (fY args pd) (.int .i64 (i:Int))=k (.bP [I args[i]]) s.aj:=fun k=>mq (T:=aR) (G:=G) (X:=X) (s:=s.aj) (k:=k) 1 _ pd .i64 i _ B
  have J:∀k:be,(a0 aR G X).cL s.aj k 1 (fY ws e) (.int .i64 (i:Int))=k (.bP [I ws[i]]) s.aj:=fun k=>mq (T:=aR) (G:=G) (X:=X) (s:=s.aj) (k:=k) 1 _ e .i64 i _ F
  have K:=fun S k=>nh G X S k i (by omega)
  have fin:=fun n=>aJ (T:=aR) (G:=G) (X:=X) (s:=s) .i64 n
  rw[vU,br,dH (by omega),d0,Ef,H,bc,br,jq r,jq u,hQ];unfold sC;by_cases ar:args[i]<0
  ·have av:¬(0≤args[i]∧args[i]<(l.length:Int)):=by omega
   simp -implicitDefEqProofs only[dH ar,gh,fc,d0,fin,bR av,fx,bG,bS,if_false]
  ·by_cases av:(l.length:Int)≤args[i]
   ·have bO:¬(0≤args[i]∧args[i]<(l.length:Int)):=by omega
    simp -implicitDefEqProofs only[bR ar,eL,eM,aC,eo,cA,dH av,gh,fc,d0,fin,bR bO,fx,bG,bS,if_false]
   ·have bO:0≤args[i]∧args[i]<(l.length:Int):=by omega
    have h:args[i].toNat<l.length:=by omega
    have L:(l.map a5.enc)[args[i].toNat]? =some l[args[i].toNat].enc:=by simp [h]
    have M:l[args[i].toNat]? =some l[args[i].toNat]:=eI h;have ip:=fun(k:be)=>rk (T:=aR) (G:=G) (X:=X) (s:=s.aj) (k:=k) 12 _ g .i64 args[i] _ bO.1 L
    have jo:l[args[i].toNat]∈l:=m0 h;generalize Y:l[args[i].toNat]=o at *;have Ds:=zp G X o {own:=[],up:=[],ro:=[]};have N:ae.a7 [o.enc]=true:=by simp -implicitDefEqProofs only[ae.a7,(dd o jo).bb,bC]
    have Am:=H0 G X ws[i] (fE o.op) s.aj;have y:=fun(k:be)=>bi (T:=aR) (G:=G) (X:=X) (s:=s.aj) (k:=k) 12 o.cs (aB 12)
    rw[ug] at y;have O:∀k:be,(a0 aR G X).ay s.aj k (some 12) (.bP o.enc.cells)=k o.enc s.aj:=y;have U:∀d,ae.ap d o.enc=o.enc:=fun d=>rfl
    simp -implicitDefEqProofs only[bR ar,eL,eM,aC,eo,cA,bR av,J,ae.cells,bc];rw[ip,O,U,kk N Ds rfl,aG,aG,bd Am,cS];simp -implicitDefEqProofs only[M,dH bO,er];cases Z:acc ws[i] (fE o.op) with
    |false=>simp -implicitDefEqProofs only[g1,d0,fin,fx,bS,if_false]
    |true=>simp -implicitDefEqProofs only[g3,ee,er,Ee,K];exact A (i+1) (by omega)
theorem Vg:aP aR G X 22 [b3 l g,.agg [I k,fY args pd]] s=.ok (I (CH l k args)) s:=by
 have fp:=iu l cB s.aj.aa;have c:=H7 G X l g cB s.aj bK dd;obtain⟨e,s',h,r⟩:=Vf G X k;have fin:=fun n=>aJ (T:=aR) (G:=G) (X:=X) (s:=s) .i64 n
 rw[Jb,UB,aA,fp];refine(bd c).trans ?_;rw[cF];unfold CH;by_cases eJ:iv l=0
 ·rw[bR (by simp [eJ]),ee,if_neg (by simp [eJ]),Ei,dI,bW,bc];refine(kk rfl h r).trans ?_;rw[aC,eo,bl];by_cases ar:(e7 k).length=0
  ·rw[if_pos (.inl ar)];simp -implicitDefEqProofs only[dH (show((e7 k).length:Int)=0 by omega),gh,fc,d0,fin,bG]
  ·by_cases av:(e7 k).length=args.length
   ·rw[if_neg (by omega)];have aQ:=Fe G X l g cB bK dd args pd qh s (e7 k) e av args.length 0 (by omega);simp -implicitDefEqProofs only[bR (show¬((e7 k).length:Int)=0 by omega),eL,eM,aC,eo,dI,dQ,bW,bc,cF,bR (show¬¬((e7 k).length:Int)=(args.length:Int) by omega),ee,Eh];exact aQ
   ·rw[if_pos (.inr av)];simp -implicitDefEqProofs only[bR (show¬((e7 k).length:Int)=0 by omega),eL,eM,aC,eo,dI,dQ,bW,bc,cF,dH (show¬((e7 k).length:Int)=(args.length:Int) by omega),d0,fin]
 ·rw[dH eJ,d0,if_pos eJ];exact fin _
end
end Go.gR
end
section
namespace Go.gR
open Go.Ab Go.hO
section
variable{T:Nat→Option c0}{G:Nat→ae}{X:Nat→List ae→ag→ah}
def Oy(S:ag)(g:e2)(n:Nat):Prop:=(g=.nil∧n=0)∨∃t,g=.dt (.g S.aa t)∧0<n∧S.own[t]? =some (.tok n)
theorem Ff{S:ag}{k:be}{j o:Nat}{cs:List ae}{v:ae}(h:S.own[j]? =some (.cells cs))(e:o<cs.length)(bJ:v.eG=true)(hw:v.cells=[v])(r:v.ff=true):(a0 T G X).cC S k 1 (.ref (.l j) o) v=k .dead {S with own:=S.own.set j (.cells (cs.set o v))}:=by
 rw[kT];simp -implicitDefEqProofs only[fh,r,hw,bT,cx,bf,gf,bC,bX];unfold ii;have dM:S.get (.l j)=some (.cells cs):=h;have dU:S.ho (.l j) [v]=true:=by simp [ag.ho,ag.oD]
 simp -implicitDefEqProofs only[dM,bT,cx,bf,show Nat.ble (o+1) cs.length=true from eN e,dU,List.all_cons,bJ,List.all_nil,bC,bX];rfl
theorem Fg{S:ag}{es new:List ae}{g g2:e2}{q bytes:Nat}(cB:Oy S g es.length)(dk:new≠[])(r:(es.length+new.length)*bytes≤1099511627776)(a1:(new.flatMap ae.cells).all ae.eG=true)(u:∀a,g2≠.dt a:=by intro a h;cases h):
  ∃g' F t,(∀k:be,(a0 T G X).f8 S k q bytes (some (.l 0)) (.cr q es g) (.cr q new g2)=k (.cr q (es++new) g') {S with own:=F})∧g'.ap S.aa=.dt (.g S.aa t)∧F[t]? =some (.tok (es.length+new.length))∧S.own.length≤F.length∧
   (∀(j:Nat) (o:dp),S.own[j]? =some o→(∀n:Nat,o≠dp.tok n)→F[j]? =some o):=by
 have bo:∀k:be,(a0 T G X).f8 S k q bytes (some (.l 0)) (.cr q es g) (.cr q new g2)=f7 (gz G (aP T G X) bL) S k q bytes (some (.l 0)) (.cr q es g) (.cr q new g2):=fun k=>qj ..
 cases new with
 |nil=>exact absurd rfl dk
 |cons c cs=>
  have iB:dG S (.cr q (c::cs) g2)=some (q,c::cs):=by cases g2<;> first|rfl |exact absurd rfl (u _)
  rcases cB with⟨rfl,A⟩|⟨t,rfl,kB,h⟩
  ·refine⟨.dt (.l S.own.length),S.own++[.tok (es.length+(c::cs).length)],S.own.length,fun k=>?_,rfl,by simp,by simp,fun j o h _=>?_⟩
   ·rw[bo];unfold f7;simp only;unfold hG;rw[iB];simp only[gf,er];rw[show Nat.ble ((es.length+(c::cs).length)*bytes) 1099511627776=true from eN r];simp only[bX,ag.hd];rfl
   ·rw[ha (eA.1 h).1];exact h
  ·have e:S.get (.g S.aa t)=some (.tok es.length):=by simp only[ag.get,↓reduceIte];exact h
   refine⟨.dt (.g S.aa t),S.own.set t (.tok (es.length+(c::cs).length)),t,fun k=>?_,rfl,by simp [(eA.1 h).1],by simp,fun j o df y=>?_⟩
   ·rw[bo];unfold f7;simp only;unfold hG;rw[iB];simp only[gf,er];rw[show Nat.ble ((es.length+(c::cs).length)*bytes) 1099511627776=true from eN r];simp only[bX,e,gf,a1,bC];show(match S.set (.g S.aa t) (.tok (es.length+(c::cs).length)) with |some s=>k (.cr q (es++c::cs) (.dt (.g S.aa t))) s|none=>.fail)=_;simp only[ag.set,↓reduceIte]
   ·have:t≠j:=fun e=>by subst e;rw[h] at df;injection df with df;exact y _ df.symm
    rw[nm this];exact df
end
def ox:List Int→List Int→Bool
 |w::ws,t::e=>acc w t&&ox ws e
 |_,_=>true
def iR(w:Int)(e:List Int):Nat:=(e.filter fun t=>decide (t=w)).length
def tJ(k:Int)(e:List Int):Bool:=
 if k=1 then decide (e.length=2)&&decide (iR 1 e=2)
 else if k=2 then decide (e.length=2)&&decide (iR 1 e=1)&&decide (e.getD 0 0=1)
 else if k=3∨k=4 then decide (e.length=2)&&decide (iR 2 e=2)
 else if k=5∨k=8 then decide (e.length=4)&&decide (iR 1 e=4)
 else if k=6 then decide (e.length=3)&&decide (iR 1 e=3)
 else if k=7 then decide (e.length=3)&&decide (iR 2 e=3)
 else false
theorem ib(w t:Int)(e:List Int):iR w (t::e)=(if t=w then 1 else 0)+iR w e:=by
 unfold iR;by_cases h:t=w
 ·rw[List.filter_cons_of_pos (by simpa using h),if_pos h,bT];omega
 ·rw[List.filter_cons_of_neg (by simpa using h),if_neg h];omega
theorem r7(w:Int):iR w []=0:=rfl
theorem Vh(k:Int)(h:List Int)(dU:∀t,t∈h→t=1∨t=2∨t=3):tJ k h=(!(decide ((e7 k).length=0)||decide ((e7 k).length≠h.length))&&ox (e7 k) h):=by
 have two:∀w:Int,(w=1∨w=2)→(decide (h.length=2)&&decide (iR w h=2))=(!(decide (2=0)||decide (2≠h.length))&&ox [w,w] h):=fun w hw=>by
  match h,dU with
  |[],_=>rfl
  |[a],_=>rfl
  |[a,b],dU=>have u:=dU a (by simp);have y:=dU b (by simp);rw[ib,ib,r7];simp only[ox,acc];rcases hw with rfl |rfl <;> rcases u with rfl |rfl |rfl <;> rcases y with rfl |rfl |rfl <;> decide
  |a::b::c::r,_=>simp
 have three:∀w:Int,(w=1∨w=2)→(decide (h.length=3)&&decide (iR w h=3))=(!(decide (3=0)||decide (3≠h.length))&&ox [w,w,w] h):=fun w hw=>by
  match h,dU with
  |[],_=>rfl
  |[a],_=>rfl
  |[a,b],_=>rfl
  |[a,b,c],dU=>have u:=dU a (by simp);have y:=dU b (by simp);have a1:=dU c (by simp);rw[ib,ib,ib,r7];simp only[ox,acc];rcases hw with rfl |rfl <;> rcases u with rfl |rfl |rfl <;> rcases y with rfl |rfl |rfl <;> rcases a1 with rfl |rfl |rfl <;> decide
  |a::b::c::d::r,_=>simp
 have four:(decide (h.length=4)&&decide (iR 1 h=4))=(!(decide (4=0)||decide (4≠h.length))&&ox [1,1,1,1] h):=by
  match h,dU with
  |[],_=>rfl
  |[a],_=>rfl
  |[a,b],_=>rfl
  |[a,b,c],_=>rfl
  |[a,b,c,d],dU=>have u:=dU a (by simp);have y:=dU b (by simp);have a1:=dU c (by simp);have cR:=dU d (by simp);rw[ib,ib,ib,ib,r7];simp only[ox,acc];rcases u with rfl |rfl |rfl <;> rcases y with rfl |rfl |rfl <;> rcases a1 with rfl |rfl |rfl <;> rcases cR with rfl |rfl |rfl <;> decide
  |a::b::c::d::e::r,_=>simp
 have on:(decide (h.length=2)&&decide (iR 1 h=1)&&decide (h.getD 0 0=1))=(!(decide (2=0)||decide (2≠h.length))&&ox [1,0] h):=by
  match h,dU with
  |[],_=>rfl
  |[a],_=>rfl
  |[a,b],dU=>have u:=dU a (by simp);have y:=dU b (by simp);rw[ib,ib,r7];simp only[ox,acc];rcases u with rfl |rfl |rfl <;> rcases y with rfl |rfl |rfl <;> decide
  |a::b::c::r,_=>simp
 unfold tJ e7;by_cases ar:k=1
 ·rw[if_pos ar,if_pos ar];exact two 1 (.inl rfl)
 rw[if_neg ar,if_neg ar];by_cases av:k=2
 ·rw[if_pos av,if_pos av];exact on
 rw[if_neg av,if_neg av];by_cases bO:k=3∨k=4
 ·rw[if_pos bO,if_pos bO];exact two 2 (.inr rfl)
 rw[if_neg bO,if_neg bO];by_cases A:k=5∨k=8
 ·rw[if_pos A,if_pos A];exact four
 rw[if_neg A,if_neg A];by_cases B:k=6
 ·rw[if_pos B,if_pos B];exact three 1 (.inl rfl)
 rw[if_neg B,if_neg B];by_cases F:k=7
 ·rw[if_pos F,if_pos F];exact three 2 (.inr rfl)
 rw[if_neg F,if_neg F];rfl
def f5(l:List a5)(a:Int):Int:=fE (l.getD a.toNat default).op
theorem r8(l:List a5):∀(ws A:List Int),(∀a,a∈A→0≤a∧a<(l.length:Int))→hQ l ws A=ox ws (A.map (f5 l))
 |[],A,_=>by cases A<;> rfl
 |w::ws,[],_=>rfl
 |w::ws,a::A,h=>by
  have r:=h a (by simp);rw[hQ,gd,ox,r8 l ws A (fun b u=>h b (by simp [u]))];congr 1;unfold sC f5;have e:a.toNat<l.length:=by omega
  rw[dH r,er,eI e,List.getD_eq_getElem?_getD,eI e];rfl
theorem Jx{l:List a5}(bK:∀o,o∈l→fE o.op≠0){a:Int}(h:0≤a∧a<(l.length:Int)):f5 l a=1∨f5 l a=2∨f5 l a=3:=by
 unfold f5;have e:a.toNat<l.length:=by omega
 rw[List.getD_eq_getElem?_getD,eI e];have ar:=bK _ (m0 e);have av:=CA l[a.toNat].op;simp only[Option.getD_some];omega
theorem Oz{l:List a5}(a1:iv l=0)(k:Int)(A:List Int)(e:∀a,a∈A→0≤a∧a<(l.length:Int))(bK:∀o,o∈l→fE o.op≠0):decide (CH l k A=0)=tJ k (A.map (f5 l)):=by
 rw[Vh _ _ (fun t dU=>by obtain⟨a,r,rfl⟩:=List.mem_map.1 dU;exact Jx bK (e a r))]
 unfold CH;rw[if_neg (by simp [a1]),←r8 l _ A e,eo];by_cases h:(e7 k).length=0∨(e7 k).length≠A.length
 ·rw[if_pos h]
  have:(decide ((e7 k).length=0)||decide ((e7 k).length≠A.length))=true:=by simpa using h
  rw[this];rfl
 ·rw[if_neg h]
  have:(decide ((e7 k).length=0)||decide ((e7 k).length≠A.length))=false:=by rw[←Bool.not_eq_true];simpa using h
  rw[this];cases hQ l (e7 k) A<;> rfl
theorem CI(w t:Int)(e:List Int):iR w (e++[t])=iR w e+(if t=w then 1 else 0):=by
 unfold iR;rw[List.filter_append,gu];by_cases h:t=w
 ·rw[if_pos h,List.filter_cons_of_pos (by simpa using h)];rfl
 ·rw[if_neg h,List.filter_cons_of_neg (by simpa using h)];rfl
theorem Ik(w:Int)(e:List Int):iR w e≤e.length:=List.length_filter_le _ _
section
variable(G:Nat→ae)(X:Nat→List ae→ag→ah)
theorem Jy{S:ag}{k:be}{j n:Nat}{cs:List ae}(h:S.own[j]? =some (.cells cs))(dk:n≤cs.length):(a0 aR G X).ay S k (some n) (.ref (.l j) 0)=k (.agg (cs.take n)) S:=by rw[hr];have e:S.get (.l j)=some (.cells cs):=h;simp only[dX,e,bW,eR];rw[show Nat.ble n cs.length=true from eN dk];rfl
theorem Vo{s:ag}(n c x y:Int)(K:be):(a0 aR G X).ai s (fun e s=>(a0 aR G X).af e true (fun k=>k (I c) s) s (fun r s=>(a0 aR G X).af e true (fun k=>(a0 aR G X).ai s k (al .eql r (.int .i64 y))) s (fun u s=>(a0 aR G X).bF s (fun A s=>K A s) e u (.bool false)))) (al .eql (.int .i64 n) (.int .i64 x))=K (.bool (decide (n=x)&&decide (c=y))) s:=by
 rw[bl];cases h:decide (n=x)
 ·simp -implicitDefEqProofs only[gL,bG,eM,fx]
 ·simp -implicitDefEqProofs only[fK,bl,fc,er]
structure ab6 (s S:ag) (oB:Nat) (k:Int) (A:List Int) (lm:e2):Prop where
 JE:Child s S
 Fu:S.own[oB]? =some (.cells [I k,fY A lm])
 ps:Oy S lm A.length
section
variable(L:List a5)(tK:e2)(tL:∀a,tK≠.dt a)(n2:L.length≤40)(dd:∀o,o∈L→qo o)(ju:iv L=0)(k:Int)(s:ag)
include tL n2 dd ju
theorem Jz(S:ag)(oB:Nat)(A:List Int)(lm:e2)(r:A.length≤5)(e:ab6 s S oB k A lm)(b:Bool):mv (a0 aR G X) (b3 L tK) (.ref (.l oB) 0) (.bool b) S=.ok (.bool (decide (CH L k A=0)==b)) s:=by
 have yN:=fun S=>Vg G X L tK tL (by omega) dd k A lm (by omega) S
 have h:∀d,ae.ap d (b3 L tK)=b3 L tK:=fun d=>iu L tL d
 rw[IH,Jy G X e.Fu (show 2≤_ from aB 2),h,a8,show[I k,fY A lm].take 2=[I k,fY A lm] from rfl,bd (yN _),bl];exact il (T:=aR) (G:=G) (X:=X) e.JE _
theorem xZ(S:ag)(oB:Nat)(A:List Int)(lm:e2)(V:A.length≤5)(dc:0≤k∧k<9)(J:ab6 s S oB k A lm)(M:∀a,a∈A→0≤a∧a<(L.length:Int)):
  DC (a0 aR G X) (b3 L tK) (.ref (.l oB) 0) (.int .i64 (iR 1 (A.map (f5 L)):Int)) (.int .i64 (iR 2 (A.map (f5 L)):Int)) S=.ok (.bool true) s:=by
 have qt:=fun b=>Jz G X L tK tL n2 dd ju k s S oB A lm V J b
 have e3:∀o,o∈L→fE o.op≠0:=fun o h=>CB (l:=L) (pre:=L) (rest:=[]) (by simp) (Jr ju).1 o h
 have Y:=Oz ju k A M e3;have fin:∀b,b=tJ k (A.map (f5 L))→mv (a0 aR G X) (b3 L tK) (.ref (.l oB) 0) (.bool b) S=.ok (.bool true) s:=fun b r=>by rw[qt,Y,r];simp
 have Z:∀K:be,(a0 aR G X).ay S K none (.ref (.l oB) (0+0))=K (I k) S:=fun K=>j5 J.Fu rfl
 have N:∀K:be,(a0 aR G X).ay S K none (.ref (.l oB) (0+1))=K (fY A lm) S:=fun K=>j5 J.Fu rfl
 have hb:=fun(x y:Int) (K:be)=>Vo G X (s:=S) (A.length:Int) (iR 1 (A.map (f5 L)):Int) x y K
 have g2:=fun(x y:Int) (K:be)=>Vo G X (s:=S) (A.length:Int) (iR 2 (A.map (f5 L)):Int) x y K
 have B:∀(w:Int) (x:Nat),(decide ((A.length:Int)=(x:Int))&&decide ((iR w (A.map (f5 L)):Int)=(x:Int)))=(decide ((A.map (f5 L)).length=x)&&decide (iR w (A.map (f5 L))=x)):=fun w x=>by rw[eo];congr 1<;> exact decide_eq_decide.2 (by omega)
 rw[II,az,N,aC,eo,az,Z,bl];by_cases ar:k=1
 ·rw[dH ar,d0,hb];refine fin _ ?_;unfold tJ;rw[if_pos ar];exact B 1 2
 rw[bR ar,ee,bl];by_cases av:k=2
 ·rw[dH av,d0,hb];have e:tJ k (A.map (f5 L))=(decide ((A.map (f5 L)).length=2)&&decide (iR 1 (A.map (f5 L))=1)&&decide ((A.map (f5 L)).getD 0 0=1)):=by
   unfold tJ;rw[if_neg ar,if_pos av]
  have dM:(decide ((A.length:Int)=2)&&decide ((iR 1 (A.map (f5 L)):Int)=1))=(decide ((A.map (f5 L)).length=2)&&decide (iR 1 (A.map (f5 L))=1)):=by rw[eo];congr 1<;> exact decide_eq_decide.2 (by omega)
  rw[dM];cases r:(decide ((A.map (f5 L)).length=2)&&decide (iR 1 (A.map (f5 L))=1)) with
  |false=>rw[ee];refine fin _ ?_;rw[e,r];rfl
  |true=>
   rw[r,er] at e;have ad:A.length=2:=by simp only[bm,b6,eo] at r;exact r.1
   have eJ:0<A.length:=by omega
   have nV:(A.map I)[(0:Int).toNat]? =some (I (A.getD 0 0)):=by simp [List.getD_eq_getElem?_getD,eJ]
   have hm:A.getD 0 0∈A:=by rw[List.getD_eq_getElem?_getD,eI eJ];exact m0 eJ
   have aQ:=M _ hm;have tH:=fun S=>H8 G X L tK tL (by omega) dd (A.getD 0 0) S
   have aa:jO L (A.getD 0 0)=0:=by unfold jO;rw[if_neg (by simp [ju]),if_neg (by omega)]
   rw[aa,if_pos rfl] at tH;have ab:=fun(K:be)=>rk (T:=aR) (G:=G) (X:=X) (s:=S) (k:=K) 1 (A.map I) lm .i64 0 _ (by omega) nV
   have ac:∀d,ae.ap d (b3 L tK)=b3 L tK:=fun d=>iu L tL d
   rw[d0,az,N,ab,show ae.cells (I (A.getD 0 0))=[I (A.getD 0 0)] from rfl,bc,ac,aG,bd (tH _),nd,nf,bl];refine fin _ ?_;rw[e]
   have:(A.map (f5 L)).getD 0 0=f5 L (A.getD 0 0):=by simp [List.getD_eq_getElem?_getD,eJ]
   rw[this];rfl
 rw[bR av,ee,bl];have O:∀b:Bool,b=decide (k=3∨k=4)→uc (a0 aR G X) (b3 L tK) (.ref (.l oB) 0) (.int .i64 (iR 1 (A.map (f5 L)):Int)) (.int .i64 (iR 2 (A.map (f5 L)):Int)) (.int .i64 (A.length:Int)) (.bool false) (I k) (.bool b) S=.ok (.bool true) s:=fun b r=>by
  rw[Ex];by_cases bO:k=3∨k=4
  ·rw[r,dH bO,d0,g2];refine fin _ ?_;unfold tJ;rw[if_neg ar,if_neg av,if_pos bO];exact B 2 2
  rw[r,bR bO,ee,bl];have U:∀b:Bool,b=decide (k=5∨k=8)→ub (a0 aR G X) (b3 L tK) (.ref (.l oB) 0) (.int .i64 (iR 1 (A.map (f5 L)):Int)) (.int .i64 (iR 2 (A.map (f5 L)):Int)) (.int .i64 (A.length:Int)) (.bool false) (I k) (.bool b) S=.ok (.bool true) s:=fun b r=>by
   rw[Ew];by_cases u:k=5∨k=8
   ·rw[r,dH u,d0,hb];refine fin _ ?_;unfold tJ;rw[if_neg ar,if_neg av,if_neg bO,if_pos u];exact B 1 4
   rw[r,bR u,ee,bl];by_cases F:k=6
   ·rw[dH F,d0,hb];refine fin _ ?_;unfold tJ;rw[if_neg ar,if_neg av,if_neg bO,if_neg u,if_pos F];exact B 1 3
   rw[bR F,ee,bl];by_cases H:k=7
   ·rw[dH H,d0,g2];refine fin _ ?_;unfold tJ;rw[if_neg ar,if_neg av,if_neg bO,if_neg u,if_neg F,if_pos H];exact B 2 3
   rw[bR H,ee];refine fin _ ?_;unfold tJ;rw[if_neg ar,if_neg av,if_neg bO,if_neg u,if_neg F,if_neg H]
  by_cases u:k=5
  ·rw[dH u,d0];exact U true (by simp [u])
  ·rw[bR u,ee,bl];exact U _ (decide_eq_decide.2 (by omega))
 by_cases bO:k=3
 ·rw[dH bO,d0];exact O true (by simp [bO])
 ·rw[bR bO,ee,bl];exact O _ (decide_eq_decide.2 (by omega))
theorem JA(args:List Int)(pd:e2)(Y:∀a,a∈args→qs a)(kB:0<L.length)(dc:0≤k∧k<9)(qh:args.length≤4611686018427387904)(oB:Nat):∀(n i:Nat),n+i=5→∀(S:ag) (A:List Int) (lm:e2),A.length=i→i≤args.length→ab6 s S oB k A lm→(∀a,a∈A→0≤a∧a<(L.length:Int))→
  zl (a0 aR G X) (fY args pd) (b3 L tK) (.ref (.l oB) 0) (.int .i64 (iR 1 (A.map (f5 L)):Int)) (.int .i64 (iR 2 (A.map (f5 L)):Int)) (.int .i64 (i:Int)) S=.ok (.bool true) s:=by
 intro n
 induction n with
 |zero=>
  intro i bY S A lm Z ab u B;have M:=xZ G X L tK tL n2 dd ju k s S oB A lm (by omega) dc u B;rw[xL,aC,eo,br];by_cases h:(i:Int)<(args.length:Int)
  ·rw[dH h];simp -implicitDefEqProofs only[fK,br,fc];rw[bR (by omega),ee];exact M
  ·rw[bR h];simp -implicitDefEqProofs only[gL,bG,eM,ee];exact M
 |succ n ac=>
  intro i bY S A lm Z ab u B;rw[xL,aC,eo,br];by_cases h:(i:Int)<(args.length:Int)
  ·have N:i<args.length:=by omega
   have ad:(args.map I)[i]? =some (I args[i]):=by simp [N]
   have af:=Y _ (m0 N);have ah:=fun(K:be)=>mq (T:=aR) (G:=G) (X:=X) (s:=S) (k:=K) 1 (args.map I) pd .i64 i _ ad
   generalize args[i]=a at *;have rs:=fun S=>oh G X a (L.length:Int) (by omega) af S
   have fp:=j7 (x:=a) (n:=(L.length:Int)) (by omega);generalize f4 a (L.length:Int)=p at *;have O:p.toNat<L.length:=by omega
   have ai:∀K:be,(a0 aR G X).ay S K none (.ref (.l oB) (0+1))=K (fY A lm) S:=fun K=>j5 u.Fu rfl
   obtain⟨g',F,t,aj,ak,U,aI,al⟩:=Fg (T:=aR) (G:=G) (X:=X) (S:=S) (es:=A.map I) (new:=[I p]) (g:=lm) (g2:=.exact) (q:=1) (bytes:=8) (by simpa using u.ps) (by simp) (by simp;omega) rfl;have H:F[oB]? =some (.cells [I k,fY A lm]):=al oB _ u.Fu (fun n e=>by cases e);have am:∀d,ae.ap d (b3 L tK)=b3 L tK:=fun d=>iu L tL d
   have an:(L.map a5.enc)[p.toNat]? =some L[p.toNat].enc:=by simp [O]
   have V:f5 L p=fE L[p.toNat].op:=by unfold f5;rw[List.getD_eq_getElem?_getD,eI O];rfl
   have ao:jO L p=0:=by unfold jO;rw[if_neg (by simp [ju]),if_neg (by omega)]
   have tH:=fun S=>H8 G X L tK tL (by omega) dd p S
   rw[ao,if_pos rfl] at tH;have tH:∀S,aP aR G X 20 [b3 L tK,I p] S=.ok (.eb [I (f5 L p),I 0]) S:=tH;have Dk:=fun S=>uf G X L[p.toNat].op S
   rw[dH h];simp -implicitDefEqProofs only[fK,br,fc];rw[dH (show(i:Int)<5 by omega),d0,IG,ah,show ae.cells (I a)=[I a] from rfl,bc,aC,eo,aG,aG,bd (rs _),az,ai,ss];refine(aj _).trans ?_;rw[az];rw[show ae.ap ({S with own:=F}:ag).aa (.cr 1 (A.map I++[I p]) g')=.cr 1 ((A++[p]).map I) (.dt (.g S.aa t)) from by show ae.cr 1 _ (g'.ap S.aa)=_;rw[ak];simp]
   refine(Ff (S:={S with own:=F}) (o:=0+1) H (by simp) rfl rfl rfl).trans ?_;have aq:oB<F.length:=(eA.1 H).1;have as:t≠oB:=fun e=>by subst e;rw[U] at H;cases H
   have au:ab6 s {S with own:=F.set oB (.cells [I k,fY (A++[p]) (.dt (.g S.aa t))])} oB k (A++[p]) (.dt (.g S.aa t)):=
    ⟨⟨u.JE.up,u.JE.ro⟩,by simp [aq],.inr ⟨t,rfl,by simp,by show(F.set oB _)[t]? =_;rw[nm (Ne.symm as),U];simp⟩⟩
   have aw:∀b,b∈A++[p]→0≤b∧b<(L.length:Int):=fun b y=>by
    rcases List.mem_append.1 y with y|y
    ·exact B b y
    ·rw[List.mem_singleton.1 y];exact fp
   have next:=ac (i+1) (by omega) _ (A++[p]) _ (by simp;omega) (by omega) au aw;show(a0 aR G X).bA ({S with own:=F.set oB (.cells [I k,fY (A++[p]) (.dt (.g S.aa t))])}:ag) _ 20 [ae.ap ({S with own:=F.set oB (.cells [I k,fY (A++[p]) (.dt (.g S.aa t))])}:ag).aa (b3 L tK),ae.ap ({S with own:=F.set oB (.cells [I k,fY (A++[p]) (.dt (.g S.aa t))])}:ag).aa (I p)]=_;generalize ({S with own:=F.set oB (.cells [I k,fY (A++[p]) (.dt (.g S.aa t))])}:ag)=r at *;have ip:=fun(K:be)=>rk (T:=aR) (G:=G) (X:=X) (s:=r) (k:=K) 12 (L.map a5.enc) tK .i64 p _ fp.1 an
   have ax:∀K:be,(a0 aR G X).ay r K none (.bP (L[p.toNat].enc.cells.drop 1))=K (I L[p.toNat].op) r:=fun K=>rfl
   have aA:∀K:be,(a0 aR G X).bH r K 0 (mz L[p.toNat].op)=K (fY (gq L[p.toNat].op) (pW L[p.toNat].op)) r:=fun K=>nd _ _
   have aB:∀K:be,(a0 aR G X).bH r K 1 (mz L[p.toNat].op)=K (I (fE L[p.toNat].op)) r:=fun K=>nf _ _ _
   have aD:∀K:be,(a0 aR G X).bH r K 2 (mz L[p.toNat].op)=K (.bool (iD L[p.toNat].op)) r:=fun K=>sw _ _ _ _
   have J:=fun S k=>nh G X S k i (by omega)
   have aE:=Ik 1 (A.map (f5 L));have aF:=Ik 2 (A.map (f5 L));rw[eo] at aE aF;have wI:=fun S k=>nh G X S k (iR 1 (A.map (f5 L))) (by omega)
   have aH:=fun S k=>nh G X S k (iR 2 (A.map (f5 L))) (by omega)
   rw[am,aG,bd (tH _),nd,nf,ip,dI,ax,aG,bd (Dk _),aA,aB,aD,cF];simp -implicitDefEqProofs only[not_true_eq_false,dw,eL,V,cF,eM,ee];rw[IF,bl];rw[List.map_append,gd,List.map_nil,CI,CI,V] at next;by_cases ar:fE L[p.toNat].op=1
   ·have av:¬fE L[p.toNat].op=2:=by omega
    rw[if_pos ar,if_neg av] at next;rw[dH ar,d0,wI,xK,bl,bR av,ee,sA,J];exact next
   ·rw[bR ar,ee,xK,bl];by_cases av:fE L[p.toNat].op=2
    ·rw[if_neg ar,if_pos av] at next;rw[dH av,d0,aH,sA,J];exact next
    ·rw[if_neg ar,if_neg av] at next;rw[bR av,ee,sA,J];exact next
  ·rw[bR h];simp -implicitDefEqProofs only[gL,bG,eM,ee];exact xZ G X L tK tL n2 dd ju k s S oB A lm (by omega) dc u B
end
theorem aap(dS:G 0=.bP iN)(r:∃s',aP aR G X 9 [] {own:=[],up:=[],ro:=[]}=.ok (.bool true) s')(ea:List ui)(e:e2)(y:∀a,e≠.dt a)(A:∀p,p∈ea→p.OI)(B:ea.length≤131072)(kind:Int)(F:qs kind)(args:List Int)(pd:e2)(H:∀a,a∈args→qs a)(qh:args.length≤4611686018427387904)(s:ag):
  aP aR G X 6 [r6 ea e,I kind,fY args pd] s=.ok (.bool true) s:=by
 obtain⟨N,r⟩:=r;obtain⟨L,tK,ju,dd,n2,tL,u⟩:=Vd G X dS ea e A B 12 (by omega) s.aj;have J:ae.ap s.aj.aa (r6 ea e)=r6 ea e:=by show ae.cr 7 _ (e.ap _)=_;rw[zo y]
 have acm:∀(S:ag) (K:be),(a0 aR G X).gn S K 9 []=K (.bool true) S:=fun S K=>kk rfl r rfl
 have u:aP aR G X 10 [r6 ea e,.int .i64 12] s.aj=.ok (b3 L tK) s.aj:=u;have dc:=j7 (x:=kind) (n:=9) (by omega);have rs:=fun S=>oh G X kind 9 (by omega) F S
 rw[N6,Z3,acm,cS];show(a0 aR G X).aK (.bool false) _ _=_;rw[ee,IK,J,aG,bd u,aC,eo,bl];by_cases eJ:(L.length:Int)=0
 ·rw[dH eJ,d0];exact aH true
 ·rw[bR eJ,ee,IJ,aG,aG,bd (rs _)];generalize f4 kind 9=k at *;have M:∀(S:ag) (K:be),(a0 aR G X).hq [.int .i64 0,.cr 1 [] .nil] [(0,1,I k)] S K=K (.agg [I k,.cr 1 [] .nil]) S:=fun S K=>rfl
  rw[M,cI,a8,cN 2 _ _ rfl rfl rfl];exact JA G X L tK tL (by omega) dd ju k s args pd H (by omega) (by omega) qh s.aj.own.length 5 0 rfl _ [] .nil rfl (Nat.zero_le _) ⟨(Child.aj s).new _,by simp [ag.new],.inl ⟨rfl,rfl⟩⟩ (fun a h=>(by cases h))
end
end Go.gR
end
