/- A part of the proof: no condition. -/
import Derived.Test.YtgdnbfijkagodaaGreatDoorA8
import Derived.Test.YtgdnbfijkagodaaGreatDoorA9
import Derived.Test.YtgdnbfijkagodaaGreatDoorA10
import Derived.Test.YtgdnbfijkagodaaGreatDoorA11
import Derived.Test.YtgdnbfijkagodaaGreatDoorA7
set_option linter.unusedSectionVars false
set_option linter.unusedSimpArgs false
set_option linter.unusedVariables false
section
namespace Go.gw
open Go.Ab Go.hK
section
variable(G:Nat→af)(X:Nat→List af→ag→ah)
theorem aa9{a:Nat}(h:a<33):gR G X a=true:=by
 match a,h with
 |0,_=>exact adJ G X
 |1,_=>exact adK G X
 |2,_=>exact adL G X
 |3,_=>exact adM G X
 |4,_=>exact adN G X
 |5,_=>exact adO G X
 |6,_=>exact adP G X
 |7,_=>exact adQ G X
 |8,_=>exact adR G X
 |9,_=>exact adS G X
 |10,_=>exact acw G X
 |11,_=>exact acx G X
 |12,_=>exact acy G X
 |13,_=>exact acz G X
 |14,_=>exact acA G X
 |15,_=>exact acB G X
 |16,_=>exact acC G X
 |17,_=>exact acD G X
 |18,_=>exact acE G X
 |19,_=>exact acF G X
 |20,_=>exact acG G X
 |21,_=>exact acH G X
 |22,_=>exact acI G X
 |23,_=>exact acJ G X
 |24,_=>exact acK G X
 |25,_=>exact acL G X
 |26,_=>exact acM G X
 |27,_=>exact acN G X
 |28,_=>exact acO G X
 |29,_=>exact acP G X
 |30,_=>exact acQ G X
 |31,_=>exact acR G X
 |32,_=>exact acS G X
 |n+33,h=>omega
theorem V6{a b:Int}(q: -16≤a∧a≤16)(r:1≤b∧b≤4):∃v s' hr bN,aL aK G X 46 [I a,I b] J1=.ok (.ea [v,I 0]) s'∧aa8 v hr bN:=by have h:=aa9 G X (a:=(a+16).toNat) (by omega);unfold gR at h;rw[aW.zR] at h;have h:=List.all_eq_true.1 h (b-1).toNat (List.mem_range.2 (by omega));rw[show(((a+16).toNat:Nat):Int)-16=a by omega,show(((b-1).toNat:Nat):Int)+1=b by omega] at h;obtain⟨v,s',hr,bN,au,az⟩:=Pm h;exact⟨v,s',hr,bN,ob aK G X (fun e=>by cases e) au,az⟩
end
end Go.gw
end
section
namespace Go.gw
open Go.Ab
section
variable(G:Nat→af)(X:Nat→List af→ag→ah)
theorem ou{s:ag}{k:bf}{cs:List af}(n o:Nat)(v:af)(bO:v.fh=true)(dp:v.cells.length=n)(u:o+n≤cs.length)(a3:v.cells.all af.eO=true):
  (aU aK G X).b8 (s.new (.cells cs)) k n (.ref (.l s.own.length) o) v=k .dead (s.new (.cells (dS cs o v.cells))):=by
 rw[k4];have dU:(s.new (.cells cs)).get (.l s.own.length)=some (.cells cs):=by simp [ag.get,ag.new]
 have e:Nat.ble (o+v.cells.length) cs.length=true:=eQ (by omega);have h:Nat.beq v.cells.length n=true:=by rw[dp];exact gM n
 have q:(s.new (.cells cs)).hB (.l s.own.length) v.cells=true:=by simp [ag.hB,ag.oL]
 have r:(s.new (.cells cs)).set (.l s.own.length) (.cells (dS cs o v.cells))=some (s.new (.cells (dS cs o v.cells))):=by simp [ag.set,ag.new]
 simp only[fl,bO,h,bD,b2];unfold iu;simp only[dU,e,q,a3,bD,b2];show(match (s.new (.cells cs)).set (.l s.own.length) (.cells (dS cs o v.cells)) with |some s=>k .dead s|none=>.fail)=_;rw[r]
theorem zJ(n:Int)(dp: -9223372036854775808≤n∧n≤9223372036854775807):∃v s' hr bN,aL aK G X 36 [I n] J1=.ok v s'∧aa8 v hr bN:=by
 have H:=mh (x:=n) (n:=33) (by omega);have J:=mh (x:=n) (n:=4) (by omega);have e:=fun s=>sd G X n 33 (by omega) dp s
 have h:=fun s=>sd G X n 4 (by omega) dp s
 obtain⟨v,s',hr,bN,gh,bO⟩:=V6 G X (a:=gy n 33-16) (b:=1+gy n 4) (by omega) (by omega);have aT:v.bd=true:=by rw[bO.v];simp -implicitDefEqProofs only[af.bd,af.aY,fI.v,ka bO.AC.g,ka bO.gz.g,bD]
 have q:IntKind.wrap .i64 (gy n 33-16)=gy n 33-16:=eD _ (by omega) (by omega);have r:IntKind.wrap .i64 (1+gy n 4)=1+gy n 4:=eD _ (by omega) (by omega);refine⟨v,J1,hr,bN,?_,bO⟩;rw[JJ,Vy];have u:∀(S:ag) (k:bf),(aU aK G X).hd S k 46 [I (gy n 33-16),I (1+gy n 4)]=k (.ea [v,I 0]) S:=fun S k=>mE rfl gh (by simp [af.bd,af.aY,aT])
 have oG:∀(S:ag) (k:bf),(aU aK G X).bJ S k 0 (.ea [v,I 0])=k v S:=fun S k=>k5 _ _
 have dU:∀(S:ag) (k:bf),(aU aK G X).bJ S k 1 (.ea [v,I 0])=k (I 0) S:=fun S k=>k6 _ _ _
 have fC:∀d,af.ap d v=v:=fun d=>by rw[bO.v];rfl
 rw[cJ,aI,aI,a9 (e _),fz,q,aI,aI,a9 (h _),fp,r,aI,aI];refine(u _ _).trans ?_;rw[oG,dU,cJ,fC]
 subst_vars
 obtain⟨y,AC,gz,K,L,M⟩:=bO;subst y;refine(cP 4 _ _ rfl rfl rfl).trans ?_;refine(bV 4 _ (by simp)).trans ?_;have A:∀S:ag,Ab.freeze S (.agg [.bool hr.neg,hr.v,.bool bN.neg,bN.v])=some (.agg [.bool hr.neg,hr.v,.bool bN.neg,bN.v]):=fun S=>by show(fs (ef S) [_,_,_,_]).map af.agg=_;have eZ:=nN AC.g S 1 (hr.hg.map U);have au:=nN gz.g S 1 (bN.hg.map U);have B:ef S hr.v=some hr.v:=eZ;have F:ef S bN.v=some bN.v:=au;simp only[fs,B,F,show∀b,ef S (.bool b)=some (.bool b) from fun b=>rfl,f6,ew]
 refine(pA (T:=aK) (G:=G) (X:=X) (j:=0) (n:=4) (cs:=[.bool false,.bG 1 [] .nil,.bool false,.bG 1 [] .nil]) (vs:=[.bool hr.neg,hr.v,.bool bN.neg,bN.v]) rfl rfl rfl rfl).trans ?_;refine iH (s:=J1) ?_ _ _ (A _);exact⟨rfl,rfl⟩
end
structure wv where
 op:Int
 a:Int
 b:Int
 c:Int
 x:Int
 y:Int
 lx:Int
def wv.cs(p:wv):List af:=[I p.op,I p.a,I p.b,I p.c,I p.x,I p.y,I p.lx]
def wv.enc(p:wv):af:=.agg p.cs
def zK(n:Int):Prop:= -9223372036854775808≤n∧n≤9223372036854775807
structure wv.V7 (p:wv):Prop where
 op:zK p.op
 a:zK p.a
 b:zK p.b
 c:zK p.c
 x:zK p.x
 y:zK p.y
 lx:zK p.lx
def m9:fI:=⟨false,[],.nil⟩
theorem il:j9 m9:=⟨fun a h=>(by cases h),fun x a8=>(by cases a8),(by show(0:Nat)<_;omega)⟩
theorem nr:m9.zM:=⟨fun _=>rfl,Nat.zero_le _⟩
structure Pn (x:aX):Prop where
 hr:x.hr.zM
 bN:x.bN.zM
 lJ:x.lJ.zM
 li:x.li.zM
theorem ww:∀(l pre:List aX) (x:aX),jG pre (l++[x])=(jG pre l&&wf (pre++l) x)
 |[],pre,x=>by simp [jG]
 |y::l,pre,x=>by rw[List.cons_append,jG,ww l,jG,ly,List.singleton_append,Bool.and_assoc]
theorem x6:∀(l:List aX) (i:Nat) (x:aX),(dt (l++[x]) i).length=(dt l i).length+(if x.op=1 then 2 else if x.op=2 then 1 else 0)
 |[],i,x=>by
  simp only[List.nil_append,dt,h1,oJ,cy,bg];split
  ·rfl
  ·split<;> rfl
 |y::l,i,x=>by simp only[List.cons_append,dt,fJ];rw[x6 l];omega
structure CQ (L:List aX) (gl roots i:Nat):Prop where
 wf:jG [] L=true
 ok:∀x,x∈L→pJ x
 adT:∀x,x∈L→Pn x
 x3:x3 L≤roots
 rt:roots≤3
 J3:(dt L 0).length≤gl
 aba:gl≤8
 Iv:∀x,x∈L→∃j,j<i∧x.name=115::eK j
theorem CQ.check{L:List aX}{gl roots i:Nat}(h:CQ L gl roots i)(bK:L.length≤40):hl L=0:=by have au:=h.x3;have az:=h.rt;have b3:=h.J3;have dJ:=h.aba;unfold hl;rw[h.wf,b2,if_neg (by omega)]
theorem CQ.later{L:List aX}{gl roots i:Nat}(h:CQ L gl roots i):CQ L gl roots (i+1):=
 ⟨h.wf,h.ok,h.adT,h.x3,h.rt,h.J3,h.aba,fun x a8=>let⟨j,au,az⟩:=h.Iv x a8;⟨j,by omega,az⟩⟩
theorem J4{w r:Int}(h:mK w r=true)(aT:r=1∨r=2∨r=3):acc w r=true:=by
 unfold mK at h;unfold acc;simp only[Bool.or_eq_true,bn,b1] at h ⊢;rcases h with h|⟨au,az⟩
 ·exact .inl h
 ·exact .inr ⟨au,by omega⟩
theorem CR{L:List aX}(oI:∀o,o∈L→hs o.op≠0){w n:Int}(h:0≤kF L w n):zB L w (kF L w n)=true:=by
 unfold kF at h ⊢;by_cases eZ:(jo w L 0).length=0
 ·rw[if_pos eZ] at h;omega
 ·rw[if_neg eZ] at h ⊢;have fC:=mh (x:=n) (n:=(jo w L 0).length) (by omega);have e:(gy n (jo w L 0).length).toNat<(jo w L 0).length:=by omega
  have hm:(jo w L 0).getD (gy n (jo w L 0).length).toNat 0∈jo w L 0:=by rw[List.getD_eq_getElem?_getD,eP e,Option.getD_some];exact nT e
  generalize (jo w L 0).getD (gy n (jo w L 0).length).toNat 0=a at *;obtain⟨j,x,au,az,b3⟩:=x5 w L 0 a hm;rw[bg] at au;have q:=(ey.1 az).1;have fe:=oI x (List.mem_of_getElem? az);have aT:=Pk x.op;unfold zB;subst au;rw[Int.toNat_natCast,az];simp only[bn,b1];exact⟨⟨by omega,by omega⟩,J4 b3 (by omega)⟩
def eY(L:List aX)(ws cs:List Int):List Int:=List.zipWith (kF L) ws cs
theorem CS{L:List aX}(oI:∀o,o∈L→hs o.op≠0):∀(ws cs:List Int),(∀a,a∈eY L ws cs→0≤a)→kE L ws (eY L ws cs)=true
 |[],_,_=>by simp [eY,kE]
 |_::_,[],_=>by simp [eY,kE]
 |w::ws,c::cs,h=>by simp only[eY,List.zipWith_cons_cons] at h ⊢;rw[kE,bn];exact⟨CR oI (h _ List.mem_cons_self),CS oI ws cs (fun a e=>h a (List.mem_cons_of_mem _ e))⟩
theorem x7(op:Int):(gA op).length≤3:=by
 have c:∀(p:Prop) [Decidable p] (a b:List Int),a.length≤3→b.length≤3→(if p then a else b).length≤3:=fun p _ a b au az=>by
  by_cases h:p
  ·rw[if_pos h];exact au
  ·rw[if_neg h];exact az
 unfold gA
 repeat (refine c _ _ _ (by decide) ?_)
 decide
theorem J5{L:List aX}{i:Nat}(bX:i<131072)(h:∀x,x∈L→∃j,j<i∧x.name=115::eK j)(x:aX)(a8:x.name=115::eK i):oq L x=false:=by
 unfold oq;rw[List.any_eq_false];intro o q;obtain⟨j,au,az⟩:=h o q;rw[a8,az];simp only[List.cons.injEq,true_and,b1];intro e
 have:=JY (by omega) bX e;omega
theorem CQ.snoc{L:List aX}{gl roots e q i:Nat}(h:CQ L gl roots i)(bX:i<131072)(x:aX)(J:1≤x.op∧x.op≤16)(r:x.name=115::eK i)(u:kE L (gA x.op) x.args=true)(A:(gA x.op).length=x.args.length)(B:tw x.op x.lx=true)(F:tx x=true)(dg:pJ x)(CT:Pn x)
  (K:gl+(if x.op=1 then 2 else if x.op=2 then 1 else 0)≤e)(H:e≤8)(M:roots+(if hL x.op=true then 1 else 0)≤q)(I:q≤3):CQ (L++[x]) e q (i+1):=by
 refine⟨?_,fun y eT=>?_,fun y eT=>?_,?_,I,?_,H,fun y eT=>?_⟩
 ·rw[ww,h.wf,eM,List.nil_append];unfold Go.gw.wf;have fe:hs x.op≠0:=by
   unfold hs
   repeat' split
   all_goals omega
  rw[u,B,F,J5 bX h.Iv x r];simp [fe,A,r]
 ·rcases List.mem_append.1 eT with eT|eT
  ·exact h.ok y eT
  ·rw[List.mem_singleton.1 eT];exact dg
 ·rcases List.mem_append.1 eT with eT|eT
  ·exact h.adT y eT
  ·rw[List.mem_singleton.1 eT];exact CT
 ·rw[CL]
  have:=h.x3;omega
 ·rw[x6]
  have:=h.J3;omega
 ·rcases List.mem_append.1 eT with eT|eT
  ·obtain⟨j,au,az⟩:=h.Iv y eT;exact⟨j,by omega,az⟩
  ·rw[List.mem_singleton.1 eT];exact⟨i,by omega,r⟩
end Go.gw
end
section
namespace Go.gw
open Go.Ab Go.hK
theorem wx{T:Nat→Option c0}{G:Nat→af}{X:Nat→List af→ag→ah}{k:bf}(Q:ah→Prop){S:ag}{es new:List af}{g gF:fi}{q bytes:Nat}(cC:gq S g es.length)(dp:new≠[])(r:(es.length+new.length)*bytes≤1099511627776)(a3:(new.flatMap af.cells).all af.eO=true)
  (dl:∀g' S',gq S' g' (es.length+new.length)→g'≠.nil→(g≠.nil→g'=g)→(g=.nil→g'=.dB (.l S.own.length))→Grown S S' g→Q (k (.bG q (es++new) g') S'))(u:∀a,gF≠.dB a:=by intro a h;cases h):
  Q ((aU T G X).gd S k q bytes (some (.l 0)) (.bG q es g) (.bG q new gF)):=by
 by_cases hex:∃g' S',gq S' g' (es.length+new.length)∧g'≠.nil∧(g≠.nil→g'=g)∧(g=.nil→g'=.dB (.l S.own.length))∧Grown S S' g∧(aU T G X).gd S k q bytes (some (.l 0)) (.bG q es g) (.bG q new gF)=k (.bG q (es++new) g') S'
 ·obtain⟨g',S',au,az,b3,dJ,y,A⟩:=hex;rw[A];exact dl g' S' au az b3 dJ y
 ·exfalso;apply hex;rw[qq];unfold gX;simp only;unfold h7;rw[show dL S (.bG q new gF)=some (q,new) from by cases gF<;> first|rfl |exact absurd rfl (u _)];simp only[gM,eM];rw[show Nat.ble ((es.length+new.length)*bytes) 1099511627776=true from eQ r];simp only[b2];cases new with
  |nil=>exact absurd rfl dp
  |cons c cs=>
   rcases cC.inv with⟨rfl,B⟩|⟨j,rfl,lL,h⟩
   ·simp only[ag.hi];refine⟨.dB (.l S.own.length),S.new (.tok (es.length+(c::cs).length)),.dB _ _ (by simp;omega) ?_,by simp,fun h=>absurd rfl h,fun _=>rfl,⟨rfl,rfl,?_,fun j o h _=>?_⟩,rfl⟩
    ·simp [ag.new]
    ·simp [ag.new]
    ·simp only[ag.new];rw[hn (ey.1 h).1];exact h
   ·have e:S.get (.l j)=some (.tok es.length):=h;simp only[e,gM,a3,bD,b2];refine⟨.dB (.l j),{S with own:=S.own.set j (.tok (es.length+(c::cs).length))},.dB _ _ (by simp;omega) ?_,by simp,fun _=>rfl,fun h=>by simp at h,⟨rfl,rfl,by simp,fun i o bX fe=>?_⟩,?_⟩
    ·simp [(ey.1 h).1]
    ·have:j≠i:=fun e=>fe (by rw[e])
     simp only;rw[ns this];exact bX
    ·show(match S.set (.l j) (.tok (es.length+(c::cs).length)) with |some s=>k (.bG q (es++c::cs) (.dB (.l j))) s|none=>.fail)=_;simp only[ag.set]
structure Kb (s S:ag) (im:fi) (n se:Nat) (p:wv):Prop where
 Wj:Child s S
 p3:gq S im n
 abb:S.own[se]? =some (.cells p.cs)
theorem Kb.new{s S:ag}{im:fi}{n se:Nat}{p:wv}(h:Kb s S im n se p)(o:du):Kb s (S.new o) im n se p:=
 ⟨h.Wj.new o,h.p3.new o,by simp only[ag.new];rw[hn (ey.1 h.abb).1];exact h.abb⟩
theorem Kb.grown{s S S':ag}{im q:fi}{n m se:Nat}{p:wv}(h:Kb s S im n se p)(r:gq S q m)(u:∀j,im=.dB (.l j)→q≠.dB (.l j))(cC:Grown S S' q):Kb s S' im n se p:=
 ⟨cC.child h.Wj,cC.grow h.p3 u,cC.own _ _ h.abb (fun e=>by
  subst e;cases r with
  |dB j n dp az=>rw[h.abb] at az;cases az)⟩
theorem Fv{S:ag}{A:List Int}{g:fi}(h:gq S g A.length):nV (iV A g)=iV A (ft A):=by
 rcases h.inv with⟨rfl,eZ⟩|⟨j,rfl,dp,eZ⟩
 ·cases A with
  |nil=>rfl
  |cons a A=>simp at eZ
 ·have aT:af.aY (A.map I)=true:=by
   clear h eZ dp
   induction A with
   |nil=>rfl
   |cons a A e=>show(true&&af.aY (A.map I))=true;rw[e];rfl
  cases A with
  |nil=>simp at dp
  |cons a A=>show(bif af.aY ((a::A).map I) then _ else _)=_;rw[aT];rfl
theorem tA(L:List aX):∀(ws cs:List Int) (i:Nat) (w c:Int),ws[i]? =some w→cs[i]? =some c→eY L (ws.take (i+1)) (cs.take (i+1))=eY L (ws.take i) (cs.take i)++[kF L w c]
 |[],_,i,w,c,h,_=>by simp at h
 |_::_,[],i,w,c,_,h=>by simp at h
 |jj::ws,e::cs,0,w,c,h,az=>by simp at h az;subst h;subst az;simp [eY]
 |jj::ws,e::cs,i+1,w,c,h,az=>by have:=tA L ws cs i w c (by simpa using h) (by simpa using az);simp only[eY] at this ⊢;simp only[cV,List.zipWith_cons_cons,List.cons_append,List.cons.injEq,true_and];exact this
theorem wy(L:List aX):∀(ws cs:List Int) (n:Nat),ws.length≤n→eY L ws (cs.take n)=eY L ws cs
 |[],_,_,_=>by simp [eY]
 |_::_,[],_,_=>by simp [eY]
 |w::ws,c::cs,0,h=>by simp at h
 |w::ws,c::cs,n+1,h=>by have:=wy L ws cs n (by simpa using h);simp only[eY] at this ⊢;simp only[cV,List.zipWith_cons_cons,this]
theorem ov(L:List aX)(ws cs:List Int)(h:ws.length≤cs.length):(eY L ws cs).length=ws.length:=by simp [eY];omega
section
variable(G:Nat→af)(X:Nat→List af→ag→ah)
theorem Fw(Q:ah→Prop)(L:List aX)(oI:L.length≤1000)(im:fi)(s:ag)(se:Nat)(p:wv)(ws cs:List Int)(F gc:fi)(hlen:ws.length≤cs.length)(ak:ws.length≤1000)(Y:∀c,c∈cs→zK c)(nR v1 v6 H J K v10 M:af)
  (fin:∀(S:ag) (q:fi),Kb s S im L.length se p→gq S q (eY L ws cs).length→Q (zo (aU aK G X) nR v1 (b7 L im) v6 H J K v10 M (iV (eY L ws cs) q) S)):
  ∀(n i:Nat),i+n=ws.length→∀(S:ag) (q:fi),Kb s S im L.length se p→gq S q i→(∀j,im=.dB (.l j)→q≠.dB (.l j))→
   Q (t9 (aU aK G X) nR v1 (b7 L im) v6 H J K v10 (iV ws F) M (iV cs gc) (iV (eY L (ws.take i) (cs.take i)) q) (.int .i64 (i:Int)) S):=by
 intro n
 induction n with
 |zero=>
  intro i bX S q h9 u y;rw[v0,aE,eG,bm,cL (by omega),ev];have dU:ws.take i=ws:=iP (by omega);have r:(eY L (ws.take i) (cs.take i)).length=i:=by rw[ov _ _ _ (by simp;omega)];simp;omega
  have A:eY L (ws.take i) (cs.take i)=eY L ws cs:=by rw[dU];exact wy L ws cs i (by omega)
  rw[A] at r ⊢;exact fin S q h9 (by rw[r];exact u)
 |succ n Z=>
  intro i bX S q h9 u y;have N:ws[i]? =some (ws.getD i 0):=by simp [List.getD_eq_getElem?_getD,eP (show i<ws.length by omega)]
  have B:cs[i]? =some (cs.getD i 0):=by simp [List.getD_eq_getElem?_getD,eP (show i<cs.length by omega)]
  have a3:=Y _ (List.mem_of_getElem? B);have r:(eY L (ws.take i) (cs.take i)).length=i:=by rw[ov _ _ _ (by simp;omega)];simp;omega
  have a6:=tA L ws cs i _ _ N B;generalize ws.getD i 0=w at *;generalize cs.getD i 0=c at *;have ab:=fun(k:bf)=>wi G X S k 1 (ws.map I) F .i64 i (I w) (by simp [N])
  have ac:=fun(k:bf)=>wi G X S k 1 (cs.map I) gc .i64 i (I c) (by simp [B])
  have O:=fun(c:Int) (k:bf)=>ba (T:=aK) (G:=G) (X:=X) (s:=S) (k:=k) (I c) []
  have ad:=fun S k=>nn G X S k i (by omega)
  have ae:=V4 G X L (im.ap S.aa) w c a3 oI S;rw[v0,aE,eG,bm,dY (by omega),eo,Ey];rw[ab];rw[show af.cells (I w)=[I w] from rfl,O,ac,show af.cells (I c)=[I c] from rfl,O,aI,aI,show af.ap S.aa (b7 L im)=b7 L (im.ap S.aa) from rfl,a9 ae,xN];refine wx Q (new:=[I (kF L w c)]) (by rw[eG,r];exact u) (by simp) (by rw[eG,r];simp;omega) rfl (fun gF ai U au az b3 aj=>?_);rw[Ex,ad];rw[eG,r,List.length_singleton] at U
  have:=Z (i+1) (by omega) ai gF (h9.grown u y aj) U (fun j df e=>by
   by_cases dp:q=.nil
   ·have A:=b3 dp;rw[A] at e;injection e with e;injection e with e
    have V:=h9.p3;rw[df] at V;cases V with
    |dB j n dp h=>have:=(ey.1 h).1;omega
   ·exact y j df (by rw[←az dp];exact e))
  rw[a6] at this;rw[show iV (eY L (ws.take i) (cs.take i)++[kF L w c]) gF=.bG 1 ((eY L (ws.take i) (cs.take i)).map I++[I (kF L w c)]) gF from by simp [iV]] at this;exact this
def pr(op:Int)(A:List Int):Int:=if A.any (fun a=>decide (a<0))=true then 1 else op
theorem Fx(A:List Int)(e:fi)(L:A.length≤1000)(nR v1 q v6 r u y B:af)(S:ag):∀(n i:Nat),i+n=A.length→∀op:Int,
  t8 (aU aK G X) nR v1 q v6 r u y (I op) B (iV A e) (.int .i64 (i:Int)) S=rX (aU aK G X) nR v1 q v6 r u y (I (pr op (A.drop i))) B (iV A e) S:=by
 intro n
 induction n with
 |zero=>intro i bX op;rw[vZ,aE,eG,bm,cL (by omega),ev,lz (by omega)];rfl
 |succ n F=>
  intro i bX op;have bK:i<A.length:=by omega
  have J:=fun(k:bf)=>wi G X S k 1 (A.map I) e .i64 i (I A[i]) (by simp [bK])
  have K:=fun(c:Int) (k:bf)=>ba (T:=aK) (G:=G) (X:=X) (s:=S) (k:=k) (I c) []
  have H:=fun S k=>nn G X S k i (by omega)
  have cS:A.drop i=A[i]::A.drop (i+1):=iW bK;rw[vZ,aE,eG,bm,dY (by omega),eo,Ez,J,show af.cells (I A[i])=[I A[i]] from rfl,K,bm,cS];generalize A[i]=a at *;by_cases h:a<0
  ·rw[dY h,eo,tq,H,F (i+1) (by omega)]
   have:∀x,pr 1 x=1:=fun x=>by unfold pr;split<;> rfl
   rw[this,show pr op (a::A.drop (i+1))=1 from by unfold pr;simp [h]]
  ·rw[cL h,ev,tq,H,F (i+1) (by omega)];rw[show pr op (a::A.drop (i+1))=pr op (A.drop (i+1)) from by unfold pr;simp [h]]
end
section
variable(G:Nat→af)(X:Nat→List af→ag→ah)
theorem na(Q:ah→Prop)(L:List aX)(im:fi)(x:aX)(a8:pJ x)(bK:L.length≤1000)(s S:ag)(h:Child s S)(cC:gq S im L.length)(nR v1 v6 e:af)(i:Nat)(bX:i<131072)
  (dl:∀S' g',Child s S'→gq S' g' (L++[x]).length→Q (kD (aU aK G X) nR v1 (b7 (L++[x]) g') v6 e (.int .i64 ((i+1:Nat):Int)) S')):
  Q (nL (aU aK G X) nR v1 (b7 L im) v6 e (.int .i64 (i:Int)) (.ref (.l S.own.length) 0) (S.new (.cells x.cs))):=by
 rw[Cl,bV 12 x.cs (show 12≤x.cs.length from aC 12)];have q:∀(S:ag) (K:bf),(aU aK G X).be S K 12 [.agg (x.cs.take 12)]=K (.bG 12 [x.enc] .exact) S:=fun S K=>by refine iM 12 [x.enc] ?_ rfl;show(x.enc.bd&&true)=true;rw[a8.bd];rfl
 rw[q];refine wx Q (new:=[x.enc]) (by rw[eG];exact cC.new _) (by simp) (by simp;omega) rfl (fun gF r u au az b3 y=>?_);rw[tr,ji i (by omega)]
 have:=dl r gF (y.child (h.new _)) (by simpa using u);rw[show b7 (L++[x]) gF=.bG 12 (L.map aX.enc++[x.enc]) gF from by simp [b7]] at this;exact this
def PF:List af:=[.str [],.int .i64 0,.bG 1 [] .nil,.bool false,.bG 1 [] .nil,.bool false,.bG 1 [] .nil,.bool false,.bG 1 [] .nil,.bool false,.bG 1 [] .nil,.int .i64 0]
theorem CU(dX:G 0=.bI jn)(Q:ah→Prop)(L:List aX)(im M:fi)(bK:L.length≤1000)(s S:ag)(se:Nat)(p:wv)(fC:p.V7)(h9:Kb s S im L.length se p)(nR v1:af)(i gl roots:Nat)(bX:i<131072)(op:Int)(b:Bool)(A:List Int)(O:gq S M A.length)(ae:A.length≤3)(aj:gl≤8)(ak:roots≤3)
  (k1:op=1→∀hr bN lJ li S' g',hr.zM→bN.zM→lJ.zM→li.zM→j9 hr→j9 bN→j9 lJ→j9 li→iU hr bN=true→iU lJ li=true→Child s S'→gq S' g' (L++[aX.mk (115::eK i) op [] .nil hr bN lJ li 0]).length→Q (kD (aU aK G X) nR v1 (b7 (L++[aX.mk (115::eK i) op [] .nil hr bN lJ li 0]) g') (.int .i64 ((gl+2:Nat):Int)) (.int .i64 (roots:Int)) (.int .i64 ((i+1:Nat):Int)) S'))
  (oR:op=2→∀hr bN S' g',hr.zM→bN.zM→j9 hr→j9 bN→iU hr bN=true→Child s S'→gq S' g' (L++[aX.mk (115::eK i) op A (ft A) hr bN m9 m9 0]).length→Q (kD (aU aK G X) nR v1 (b7 (L++[aX.mk (115::eK i) op A (ft A) hr bN m9 m9 0]) g') (.int .i64 ((gl+1:Nat):Int)) (.int .i64 (roots:Int)) (.int .i64 ((i+1:Nat):Int)) S'))
  (U:op≠1→op≠2→b=true→∀lx S' g',(lx=1∨lx=2)→Child s S'→gq S' g' (L++[aX.mk (115::eK i) op A (ft A) m9 m9 m9 m9 lx]).length→Q (kD (aU aK G X) nR v1 (b7 (L++[aX.mk (115::eK i) op A (ft A) m9 m9 m9 m9 lx]) g') (.int .i64 (gl:Int)) (.int .i64 ((roots+1:Nat):Int)) (.int .i64 ((i+1:Nat):Int)) S'))
  (V:op≠1→op≠2→b=false→∀S' g',Child s S'→gq S' g' (L++[aX.mk (115::eK i) op A (ft A) m9 m9 m9 m9 0]).length→Q (kD (aU aK G X) nR v1 (b7 (L++[aX.mk (115::eK i) op A (ft A) m9 m9 m9 m9 0]) g') (.int .i64 (gl:Int)) (.int .i64 (roots:Int)) (.int .i64 ((i+1:Nat):Int)) S')):
  Q (pj (aU aK G X) nR v1 (b7 L im) (.int .i64 (gl:Int)) (.int .i64 (roots:Int)) (.int .i64 (i:Int)) (.ref (.l se) 0) (I op) (.bool b) (iV A M) S):=by
 have K0:∀(S:ag) (K:bf),(aU aK G X).hd S K 19 [.int .i64 (i:Int)]=K (.str (eK i)) S:=fun S K=>mE rfl (V3 G X dX i bX J1) rfl
 have cat:∀(S:ag) (K:bf),(aU aK G X).ai S K (an .add (.str [115]) (.str (eK i)))=K (.str (115::eK i)) S:=fun S K=>by
  have al:=JZ bX;have e:an .add (.str [115]) (.str (eK i))=some (.str (115::eK i)):=by show(if Nat.ble ([115].length+(eK i).length) 1099511627776 then some (af.str ([115]++eK i)) else none)=_;rw[show Nat.ble ([115].length+(eK i).length) 1099511627776=true from eQ (by simp;omega)];rfl
  rw[e];rfl
 have Y:∀(S:ag) (K:bf) (a:af),(aU aK G X).f4 [.str [],.int .i64 0,.bG 1 [] .nil,.bool false,.bG 1 [] .nil,.bool false,.bG 1 [] .nil,.bool false,.bG 1 [] .nil,.bool false,.bG 1 [] .nil,.int .i64 0] [(0,1,.str (115::eK i)),(1,1,I op)] S K=K (.agg [.str (115::eK i),I op,.bG 1 [] .nil,.bool false,.bG 1 [] .nil,.bool false,.bG 1 [] .nil,.bool false,.bG 1 [] .nil,.bool false,.bG 1 [] .nil,.int .i64 0]) S:=fun S K a=>rfl
 have B:∀(cs:List af) (K:bf) (o:Nat) (c:af),p.cs[o]? =some c→(aU aK G X).ar (S.new (.cells cs)) K none (.ref (.l se) o)=K c (S.new (.cells cs)):=fun cs K o c h=>iN (h9.new _).abb h
 have w:=Fv O;have F:∀a,ft A≠.dB a:=fun a e=>by unfold ft at e;split at e<;> cases e
 have H:∀d,af.ap d (iV A (ft A))=iV A (ft A):=fun d=>by show af.bG 1 _ ((ft A).ap d)=_;rw[po F]
 have Pw:A.length<9223372036854775807:=by omega
 rw[Cm,aI,K0,cat,Y _ _ .dead,cJ,a7,cP 12 _ _ rfl rfl rfl,bE];by_cases au:op=1
 ·rw[dY au,eo];obtain⟨u,Z,hr,bN,ex,q⟩:=zJ G X p.x fC.x;obtain⟨N,am,lJ,li,aa,r⟩:=zJ G X p.y fC.y;have rx:u.bd=true:=by
   rw[q.v];simp -implicitDefEqProofs only[af.bd,af.aY,fI.v,ka q.AC.g,ka q.gz.g,bD]
  have ab:N.bd=true:=by rw[r.v];simp -implicitDefEqProofs only[af.bd,af.aY,fI.v,ka r.AC.g,ka r.gz.g,bD]
  have J:∀(S:ag) (K:bf),(aU aK G X).hd S K 36 [I p.x]=K u S:=fun S K=>mE rfl ex rx
  have ac:∀(S:ag) (K:bf),(aU aK G X).hd S K 36 [I p.y]=K N S:=fun S K=>mE rfl aa ab
  rw[aA,B _ _ (0+4) (I p.x) rfl,aI,J,aA,q.v,a7];refine(congrArg Q ((ou G X 4 3 (.agg [.bool hr.neg,hr.v,.bool bN.neg,bN.v]) rfl rfl (by simp) rfl:(aU aK G X).b8 (S.new (.cells [.str (115::eK i),I op,.bG 1 [] .nil,.bool false,.bG 1 [] .nil,.bool false,.bG 1 [] .nil,.bool false,.bG 1 [] .nil,.bool false,.bG 1 [] .nil,.int .i64 0])) _ 4 (.ref (.l S.own.length) (0+3)) _=_))).mpr ?_;rw[aA];show Q ((aU aK G X).ar (S.new (.cells [.str (115::eK i),I op,.bG 1 [] .nil,.bool hr.neg,hr.v,.bool bN.neg,bN.v,.bool false,.bG 1 [] .nil,.bool false,.bG 1 [] .nil,.int .i64 0])) _ none (.ref (.l se) (0+5)));rw[B _ _ (0+5) (I p.y) rfl,aI,ac,aA,r.v,a7];refine(congrArg Q ((ou G X 4 7 (.agg [.bool lJ.neg,lJ.v,.bool li.neg,li.v]) rfl rfl (by simp) rfl:(aU aK G X).b8 (S.new (.cells [.str (115::eK i),I op,.bG 1 [] .nil,.bool hr.neg,hr.v,.bool bN.neg,bN.v,.bool false,.bG 1 [] .nil,.bool false,.bG 1 [] .nil,.int .i64 0])) _ 4 (.ref (.l S.own.length) (0+7)) _=_))).mpr ?_;rw[show∀(S:ag) (K:bf),(aU aK G X).ai S K (an .add (.int .i64 (gl:Int)) (.int .i64 2))=K (.int .i64 ((gl+2:Nat):Int)) S from fun S K=>iy gl 2 (by omega)];refine na G X Q L im ⟨115::eK i,op,[],.nil,hr,bN,lJ,li,0⟩ ⟨fun a e=>(by cases e),by simp,q.AC,q.gz,r.AC,r.gz⟩ bK s S h9.Wj h9.p3 nR v1 _ _ i bX (fun S' g' a3 cC=>?_);exact k1 au hr bN lJ li S' g' q.aa7 q.jA r.aa7 r.jA q.AC q.gz r.AC r.gz q.valid r.valid a3 cC
 ·rw[cL au,ev,bE];by_cases az:op=2
  ·rw[dY az,eo];obtain⟨u,Z,hr,bN,ex,q⟩:=zJ G X p.x fC.x;have rx:u.bd=true:=by
    rw[q.v];simp -implicitDefEqProofs only[af.bd,af.aY,fI.v,ka q.AC.g,ka q.gz.g,bD]
   have J:∀(S:ag) (K:bf),(aU aK G X).hd S K 36 [I p.x]=K u S:=fun S K=>mE rfl ex rx
   rw[aA,w,H];refine(congrArg Q ((ou G X 1 2 (iV A (ft A)) rfl rfl (by simp) rfl:(aU aK G X).b8 (S.new (.cells [.str (115::eK i),I op,.bG 1 [] .nil,.bool false,.bG 1 [] .nil,.bool false,.bG 1 [] .nil,.bool false,.bG 1 [] .nil,.bool false,.bG 1 [] .nil,.int .i64 0])) _ 1 (.ref (.l S.own.length) (0+2)) _=_))).mpr ?_;rw[aA];show Q ((aU aK G X).ar (S.new (.cells [.str (115::eK i),I op,iV A (ft A),.bool false,.bG 1 [] .nil,.bool false,.bG 1 [] .nil,.bool false,.bG 1 [] .nil,.bool false,.bG 1 [] .nil,.int .i64 0])) _ none (.ref (.l se) (0+4)));rw[B _ _ (0+4) (I p.x) rfl,aI,J,aA,q.v,a7];refine(congrArg Q ((ou G X 4 3 (.agg [.bool hr.neg,hr.v,.bool bN.neg,bN.v]) rfl rfl (by simp) rfl:(aU aK G X).b8 (S.new (.cells [.str (115::eK i),I op,iV A (ft A),.bool false,.bG 1 [] .nil,.bool false,.bG 1 [] .nil,.bool false,.bG 1 [] .nil,.bool false,.bG 1 [] .nil,.int .i64 0])) _ 4 (.ref (.l S.own.length) (0+3)) _=_))).mpr ?_;rw[show∀(S:ag) (K:bf),(aU aK G X).ai S K (an .add (.int .i64 (gl:Int)) (.int .i64 1))=K (.int .i64 ((gl+1:Nat):Int)) S from fun S K=>iy gl 1 (by omega)];refine na G X Q L im ⟨115::eK i,op,A,ft A,hr,bN,m9,m9,0⟩ ⟨F,Pw,q.AC,q.gz,il,il⟩ bK s S h9.Wj h9.p3 nR v1 _ _ i bX (fun S' g' a3 cC=>?_);exact oR az hr bN S' g' q.aa7 q.jA q.AC q.gz q.valid a3 cC
  ·rw[cL az,ev];cases b with
   |true=>
    have ao:=mh (x:=p.lx) (n:=2) (by omega);have xr:=fun s=>sd G X p.lx 2 (by omega) fC.lx s
    have ad:IntKind.wrap .i64 (1+gy p.lx 2)=1+gy p.lx 2:=eD _ (by omega) (by omega);rw[eo,aA,w,H];refine(congrArg Q ((ou G X 1 2 (iV A (ft A)) rfl rfl (by simp) rfl:(aU aK G X).b8 (S.new (.cells [.str (115::eK i),I op,.bG 1 [] .nil,.bool false,.bG 1 [] .nil,.bool false,.bG 1 [] .nil,.bool false,.bG 1 [] .nil,.bool false,.bG 1 [] .nil,.int .i64 0])) _ 1 (.ref (.l S.own.length) (0+2)) _=_))).mpr ?_;rw[aA];show Q ((aU aK G X).ar (S.new (.cells [.str (115::eK i),I op,iV A (ft A),.bool false,.bG 1 [] .nil,.bool false,.bG 1 [] .nil,.bool false,.bG 1 [] .nil,.bool false,.bG 1 [] .nil,.int .i64 0])) _ none (.ref (.l se) (0+6)));rw[B _ _ (0+6) (I p.lx) rfl,aI,aI,a9 (xr _),fp,ad,aA,aI];refine(congrArg Q ((ou G X 1 11 (I (1+gy p.lx 2)) rfl rfl (by simp) rfl:(aU aK G X).b8 (S.new (.cells [.str (115::eK i),I op,iV A (ft A),.bool false,.bG 1 [] .nil,.bool false,.bG 1 [] .nil,.bool false,.bG 1 [] .nil,.bool false,.bG 1 [] .nil,.int .i64 0])) _ 1 (.ref (.l S.own.length) (0+11)) _=_))).mpr ?_;rw[show∀(S:ag) (K:bf),(aU aK G X).ai S K (an .add (.int .i64 (roots:Int)) (.int .i64 1))=K (.int .i64 ((roots+1:Nat):Int)) S from fun S K=>iy roots 1 (by omega)];refine na G X Q L im ⟨115::eK i,op,A,ft A,m9,m9,m9,m9,1+gy p.lx 2⟩ ⟨F,Pw,il,il,il,il⟩ bK s S h9.Wj h9.p3 nR v1 _ _ i bX (fun S' g' a3 cC=>?_);exact U au az rfl _ S' g' (by omega) a3 cC
   |false=>rw[ev,aA,w,H];refine(congrArg Q ((ou G X 1 2 (iV A (ft A)) rfl rfl (by simp) rfl:(aU aK G X).b8 (S.new (.cells [.str (115::eK i),I op,.bG 1 [] .nil,.bool false,.bG 1 [] .nil,.bool false,.bG 1 [] .nil,.bool false,.bG 1 [] .nil,.bool false,.bG 1 [] .nil,.int .i64 0])) _ 1 (.ref (.l S.own.length) (0+2)) _=_))).mpr ?_;refine na G X Q L im ⟨115::eK i,op,A,ft A,m9,m9,m9,m9,0⟩ ⟨F,Pw,il,il,il,il⟩ bK s S h9.Wj h9.p3 nR v1 _ _ i bX (fun S' g' a3 cC=>?_);exact V au az rfl S' g' a3 cC
end
theorem V8(op:Int)(A:List Int):pr op A=1∨(pr op A=op∧∀a,a∈A→0≤a):=by
 unfold pr;by_cases h:A.any (fun a=>decide (a<0))=true
 ·rw[if_pos h];exact .inl rfl
 ·rw[if_neg h];refine .inr ⟨rfl,fun a e=>?_⟩
  have:=List.any_eq_false.1 (Bool.eq_false_iff.2 h) a e;simp at this;omega
theorem ps{α:Type}(A:List α):∀a,ft A≠.dB a:=fun a e=>by unfold ft at e;split at e<;> cases e
section
variable(G:Nat→af)(X:Nat→List af→ag→ah)
theorem CV(dX:G 0=.bI jn)(Q:ah→Prop)(L:List aX)(im F:fi)(bK:L.length≤40)(s S:ag)(se:Nat)(p:wv)(fC:p.V7)(h9:Kb s S im L.length se p)(nR v1:af)(i gl roots:Nat)(bX:i<131072)(q:Int)(aB:1≤q∧q≤16)
  (u:CQ L gl roots i)(ak:gq S F (eY L (gA q) [p.a,p.b,p.c]).length)
  (dl:∀J ac ad S' g',CQ J ac ad (i+1)→J.length≤L.length+1→Child s S'→gq S' g' J.length→Q (kD (aU aK G X) nR v1 (b7 J g') (.int .i64 (ac:Int)) (.int .i64 (ad:Int)) (.int .i64 ((i+1:Nat):Int)) S')):
  Q (rX (aU aK G X) nR v1 (b7 L im) (.int .i64 (gl:Int)) (.int .i64 (roots:Int)) (.int .i64 (i:Int)) (.ref (.l se) 0) (I (pr q (eY L (gA q) [p.a,p.b,p.c]))) (.bool (hL q)) (iV (eY L (gA q) [p.a,p.b,p.c]) F) S):=by
 have K:=u.rt;have N:=u.aba;have al:=x7 q;have B:(eY L (gA q) [p.a,p.b,p.c]).length=(gA q).length:=ov _ _ _ (by simpa using al);have oI:∀o,o∈L→hs o.op≠0:=fun o h=>Pl (l:=L) (pre:=L) (rest:=[]) (by simp) u.wf o h
 have O:=V8 q (eY L (gA q) [p.a,p.b,p.c]);have U:pr q (eY L (gA q) [p.a,p.b,p.c])≠1→kE L (gA q) (eY L (gA q) [p.a,p.b,p.c])=true:=fun h=>by
  rcases O with e|⟨_,e⟩
  ·exact absurd e h
  ·exact CS oI _ _ e
 have V:pr q (eY L (gA q) [p.a,p.b,p.c])≠1→pr q (eY L (gA q) [p.a,p.b,p.c])=q:=fun h=>by
  rcases O with e|⟨e,_⟩
  ·exact absurd e h
  ·exact e
 have aC:1≤pr q (eY L (gA q) [p.a,p.b,p.c]):=by rcases O with e|⟨e,_⟩<;> omega
 generalize aD:eY L (gA q) [p.a,p.b,p.c]=A at *;generalize aE:pr q A=op at *;have aF:A.length≤3:=by omega
 have skip:Q (pi (aU aK G X) nR v1 (b7 L im) (.int .i64 (gl:Int)) (.int .i64 (roots:Int)) (.int .i64 (i:Int)) S):=by rw[tr,ji i (by omega)];exact dl L gl roots S im u.later (by omega) h9.Wj h9.p3
 have go:(hL q=true→roots≠3)→(op≤2→gl≤6)→Q (pj (aU aK G X) nR v1 (b7 L im) (.int .i64 (gl:Int)) (.int .i64 (roots:Int)) (.int .i64 (i:Int)) (.ref (.l se) 0) (I op) (.bool (hL q)) (iV A F) S):=fun H M=>by
  refine CU G X dX Q L im F (by omega) s S se p fC h9 nR v1 i gl roots bX op (hL q) A ak (by omega) N K ?_ ?_ ?_ ?_
  ·intro au hr bN lJ li S' g' dU Y am ao Z aa ap aq pE qO a3 cC;subst au;have M:=M (by omega);refine dl _ _ _ S' g' (u.snoc bX (aX.mk (115::eK i) 1 [] .nil hr bN lJ li 0) (by show(1:Int)≤1∧(1:Int)≤16;omega) rfl rfl rfl rfl ?_ ⟨fun a e=>(by cases e),by simp,Z,aa,ap,aq⟩ ⟨dU,Y,am,ao⟩ ?_ ?_ ?_ K) (by simp) a3 cC
   ·show(iU hr bN&&iU lJ li)=true;rw[pE,qO];rfl
   ·show gl+2≤gl+2;omega
   ·omega
   ·show roots+0≤roots;omega
  ·intro az hr bN S' g' dU Y Z aa pE a3 cC;have fe:op≠1:=by omega
   have M:=M (by omega);have e:=V fe;have y:=U fe;subst az;rw[←e] at y B;refine dl _ _ _ S' g' (u.snoc bX (aX.mk (115::eK i) 2 A (ft A) hr bN m9 m9 0) (by show(1:Int)≤2∧(2:Int)≤16;omega) rfl y B.symm rfl ?_ ⟨ps A,(by show A.length<_;omega),Z,aa,il,il⟩ ⟨dU,Y,nr,nr⟩ ?_ ?_ ?_ K) (by simp) a3 cC
   ·show(iU hr bN&&l5 m9 m9)=true;rw[pE];rfl
   ·show gl+1≤gl+1;omega
   ·omega
   ·show roots+0≤roots;omega
  ·intro au az r lx S' g' ar a3 cC;have e:=V au;have y:=U au;have H:=H r;rw[←e] at y B r;refine dl _ _ _ S' g' (u.snoc bX (aX.mk (115::eK i) op A (ft A) m9 m9 m9 m9 lx) (by show 1≤op∧op≤16;omega) rfl y B.symm ?_ ?_ ⟨ps A,(by show A.length<_;omega),il,il,il,il⟩ ⟨nr,nr,nr,nr⟩ ?_ N ?_ ?_) (by simp) a3 cC
   ·unfold tw;rw[if_pos r];exact dY ar
   ·unfold tx;rw[if_neg au,if_neg az];rfl
   ·show gl+(if op=1 then 2 else if op=2 then 1 else 0)≤gl;rw[if_neg au,if_neg az];omega
   ·show roots+(if hL op=true then 1 else 0)≤roots+1;rw[if_pos r];omega
   ·omega
  ·intro au az r S' g' a3 cC;have e:=V au;have y:=U au;rw[←e] at y B r;have aj:¬hL op=true:=by rw[r];simp
   refine dl _ _ _ S' g' (u.snoc bX (aX.mk (115::eK i) op A (ft A) m9 m9 m9 m9 0) (by show 1≤op∧op≤16;omega) rfl y B.symm ?_ ?_ ⟨ps A,(by show A.length<_;omega),il,il,il,il⟩ ⟨nr,nr,nr,nr⟩ ?_ N ?_ K) (by simp) a3 cC
   ·unfold tw;rw[if_neg aj];rfl
   ·unfold tx;rw[if_neg au,if_neg az];rfl
   ·show gl+(if op=1 then 2 else if op=2 then 1 else 0)≤gl;rw[if_neg au,if_neg az];omega
   ·show roots+(if hL op=true then 1 else 0)≤roots;rw[if_neg aj];omega
 have rest:(hL q=true→roots≠3)→Q ((aU aK G X).ae (.bool false) false (fun k=>k (I op) S) S (fun as s=>(aU aK G X).ae (.bool false) false (fun k=>(aU aK G X).ai s k (an .leq as (.int .i64 2))) s (fun av s=>(aU aK G X).ae (.bool false) false (fun k=>k av s) s (fun ab s=>(aU aK G X).ae ab true (fun k=>k (.int .i64 (gl:Int)) s) s (fun aw s=>(aU aK G X).ae ab true (fun k=>(aU aK G X).ai s k (an .gtr aw (.int .i64 6))) s (fun ax s=>(aU aK G X).ae (.bool false) false (fun k=>(aU aK G X).bs s k ab ax (.bool false)) s (fun ay s=>(aU aK G X).bs s (fun aA s=>(aU aK G X).aR aA (pi (aU aK G X) nR v1 (b7 L im) (.int .i64 (gl:Int)) (.int .i64 (roots:Int)) (.int .i64 (i:Int)) s) (pj (aU aK G X) nR v1 (b7 L im) (.int .i64 (gl:Int)) (.int .i64 (roots:Int)) (.int .i64 (i:Int)) (.ref (.l se) 0) (I op) (.bool (hL q)) (iV A F) s)) (.bool false) (.bool true) ay))))))):=fun H=>by
  simp -implicitDefEqProofs only[dM,c1];by_cases az:op≤2
  ·simp -implicitDefEqProofs only[dY az,fQ,dM,ca];by_cases b3:(6:Int)<(gl:Int)
   ·simp -implicitDefEqProofs only[dY b3,fv,eJ,eo];exact skip
   ·simp -implicitDefEqProofs only[cL b3,fv,eJ,ev];exact go H (fun _=>by omega)
  ·simp -implicitDefEqProofs only[cL az,ha,bU,dM,fv,eJ,ev];exact go H (fun h=>absurd h az)
 rw[Cn];cases r:hL q with
 |true=>
  rw[r] at rest;simp -implicitDefEqProofs only[fQ,bE];by_cases b3:(roots:Int)=3
  ·simp -implicitDefEqProofs only[dY b3,fv,gQ,bU,eo];exact skip
  ·simp -implicitDefEqProofs only[cL b3,fv];exact rest (fun _ e=>b3 (by omega))
 |false=>rw[r] at rest;simp -implicitDefEqProofs only[ha,bU,eJ];exact rest (fun e=>by cases e)
end
theorem WC(L:List aX)(h:∀x,x∈L→pJ x):af.aY (L.map aX.enc)=true:=by
 induction L with
 |nil=>rfl
 |cons x L e=>show(x.enc.bd&&af.aY (L.map aX.enc))=true;rw[(h x List.mem_cons_self).bd,e (fun y eT=>h y (List.mem_cons_of_mem _ eT))];rfl
abbrev tB(ec:List wv)(g:fi):af:=.bG 7 (ec.map wv.enc) g
section
variable(G:Nat→af)(X:Nat→List af→ag→ah)
theorem Fy(dX:G 0=.bI jn)(Q:ah→Prop)(L:List aX)(im:fi)(bK:L.length≤40)(s S:ag)(se:Nat)(p:wv)(fC:p.V7)(h9:Kb s S im L.length se p)(nR v1:af)(i gl roots:Nat)(bX:i<131072)(q:Int)(H:1≤q∧q≤16)
  (J:CQ L gl roots i)
  (dl:∀r y A S' g',CQ r y A (i+1)→r.length≤L.length+1→Child s S'→gq S' g' r.length→Q (kD (aU aK G X) nR v1 (b7 r g') (.int .i64 (y:Int)) (.int .i64 (A:Int)) (.int .i64 ((i+1:Nat):Int)) S')):
  Q (rY (aU aK G X) nR v1 (b7 L im) (.int .i64 (gl:Int)) (.int .i64 (roots:Int)) (.int .i64 (i:Int)) (.ref (.l se) 0) (I q) S):=by
 have u:∀(K:bf) (o:Nat) (c:af),p.cs[o]? =some c→(aU aK G X).ar S K none (.ref (.l se) o)=K c S:=fun K o c h=>iN h9.abb h
 have yX:=fun s=>Ir G X q s
 have fc:∀(S:ag) (K:bf),(aU aK G X).be S K 1 [I p.a,I p.b,I p.c]=K (iV [p.a,p.b,p.c] .exact) S:=fun S K=>rfl
 have B:=x7 q;have M:∀K:bf,(aU aK G X).bJ S K 0 (oE q)=K (iV (gA q) (r8 q)) S:=fun K=>k5 _ _
 have N:∀K:bf,(aU aK G X).bJ S K 1 (oE q)=K (I (hs q)) S:=fun K=>k6 _ _ _
 have O:∀K:bf,(aU aK G X).bJ S K 2 (oE q)=K (.bool (hL q)) S:=fun K=>vn _ _ _ _
 rw[EB,aI,a9 (yX _),M,N,O,aA,u _ (0+1) (I p.a) rfl,aA,u _ (0+2) (I p.b) rfl,aA,u _ (0+3) (I p.c) rfl,fc];refine Fw G X Q L (by omega) im s se p (gA q) [p.a,p.b,p.c] (r8 q) .exact B (by omega) ?_ nR v1 _ _ _ _ _ _ (fun S' F U V=>?_) (gA q).length 0 (by omega) S .nil h9 .nil (fun j _ e=>by cases e)
 ·intro c a3;simp only[List.mem_cons,mi,or_false] at a3;rcases a3 with rfl |rfl |rfl
  ·exact fC.a
  ·exact fC.b
  ·exact fC.c
 ·have Y:(eY L (gA q) [p.a,p.b,p.c]).length=(gA q).length:=ov _ _ _ (by simpa using B);rw[EA];refine(congrArg Q (Fx G X (eY L (gA q) [p.a,p.b,p.c]) F (by omega) _ _ _ _ _ _ _ _ S' (eY L (gA q) [p.a,p.b,p.c]).length 0 (by omega) q)).mpr ?_;exact CV G X dX Q L im F bK s S' se p fC U nR v1 i gl roots bX q H J V dl
theorem Fz(dX:G 0=.bI jn)(ec:List wv)(B:fi)(J:∀p,p∈ec→p.V7)(ab:ec.length≤131072)(n:Nat)(dp:n≤40)(s:ag):∀(k i:Nat),i+k=ec.length→∀(L:List aX) (gl roots:Nat) (S:ag) (im:fi),CQ L gl roots i→L.length≤n→Child s S→gq S im L.length→
  ∃(e:List aX) (h q hI:Nat),CQ e h q hI∧e.length≤n∧kD (aU aK G X) (tB ec B) (.int .i64 (n:Int)) (b7 L im) (.int .i64 (gl:Int)) (.int .i64 (roots:Int)) (.int .i64 (i:Int)) S=.ok (b7 e (ft e)) s:=by
 intro k
 induction k with
 |zero=>
  intro i bX L gl roots S im u bK A cC;refine⟨L,gl,roots,i,u,bK,?_⟩;rw[qu,aE,eG,bm,cL (by omega)];simp -implicitDefEqProofs only[ha,bU,eJ,ev];rw[ts]
  have:=kA (S:=S) (sz:=12) (es:=L.map aX.enc) (g:=im) (by simpa using cC) (WC L u.ok);rw[nO] at this;exact iH A _ _ this
 |succ k M=>
  intro i bX L gl roots S im u bK A cC;have F:i<ec.length:=by omega
  have el:(L.map aX.enc).length=L.length:=eG ..;by_cases ac:L.length<n
  ·have N:(ec.map wv.enc)[i]? =some ec[i].enc:=by simp [F]
   have H:=J ec[i] (nT F);have ip:=fun(k:bf)=>wi G X S k 7 _ B .i64 i _ N
   generalize ec[i]=p at *;have O:∀K:bf,(aU aK G X).ar S K (some 7) (.bI p.enc.cells)=K (.agg p.cs) S:=fun K=>bb 7 p.cs (show 7≤p.cs.length from aC 7)
   have ad:=mh (x:=p.op) (n:=16) (by omega);have xr:=fun s=>sd G X p.op 16 (by omega) H.op s
   have U:IntKind.wrap .i64 (1+gy p.op 16)=1+gy p.op 16:=eD _ (by omega) (by omega);have h9:Kb s (S.new (.cells p.cs)) im L.length S.own.length p:=⟨A.new _,cC.new _,by simp [ag.new]⟩;have fin:∀y:Int,1≤y∧y≤16→∃(e:List aX) (h q hI:Nat),CQ e h q hI∧e.length≤n∧rY (aU aK G X) (tB ec B) (.int .i64 (n:Int)) (b7 L im) (.int .i64 (gl:Int)) (.int .i64 (roots:Int)) (.int .i64 (i:Int)) (.ref (.l S.own.length) 0) (I y) (S.new (.cells p.cs))=.ok (b7 e (ft e)) s:=fun y V=>by refine Fy G X dX (fun r=>∃(e:List aX) (h q hI:Nat),CQ e h q hI∧e.length≤n∧r=.ok (b7 e (ft e)) s) L im (by omega) s _ _ p H h9 _ _ i gl roots (by omega) y V u (fun e h q S' g' Y ae Z aa=>?_);exact M (i+1) (by omega) e h q S' g' Y (by omega) Z aa
   rw[qu,aE,eG,bm,dY (by omega)];simp -implicitDefEqProofs only[fQ,aE,bm,el];rw[dY (show(L.length:Int)<(n:Int) by omega)];simp -implicitDefEqProofs only[fv,eo];rw[EC,ip,O,cJ,a7,cP 7 p.cs _ rfl rfl rfl,aA,iN h9.abb (show p.cs[0+0]? =some (I p.op) from rfl),aI,aI,a9 (xr _),fp,U,bm];by_cases az:(i:Int)<2
   ·rw[dY az,eo];exact fin 1 (by omega)
   ·rw[cL az,ev];exact fin _ (by omega)
  ·refine⟨L,gl,roots,i,u,bK,?_⟩;rw[qu,aE,eG,bm,dY (by omega)];simp -implicitDefEqProofs only[fQ,aE,bm,el];rw[cL (show¬(L.length:Int)<(n:Int) by omega)];simp -implicitDefEqProofs only[fv,ev];rw[ts]
   have:=kA (S:=S) (sz:=12) (es:=L.map aX.enc) (g:=im) (by simpa using cC) (WC L u.ok);rw[nO] at this;exact iH A _ _ this
theorem Po(dX:G 0=.bI jn)(ec:List wv)(e:fi)(q:∀p,p∈ec→p.V7)(r:ec.length≤131072)(n:Nat)(dp:n≤40)(s:ag):∃(L:List aX) (g:fi),hl L=0∧(∀x,x∈L→pJ x)∧L.length≤n∧(∀a,g≠.dB a)∧(∀x,x∈L→Pn x)∧aL aK G X 10 [tB ec e,.int .i64 (n:Int)] s=.ok (b7 L g) s:=by have u:CQ [] 0 0 0:=⟨rfl,fun x h=>(by cases h),fun x h=>(by cases h),aC _,by omega,aC _,by omega,fun x h=>(by cases h)⟩;obtain⟨L,gl,roots,i,au,az,b3⟩:=Fz G X dX ec e q r n dp s ec.length 0 (by omega) [] 0 0 s.aj .nil u (Nat.zero_le _) (.aj s) .nil;refine⟨L,ft L,au.check (by omega),au.ok,az,ps L,au.adT,?_⟩;rw[JG,Vv];exact b3
end
end Go.gw
end
section
namespace Go.gw
open Go.Ab Go.hK
variable(G:Nat→af)(X:Nat→List af→ag→ah)
end Go.gw
end
section
namespace Go.gw
open Go.Ab Go.hK
section
variable{T:Nat→Option c0}{G:Nat→af}{X:Nat→List af→ag→ah}
theorem ow{S:ag}{k:bf}{j o:Nat}{cs:List af}{v:af}(h:S.own[j]? =some (.cells cs))(e:o<cs.length)(bO:v.eO=true)(hw:v.cells=[v])(q:v.fh=true):(aU T G X).b8 S k 1 (.ref (.l j) o) v=k .dead {S with own:=S.own.set j (.cells (cs.set o v))}:=by
 rw[k4];simp -implicitDefEqProofs only[fl,q,hw,bP,cy,bg,gM,bD,b2];unfold iu;have dU:S.get (.l j)=some (.cells cs):=h;have eh:S.hB (.l j) [v]=true:=by simp [ag.hB,ag.oL]
 simp -implicitDefEqProofs only[dU,bP,cy,bg,show Nat.ble (o+1) cs.length=true from eQ e,eh,List.all_cons,bO,List.all_nil,bD,b2];rfl
end
section
variable(G:Nat→af)(X:Nat→List af→ag→ah)
theorem J6{S:ag}{k:bf}{j n:Nat}{cs:List af}(h:S.own[j]? =some (.cells cs))(dp:n≤cs.length):(aU aK G X).ar S k (some n) (.ref (.l j) 0)=k (.agg (cs.take n)) S:=by rw[hD];have e:S.get (.l j)=some (.cells cs):=h;simp only[d8,e,bL,eV];rw[show Nat.ble n cs.length=true from eQ dp];rfl
theorem abh{s:ag}(n c x y:Int)(K:bf):(aU aK G X).ai s (fun e s=>(aU aK G X).ae e true (fun k=>k (I c) s) s (fun q s=>(aU aK G X).ae e true (fun k=>(aU aK G X).ai s k (an .eql q (.int .i64 y))) s (fun r s=>(aU aK G X).bs s (fun u s=>K u s) e r (.bool false)))) (an .eql (.int .i64 n) (.int .i64 x))=K (.bool (decide (n=x)&&decide (c=y))) s:=by
 rw[bE];cases h:decide (n=x)
 ·simp -implicitDefEqProofs only[ha,bU,eJ,fU]
 ·simp -implicitDefEqProofs only[fQ,bE,fv,eM]
end
end Go.gw
end
