/- A part of the proof: no condition. -/
import Derived.Test.YtgdnbfijkagodaaGreatDoorA8
import Derived.Test.YtgdnbfijkagodaaGreatDoorA9
import Derived.Test.YtgdnbfijkagodaaGreatDoorA10
import Derived.Test.YtgdnbfijkagodaaGreatDoorA11
import Derived.Test.YtgdnbfijkagodaaGreatDoorA7
set_option linter.unusedSectionVars false
set_option linter.unusedSimpArgs false
set_option linter.unusedVariables false
section
namespace Go.gF
open Go.Ab Go.hV
section
variable(G:Nat→af)(X:Nat→List af→ah→ai)
theorem af4{a:Nat}(h:a<33):hj G X a=true:=by
 match a,h with
 |0,_=>exact aiq G X
 |1,_=>exact air G X
 |2,_=>exact ais G X
 |3,_=>exact ait G X
 |4,_=>exact aiu G X
 |5,_=>exact aiv G X
 |6,_=>exact aiw G X
 |7,_=>exact aix G X
 |8,_=>exact aiy G X
 |9,_=>exact aiz G X
 |10,_=>exact aho G X
 |11,_=>exact ahp G X
 |12,_=>exact ahq G X
 |13,_=>exact ahr G X
 |14,_=>exact ahs G X
 |15,_=>exact aht G X
 |16,_=>exact ahu G X
 |17,_=>exact ahv G X
 |18,_=>exact ahw G X
 |19,_=>exact ahx G X
 |20,_=>exact ahy G X
 |21,_=>exact ahz G X
 |22,_=>exact ahA G X
 |23,_=>exact ahB G X
 |24,_=>exact ahC G X
 |25,_=>exact ahD G X
 |26,_=>exact ahE G X
 |27,_=>exact ahF G X
 |28,_=>exact ahG G X
 |29,_=>exact ahH G X
 |30,_=>exact ahI G X
 |31,_=>exact ahJ G X
 |32,_=>exact ahK G X
 |n+33,h=>omega
theorem aaO{a b:Int}(r: -16≤a∧a≤16)(u:1≤b∧b≤4):∃v s' g6 bP,aB aF G X 46 [I a,I b] N2=.ok (.ed [v,I 0]) s'∧af3 v g6 bP:=by have h:=af4 G X (a:=(a+16).toNat) (by omega);unfold hj at h;rw[a2.Cc] at h;have h:=List.all_eq_true.1 h (b-1).toNat (List.mem_range.2 (by omega));rw[show(((a+16).toNat:Nat):Int)-16=a by omega,show(((b-1).toNat:Nat):Int)+1=b by omega] at h;obtain⟨v,s',g6,bP,ar,aw⟩:=TS h;exact⟨v,s',g6,bP,o3 aF G X (fun e=>by cases e) ar,aw⟩
end
end Go.gF
end
section
namespace Go.gF
open Go.Ab
section
variable(G:Nat→af)(X:Nat→List af→ah→ai)
theorem pg{s:ah}{k:bd}{cs:List af}(n o:Nat)(v:af)(bX:v.e9=true)(cZ:v.cells.length=n)(y:o+n≤cs.length)(a0:v.cells.all af.en=true):
  (aQ aF G X).bm (s.new (.cells cs)) k n (.ref (.l s.own.length) o) v=k .dead (s.new (.cells (dE cs o v.cells))):=by
 rw[jZ];have dn:(s.new (.cells cs)).get (.l s.own.length)=some (.cells cs):=by simp [ah.get,ah.new]
 have e:Nat.ble (o+v.cells.length) cs.length=true:=ec (by omega);have h:Nat.beq v.cells.length n=true:=by rw[cZ];exact e7 n
 have r:(s.new (.cells cs)).gL (.l s.own.length) v.cells=true:=by simp [ah.gL,ah.oN]
 have u:(s.new (.cells cs)).set (.l s.own.length) (.cells (dE cs o v.cells))=some (s.new (.cells (dE cs o v.cells))):=by simp [ah.set,ah.new]
 simp only[fh,bX,h,bz,bD];unfold h9;simp only[dn,e,r,a0,bz,bD];show(match (s.new (.cells cs)).set (.l s.own.length) (.cells (dE cs o v.cells)) with |some s=>k .dead s|none=>.fail)=_;rw[u]
theorem B0(n:Int)(cZ: -9223372036854775808≤n∧n≤9223372036854775807):∃v s' g6 bP,aB aF G X 36 [I n] N2=.ok v s'∧af3 v g6 bP:=by
 have J:=lJ (x:=n) (n:=33) (by omega);have M:=lJ (x:=n) (n:=4) (by omega);have e:=fun s=>qB G X n 33 (by omega) cZ s
 have h:=fun s=>qB G X n 4 (by omega) cZ s
 obtain⟨v,s',g6,bP,fz,bX⟩:=aaO G X (a:=gQ n 33-16) (b:=1+gQ n 4) (by omega) (by omega);have aV:v.bb=true:=by rw[bX.v];simp -implicitDefEqProofs only[af.bb,af.aX,fV.v,jN bX.CT.g,jN bX.gH.g,bz]
 have r:IntKind.wrap .i64 (gQ n 33-16)=gQ n 33-16:=e4 _ (by omega) (by omega);have u:IntKind.wrap .i64 (1+gQ n 4)=1+gQ n 4:=e4 _ (by omega) (by omega);refine⟨v,N2,g6,bP,?_,bX⟩;rw[ND,Z7];have y:∀(S:ah) (k:bd),(aQ aF G X).gT S k 46 [I (gQ n 33-16),I (1+gQ n 4)]=k (.ed [v,I 0]) S:=fun S k=>l3 rfl fz (by simp [af.bb,af.aX,aV])
 have ml:∀(S:ah) (k:bd),(aQ aF G X).b1 S k 0 (.ed [v,I 0])=k v S:=fun S k=>nh _ _
 have dn:∀(S:ah) (k:bd),(aQ aF G X).b1 S k 1 (.ed [v,I 0])=k (I 0) S:=fun S k=>ni _ _ _
 have fS:∀d,af.ao d v=v:=fun d=>by rw[bX.v];rfl
 rw[cG,aA,aA,aZ (e _),f0,r,aA,aA,aZ (h _),fF,u,aA,aA];refine(y _ _).trans ?_;rw[ml,dn,cG,fS]
 subst_vars
 obtain⟨A,CT,gH,N,O,V⟩:=bX;subst A;refine(cX 4 _ _ rfl rfl rfl).trans ?_;refine(cc 4 _ (by simp)).trans ?_;have B:∀S:ah,Ab.freeze S (.agg [.bool g6.neg,g6.v,.bool bP.neg,bP.v])=some (.agg [.bool g6.neg,g6.v,.bool bP.neg,bP.v]):=fun S=>by show(e5 (et S) [_,_,_,_]).map af.agg=_;have eO:=mU CT.g S 1 (g6.g9.map U);have ar:=mU gH.g S 1 (bP.g9.map U);have F:et S g6.v=some g6.v:=eO;have H:et S bP.v=some bP.v:=ar;simp only[e5,F,H,show∀b,et S (.bool b)=some (.bool b) from fun b=>rfl,fp,ep]
 refine(qw (T:=aF) (G:=G) (X:=X) (j:=0) (n:=4) (cs:=[.bool false,.bx 1 [] .nil,.bool false,.bx 1 [] .nil]) (vs:=[.bool g6.neg,g6.v,.bool bP.neg,bP.v]) rfl rfl rfl rfl).trans ?_;refine fT (s:=N2) ?_ _ _ (B _);exact⟨rfl,rfl⟩
end
structure xX where
 op:Int
 a:Int
 b:Int
 c:Int
 x:Int
 y:Int
 nB:Int
def xX.cs(p:xX):List af:=[I p.op,I p.a,I p.b,I p.c,I p.x,I p.y,I p.nB]
def xX.enc(p:xX):af:=.agg p.cs
def vj(n:Int):Prop:= -9223372036854775808≤n∧n≤9223372036854775807
structure xX.aaP (p:xX):Prop where
 op:vj p.op
 a:vj p.a
 b:vj p.b
 c:vj p.c
 x:vj p.x
 y:vj p.y
 nB:vj p.nB
def nY:fV:=⟨false,[],.nil⟩
theorem iN:kA nY:=⟨fun a h=>(by cases h),fun x a1=>(by cases a1),(by show(0:Nat)<_;omega)⟩
theorem oh:nY.FI:=⟨fun _=>rfl,Nat.zero_le _⟩
structure Fh (x:az):Prop where
 g6:x.g6.FI
 bP:x.bP.FI
 lF:x.lF.FI
 lb:x.lb.FI
theorem xY:∀(l pre:List az) (x:az),hW pre (l++[x])=(hW pre l&&wf (pre++l) x)
 |[],pre,x=>by simp [hW]
 |y::l,pre,x=>by rw[List.cons_append,hW,xY l,hW,ll,List.singleton_append,Bool.and_assoc]
theorem zU:∀(l:List az) (i:Nat) (x:az),(je (l++[x]) i).length=(je l i).length+(if x.op=1 then 2 else if x.op=2 then 1 else 0)
 |[],i,x=>by
  simp only[List.nil_append,je,mj,n1,ca,bh];split
  ·rfl
  ·split<;> rfl
 |y::l,i,x=>by simp only[List.cons_append,je,fW];rw[zU l];omega
structure Fi (L:List az) (gR roots i:Nat):Prop where
 wf:hW [] L=true
 ok:∀x,x∈L→lc x
 aiA:∀x,x∈L→Fh x
 ym:ym L≤roots
 rt:roots≤3
 af5:(je L 0).length≤gR
 af6:gR≤8
 Mj:∀x,x∈L→∃j,j<i∧x.name=115::eZ j
theorem Fi.check{L:List az}{gR roots i:Nat}(h:Fi L gR roots i)(bU:L.length≤40):f9 L=0:=by have ar:=h.ym;have aw:=h.rt;have bS:=h.af5;have dB:=h.af6;unfold f9;rw[h.wf,bD,if_neg (by omega)]
theorem Fi.later{L:List az}{gR roots i:Nat}(h:Fi L gR roots i):Fi L gR roots (i+1):=
 ⟨h.wf,h.ok,h.aiA,h.ym,h.rt,h.af5,h.af6,fun x a1=>let⟨j,ar,aw⟩:=h.Mj x a1;⟨j,by omega,aw⟩⟩
theorem N4{w r:Int}(h:nq w r=true)(aV:r=1∨r=2∨r=3):acc w r=true:=by
 unfold nq at h;unfold acc;simp only[Bool.or_eq_true,bo,b9] at h ⊢;rcases h with h|⟨ar,aw⟩
 ·exact .inl h
 ·exact .inr ⟨ar,by omega⟩
theorem Fj{L:List az}(r:∀o,o∈L→hJ o.op≠0){w n:Int}(h:0≤k9 L w n):qi L w (k9 L w n)=true:=by
 unfold k9 at h ⊢;by_cases eO:(jP w L 0).length=0
 ·rw[if_pos eO] at h;omega
 ·rw[if_neg eO] at h ⊢;have fS:=lJ (x:=n) (n:=(jP w L 0).length) (by omega);have e:(gQ n (jP w L 0).length).toNat<(jP w L 0).length:=by omega
  have hm:(jP w L 0).getD (gQ n (jP w L 0).length).toNat 0∈jP w L 0:=by rw[List.getD_eq_getElem?_getD,eb e,Option.getD_some];exact mW e
  generalize (jP w L 0).getD (gQ n (jP w L 0).length).toNat 0=a at *;obtain⟨j,x,ar,aw,bS⟩:=zT w L 0 a hm;rw[bh] at ar;have u:=(dy.1 aw).1;have eu:=r x (List.mem_of_getElem? aw);have aV:=TP x.op;unfold qi;subst ar;rw[Int.toNat_natCast,aw];simp only[bo,b9];exact⟨⟨by omega,by omega⟩,N4 bS (by omega)⟩
def fa(L:List az)(ws cs:List Int):List Int:=List.zipWith (k9 L) ws cs
theorem Fk{L:List az}(e:∀o,o∈L→hJ o.op≠0):∀(ws cs:List Int),(∀a,a∈fa L ws cs→0≤a)→hv L ws (fa L ws cs)=true
 |[],_,_=>by simp [fa,hv]
 |_::_,[],_=>by simp [fa,hv]
 |w::ws,c::cs,h=>by simp only[fa,List.zipWith_cons_cons] at h ⊢;rw[hv,bo];exact⟨Fj e (h _ List.mem_cons_self),Fk e ws cs (fun a r=>h a (List.mem_cons_of_mem _ r))⟩
theorem zV(op:Int):(gB op).length≤3:=by
 have c:∀(p:Prop) [Decidable p] (a b:List Int),a.length≤3→b.length≤3→(if p then a else b).length≤3:=fun p _ a b ar aw=>by
  by_cases h:p
  ·rw[if_pos h];exact ar
  ·rw[if_neg h];exact aw
 unfold gB
 repeat (refine c _ _ _ (by decide) ?_)
 decide
theorem N5{L:List az}{i:Nat}(bZ:i<131072)(h:∀x,x∈L→∃j,j<i∧x.name=115::eZ j)(x:az)(a1:x.name=115::eZ i):nX L x=false:=by
 unfold nX;rw[List.any_eq_false];intro o r;obtain⟨j,ar,aw⟩:=h o r;rw[a1,aw];simp only[List.cons.injEq,true_and,b9];intro e
 have:=N0 (by omega) bZ e;omega
theorem Fi.snoc{L:List az}{gR roots e r i:Nat}(h:Fi L gR roots i)(bZ:i<131072)(x:az)(M:1≤x.op∧x.op≤16)(u:x.name=115::eZ i)(A:hv L (gB x.op) x.args=true)(B:(gB x.op).length=x.args.length)(F:xR x.op x.nB=true)(H:q6 x=true)(c0:lc x)(tY:Fh x)
  (N:gR+(if x.op=1 then 2 else if x.op=2 then 1 else 0)≤e)(I:e≤8)(O:roots+(if jd x.op=true then 1 else 0)≤r)(J:r≤3):Fi (L++[x]) e r (i+1):=by
 refine⟨?_,fun y ez=>?_,fun y ez=>?_,?_,J,?_,I,fun y ez=>?_⟩
 ·rw[xY,h.wf,ey,List.nil_append];unfold Go.gF.wf;have eu:hJ x.op≠0:=by
   unfold hJ
   repeat' split
   all_goals omega
  rw[A,F,H,N5 bZ h.Mj x u];simp [eu,B,u]
 ·rcases List.mem_append.1 ez with ez|ez
  ·exact h.ok y ez
  ·rw[List.mem_singleton.1 ez];exact c0
 ·rcases List.mem_append.1 ez with ez|ez
  ·exact h.aiA y ez
  ·rw[List.mem_singleton.1 ez];exact tY
 ·rw[Fb]
  have:=h.ym;omega
 ·rw[zU]
  have:=h.af5;omega
 ·rcases List.mem_append.1 ez with ez|ez
  ·obtain⟨j,ar,aw⟩:=h.Mj y ez;exact⟨j,by omega,aw⟩
  ·rw[List.mem_singleton.1 ez];exact⟨i,by omega,u⟩
end Go.gF
end
section
namespace Go.gF
open Go.Ab Go.hV
theorem xZ{T:Nat→Option c8}{G:Nat→af}{X:Nat→List af→ah→ai}{k:bd}(Q:ai→Prop){S:ah}{es new:List af}{g g2:e0}{q bytes:Nat}(b2:fj S g es.length)(cZ:new≠[])(r:(es.length+new.length)*bytes≤1099511627776)(a0:(new.flatMap af.cells).all af.en=true)
  (cK:∀g' S',fj S' g' (es.length+new.length)→g'≠.nil→(g≠.nil→g'=g)→(g=.nil→g'=.cP (.l S.own.length))→Grown S S' g→Q (k (.bx q (es++new) g') S'))(u:∀a,g2≠.cP a:=by intro a h;cases h):
  Q ((aQ T G X).fm S k q bytes (some (.l 0)) (.bx q es g) (.bx q new g2)):=by
 by_cases hex:∃g' S',fj S' g' (es.length+new.length)∧g'≠.nil∧(g≠.nil→g'=g)∧(g=.nil→g'=.cP (.l S.own.length))∧Grown S S' g∧(aQ T G X).fm S k q bytes (some (.l 0)) (.bx q es g) (.bx q new g2)=k (.bx q (es++new) g') S'
 ·obtain⟨g',S',ar,aw,bS,dB,y,A⟩:=hex;rw[A];exact cK g' S' ar aw bS dB y
 ·exfalso;apply hex;rw[lD];unfold fN;simp only;unfold hd;rw[show dw S (.bx q new g2)=some (q,new) from by cases g2<;> first|rfl |exact absurd rfl (u _)];simp only[e7,ey];rw[show Nat.ble ((es.length+new.length)*bytes) 1099511627776=true from ec r];simp only[bD];cases new with
  |nil=>exact absurd rfl cZ
  |cons c cs=>
   rcases b2.inv with⟨rfl,B⟩|⟨j,rfl,lh,h⟩
   ·simp only[ah.gU];refine⟨.cP (.l S.own.length),S.new (.tok (es.length+(c::cs).length)),.cP _ _ (by simp;omega) ?_,by simp,fun h=>absurd rfl h,fun _=>rfl,⟨rfl,rfl,?_,fun j o h _=>?_⟩,rfl⟩
    ·simp [ah.new]
    ·simp [ah.new]
    ·simp only[ah.new];rw[fB (dy.1 h).1];exact h
   ·have e:S.get (.l j)=some (.tok es.length):=h;simp only[e,e7,a0,bz,bD];refine⟨.cP (.l j),{S with own:=S.own.set j (.tok (es.length+(c::cs).length))},.cP _ _ (by simp;omega) ?_,by simp,fun _=>rfl,fun h=>by simp at h,⟨rfl,rfl,by simp,fun i o bZ eu=>?_⟩,?_⟩
    ·simp [(dy.1 h).1]
    ·have:j≠i:=fun e=>eu (by rw[e])
     simp only;rw[ix this];exact bZ
    ·show(match S.set (.l j) (.tok (es.length+(c::cs).length)) with |some s=>k (.bx q (es++c::cs) (.cP (.l j))) s|none=>.fail)=_;simp only[ah.set]
structure Om (s S:ah) (iO:e0) (n tn:Nat) (p:xX):Prop where
 abc:Child s S
 q4:fj S iO n
 af7:S.own[tn]? =some (.cells p.cs)
theorem Om.new{s S:ah}{iO:e0}{n tn:Nat}{p:xX}(h:Om s S iO n tn p)(o:b4):Om s (S.new o) iO n tn p:=
 ⟨h.abc.new o,h.q4.new o,by simp only[ah.new];rw[fB (dy.1 h.af7).1];exact h.af7⟩
theorem Om.grown{s S S':ah}{iO r:e0}{n m tn:Nat}{p:xX}(h:Om s S iO n tn p)(hR:fj S r m)(On:∀j,iO=.cP (.l j)→r≠.cP (.l j))(b2:Grown S S' r):Om s S' iO n tn p:=
 ⟨b2.child h.abc,b2.grow h.q4 On,b2.own _ _ h.af7 (fun e=>by
  subst e;cases hR with
  |cP j n cZ aw=>rw[h.af7] at aw;cases aw)⟩
theorem Ix{S:ah}{A:List Int}{g:e0}(h:fj S g A.length):oO (i6 A g)=i6 A (gI A):=by
 rcases h.inv with⟨rfl,eO⟩|⟨j,rfl,cZ,eO⟩
 ·cases A with
  |nil=>rfl
  |cons a A=>simp at eO
 ·have aV:af.aX (A.map I)=true:=by
   clear h eO cZ
   induction A with
   |nil=>rfl
   |cons a A e=>show(true&&af.aX (A.map I))=true;rw[e];rfl
  cases A with
  |nil=>simp at cZ
  |cons a A=>show(bif af.aX ((a::A).map I) then _ else _)=_;rw[aV];rfl
theorem u1(L:List az):∀(ws cs:List Int) (i:Nat) (w c:Int),ws[i]? =some w→cs[i]? =some c→fa L (ws.take (i+1)) (cs.take (i+1))=fa L (ws.take i) (cs.take i)++[k9 L w c]
 |[],_,i,w,c,h,_=>by simp at h
 |_::_,[],i,w,c,_,h=>by simp at h
 |jK::ws,e::cs,0,w,c,h,aw=>by simp at h aw;subst h;subst aw;simp [fa]
 |jK::ws,e::cs,i+1,w,c,h,aw=>by have:=u1 L ws cs i w c (by simpa using h) (by simpa using aw);simp only[fa] at this ⊢;simp only[c2,List.zipWith_cons_cons,List.cons_append,List.cons.injEq,true_and];exact this
theorem x0(L:List az):∀(ws cs:List Int) (n:Nat),ws.length≤n→fa L ws (cs.take n)=fa L ws cs
 |[],_,_,_=>by simp [fa]
 |_::_,[],_,_=>by simp [fa]
 |w::ws,c::cs,0,h=>by simp at h
 |w::ws,c::cs,n+1,h=>by have:=x0 L ws cs n (by simpa using h);simp only[fa] at this ⊢;simp only[c2,List.zipWith_cons_cons,this]
theorem ph(L:List az)(ws cs:List Int)(h:ws.length≤cs.length):(fa L ws cs).length=ws.length:=by simp [fa];omega
section
variable(G:Nat→af)(X:Nat→List af→ah→ai)
theorem Iy(Q:ai→Prop)(L:List az)(V:L.length≤1000)(iO:e0)(s:ah)(tn:Nat)(p:xX)(ws cs:List Int)(B gc:e0)(hlen:ws.length≤cs.length)(ak:ws.length≤1000)(Y:∀c,c∈cs→vj c)(n4 v1 v6 F FH H v10 J:af)
  (fin:∀(S:ah) (r:e0),Om s S iO L.length tn p→fj S r (fa L ws cs).length→Q (BD (aQ aF G X) n4 v1 (bc L iO) v6 F FH H v10 J (i6 (fa L ws cs) r) S)):
  ∀(n i:Nat),i+n=ws.length→∀(S:ah) (r:e0),Om s S iO L.length tn p→fj S r i→(∀j,iO=.cP (.l j)→r≠.cP (.l j))→
   Q (vC (aQ aF G X) n4 v1 (bc L iO) v6 F FH H v10 (i6 ws B) J (i6 cs gc) (i6 (fa L (ws.take i) (cs.take i)) r) (.int .i64 (i:Int)) S):=by
 intro n
 induction n with
 |zero=>
  intro i bZ S r iC hR On;rw[xA,aI,d0,bl,b0 (by omega),eg];have dn:ws.take i=ws:=iV (by omega);have u:(fa L (ws.take i) (cs.take i)).length=i:=by rw[ph _ _ _ (by simp;omega)];simp;omega
  have y:fa L (ws.take i) (cs.take i)=fa L ws cs:=by rw[dn];exact x0 L ws cs i (by omega)
  rw[y] at u ⊢;exact fin S r iC (by rw[u];exact hR)
 |succ n Z=>
  intro i bZ S r iC hR On;have M:ws[i]? =some (ws.getD i 0):=by simp [List.getD_eq_getElem?_getD,eb (show i<ws.length by omega)]
  have A:cs[i]? =some (cs.getD i 0):=by simp [List.getD_eq_getElem?_getD,eb (show i<cs.length by omega)]
  have a0:=Y _ (List.mem_of_getElem? A);have u:(fa L (ws.take i) (cs.take i)).length=i:=by rw[ph _ _ _ (by simp;omega)];simp;omega
  have ba:=u1 L ws cs i _ _ M A;generalize ws.getD i 0=w at *;generalize cs.getD i 0=c at *;have ab:=fun(k:bd)=>EP G X S k 1 (ws.map I) B .i64 i (I w) (by simp [M])
  have ac:=fun(k:bd)=>EP G X S k 1 (cs.map I) gc .i64 i (I c) (by simp [A])
  have N:=fun(c:Int) (k:bd)=>bg (T:=aF) (G:=G) (X:=X) (s:=S) (k:=k) (I c) []
  have ad:=fun S k=>nD G X S k i (by omega)
  have ae:=aaM G X L (iO.ao S.aa) w c a0 V S;rw[xA,aI,d0,bl,dR (by omega),ek,Hn];rw[ab];rw[show af.cells (I w)=[I w] from rfl,N,ac,show af.cells (I c)=[I c] from rfl,N,aA,aA,show af.ao S.aa (bc L iO)=bc L (iO.ao S.aa) from rfl,aZ ae,zx];refine xZ Q (new:=[I (k9 L w c)]) (by rw[d0,u];exact hR) (by simp) (by rw[d0,u];simp;omega) rfl (fun g2 ag O ar aw bS aj=>?_);rw[Hm,ad];rw[d0,u,List.length_singleton] at O
  have:=Z (i+1) (by omega) ag g2 (iC.grown hR On aj) O (fun j cL e=>by
   by_cases cZ:r=.nil
   ·have y:=bS cZ;rw[y] at e;injection e with e;injection e with e
    have U:=iC.q4;rw[cL] at U;cases U with
    |cP j n cZ h=>have:=(dy.1 h).1;omega
   ·exact On j cL (by rw[←aw cZ];exact e))
  rw[ba] at this;rw[show i6 (fa L (ws.take i) (cs.take i)++[k9 L w c]) g2=.bx 1 ((fa L (ws.take i) (cs.take i)).map I++[I (k9 L w c)]) g2 from by simp [i6]] at this;exact this
def qj(op:Int)(A:List Int):Int:=if A.any (fun a=>decide (a<0))=true then 1 else op
theorem Iz(A:List Int)(e:e0)(hR:A.length≤1000)(n4 v1 r v6 u FH y B:af)(S:ah):∀(n i:Nat),i+n=A.length→∀op:Int,
  vB (aQ aF G X) n4 v1 r v6 u FH y (I op) B (i6 A e) (.int .i64 (i:Int)) S=sY (aQ aF G X) n4 v1 r v6 u FH y (I (qj op (A.drop i))) B (i6 A e) S:=by
 intro n
 induction n with
 |zero=>intro i bZ op;rw[xz,aI,d0,bl,b0 (by omega),eg,lm (by omega)];rfl
 |succ n F=>
  intro i bZ op;have bU:i<A.length:=by omega
  have J:=fun(k:bd)=>EP G X S k 1 (A.map I) e .i64 i (I A[i]) (by simp [bU])
  have M:=fun(c:Int) (k:bd)=>bg (T:=aF) (G:=G) (X:=X) (s:=S) (k:=k) (I c) []
  have H:=fun S k=>nD G X S k i (by omega)
  have cW:A.drop i=A[i]::A.drop (i+1):=iy bU;rw[xz,aI,d0,bl,dR (by omega),ek,Ho,J,show af.cells (I A[i])=[I A[i]] from rfl,M,bl,cW];generalize A[i]=a at *;by_cases h:a<0
  ·rw[dR h,ek,uR,H,F (i+1) (by omega)]
   have:∀x,qj 1 x=1:=fun x=>by unfold qj;split<;> rfl
   rw[this,show qj op (a::A.drop (i+1))=1 from by unfold qj;simp [h]]
  ·rw[b0 h,eg,uR,H,F (i+1) (by omega)];rw[show qj op (a::A.drop (i+1))=qj op (A.drop (i+1)) from by unfold qj;simp [h]]
end
section
variable(G:Nat→af)(X:Nat→List af→ah→ai)
theorem nZ(Q:ai→Prop)(L:List az)(iO:e0)(x:az)(a1:lc x)(bU:L.length≤1000)(s S:ah)(h:Child s S)(b2:fj S iO L.length)(n4 v1 v6 e:af)(i:Nat)(bZ:i<131072)
  (cK:∀S' g',Child s S'→fj S' g' (L++[x]).length→Q (k8 (aQ aF G X) n4 v1 (bc (L++[x]) g') v6 e (.int .i64 ((i+1:Nat):Int)) S')):
  Q (oG (aQ aF G X) n4 v1 (bc L iO) v6 e (.int .i64 (i:Int)) (.ref (.l S.own.length) 0) (S.new (.cells x.cs))):=by
 rw[EB,cc 12 x.cs (show 12≤x.cs.length from aC 12)];have r:∀(S:ah) (K:bd),(aQ aF G X).bf S K 12 [.agg (x.cs.take 12)]=K (.bx 12 [x.enc] .exact) S:=fun S K=>by refine kn 12 [x.enc] ?_ rfl;show(x.enc.bb&&true)=true;rw[a1.bb];rfl
 rw[r];refine xZ Q (new:=[x.enc]) (by rw[d0];exact b2.new _) (by simp) (by simp;omega) rfl (fun g2 u y ar aw bS A=>?_);rw[uS,ij i (by omega)]
 have:=cK u g2 (A.child (h.new _)) (by simpa using y);rw[show bc (L++[x]) g2=.bx 12 (L.map az.enc++[x.enc]) g2 from by simp [bc]] at this;exact this
def Uq:List af:=[.str [],.int .i64 0,.bx 1 [] .nil,.bool false,.bx 1 [] .nil,.bool false,.bx 1 [] .nil,.bool false,.bx 1 [] .nil,.bool false,.bx 1 [] .nil,.int .i64 0]
theorem Fl(d8:G 0=.bk jO)(Q:ai→Prop)(L:List az)(iO N:e0)(bU:L.length≤1000)(s S:ah)(tn:Nat)(p:xX)(fS:p.aaP)(iC:Om s S iO L.length tn p)(n4 v1:af)(i gR roots:Nat)(bZ:i<131072)(op:Int)(b:Bool)(A:List Int)(hR:fj S N A.length)(ae:A.length≤3)(ag:gR≤8)(ak:roots≤3)
  (k1:op=1→∀g6 bP lF lb S' g',g6.FI→bP.FI→lF.FI→lb.FI→kA g6→kA bP→kA lF→kA lb→jr g6 bP=true→jr lF lb=true→Child s S'→fj S' g' (L++[az.mk (115::eZ i) op [] .nil g6 bP lF lb 0]).length→Q (k8 (aQ aF G X) n4 v1 (bc (L++[az.mk (115::eZ i) op [] .nil g6 bP lF lb 0]) g') (.int .i64 ((gR+2:Nat):Int)) (.int .i64 (roots:Int)) (.int .i64 ((i+1:Nat):Int)) S'))
  (pz:op=2→∀g6 bP S' g',g6.FI→bP.FI→kA g6→kA bP→jr g6 bP=true→Child s S'→fj S' g' (L++[az.mk (115::eZ i) op A (gI A) g6 bP nY nY 0]).length→Q (k8 (aQ aF G X) n4 v1 (bc (L++[az.mk (115::eZ i) op A (gI A) g6 bP nY nY 0]) g') (.int .i64 ((gR+1:Nat):Int)) (.int .i64 (roots:Int)) (.int .i64 ((i+1:Nat):Int)) S'))
  (U:op≠1→op≠2→b=true→∀nB S' g',(nB=1∨nB=2)→Child s S'→fj S' g' (L++[az.mk (115::eZ i) op A (gI A) nY nY nY nY nB]).length→Q (k8 (aQ aF G X) n4 v1 (bc (L++[az.mk (115::eZ i) op A (gI A) nY nY nY nY nB]) g') (.int .i64 (gR:Int)) (.int .i64 ((roots+1:Nat):Int)) (.int .i64 ((i+1:Nat):Int)) S'))
  (V:op≠1→op≠2→b=false→∀S' g',Child s S'→fj S' g' (L++[az.mk (115::eZ i) op A (gI A) nY nY nY nY 0]).length→Q (k8 (aQ aF G X) n4 v1 (bc (L++[az.mk (115::eZ i) op A (gI A) nY nY nY nY 0]) g') (.int .i64 (gR:Int)) (.int .i64 (roots:Int)) (.int .i64 ((i+1:Nat):Int)) S')):
  Q (qc (aQ aF G X) n4 v1 (bc L iO) (.int .i64 (gR:Int)) (.int .i64 (roots:Int)) (.int .i64 (i:Int)) (.ref (.l tn) 0) (I op) (.bool b) (i6 A N) S):=by
 have Px:∀(S:ah) (K:bd),(aQ aF G X).gT S K 19 [.int .i64 (i:Int)]=K (.str (eZ i)) S:=fun S K=>l3 rfl (aaL G X d8 i bZ N2) rfl
 have cat:∀(S:ah) (K:bd),(aQ aF G X).aj S K (al .add (.str [115]) (.str (eZ i)))=K (.str (115::eZ i)) S:=fun S K=>by
  have am:=N1 bZ;have e:al .add (.str [115]) (.str (eZ i))=some (.str (115::eZ i)):=by show(if Nat.ble ([115].length+(eZ i).length) 1099511627776 then some (af.str ([115]++eZ i)) else none)=_;rw[show Nat.ble ([115].length+(eZ i).length) 1099511627776=true from ec (by simp;omega)];rfl
  rw[e];rfl
 have Y:∀(S:ah) (K:bd) (a:af),(aQ aF G X).iJ [.str [],.int .i64 0,.bx 1 [] .nil,.bool false,.bx 1 [] .nil,.bool false,.bx 1 [] .nil,.bool false,.bx 1 [] .nil,.bool false,.bx 1 [] .nil,.int .i64 0] [(0,1,.str (115::eZ i)),(1,1,I op)] S K=K (.agg [.str (115::eZ i),I op,.bx 1 [] .nil,.bool false,.bx 1 [] .nil,.bool false,.bx 1 [] .nil,.bool false,.bx 1 [] .nil,.bool false,.bx 1 [] .nil,.int .i64 0]) S:=fun S K a=>rfl
 have F:∀(cs:List af) (K:bd) (o:Nat) (c:af),p.cs[o]? =some c→(aQ aF G X).aq (S.new (.cells cs)) K none (.ref (.l tn) o)=K c (S.new (.cells cs)):=fun cs K o c h=>ga (iC.new _).af7 h
 have w:=Ix hR;have H:∀a,gI A≠.cP a:=fun a e=>by unfold gI at e;split at e<;> cases e
 have J:∀d,af.ao d (i6 A (gI A))=i6 A (gI A):=fun d=>by show af.bx 1 _ ((gI A).ao d)=_;rw[nn H]
 have Ol:A.length<9223372036854775807:=by omega
 rw[EC,aA,Px,cat,Y _ _ .dead,cG,be,cX 12 _ _ rfl rfl rfl,bO];by_cases ar:op=1
 ·rw[dR ar,ek];obtain⟨B,Z,g6,bP,ex,r⟩:=B0 G X p.x fS.x;obtain⟨O,an,lF,lb,aa,u⟩:=B0 G X p.y fS.y;have rx:B.bb=true:=by
   rw[r.v];simp -implicitDefEqProofs only[af.bb,af.aX,fV.v,jN r.CT.g,jN r.gH.g,bz]
  have ab:O.bb=true:=by rw[u.v];simp -implicitDefEqProofs only[af.bb,af.aX,fV.v,jN u.CT.g,jN u.gH.g,bz]
  have M:∀(S:ah) (K:bd),(aQ aF G X).gT S K 36 [I p.x]=K B S:=fun S K=>l3 rfl ex rx
  have ac:∀(S:ah) (K:bd),(aQ aF G X).gT S K 36 [I p.y]=K O S:=fun S K=>l3 rfl aa ab
  rw[ay,F _ _ (0+4) (I p.x) rfl,aA,M,ay,r.v,be];refine(congrArg Q ((pg G X 4 3 (.agg [.bool g6.neg,g6.v,.bool bP.neg,bP.v]) rfl rfl (by simp) rfl:(aQ aF G X).bm (S.new (.cells [.str (115::eZ i),I op,.bx 1 [] .nil,.bool false,.bx 1 [] .nil,.bool false,.bx 1 [] .nil,.bool false,.bx 1 [] .nil,.bool false,.bx 1 [] .nil,.int .i64 0])) _ 4 (.ref (.l S.own.length) (0+3)) _=_))).mpr ?_;rw[ay];show Q ((aQ aF G X).aq (S.new (.cells [.str (115::eZ i),I op,.bx 1 [] .nil,.bool g6.neg,g6.v,.bool bP.neg,bP.v,.bool false,.bx 1 [] .nil,.bool false,.bx 1 [] .nil,.int .i64 0])) _ none (.ref (.l tn) (0+5)));rw[F _ _ (0+5) (I p.y) rfl,aA,ac,ay,u.v,be];refine(congrArg Q ((pg G X 4 7 (.agg [.bool lF.neg,lF.v,.bool lb.neg,lb.v]) rfl rfl (by simp) rfl:(aQ aF G X).bm (S.new (.cells [.str (115::eZ i),I op,.bx 1 [] .nil,.bool g6.neg,g6.v,.bool bP.neg,bP.v,.bool false,.bx 1 [] .nil,.bool false,.bx 1 [] .nil,.int .i64 0])) _ 4 (.ref (.l S.own.length) (0+7)) _=_))).mpr ?_;rw[show∀(S:ah) (K:bd),(aQ aF G X).aj S K (al .add (.int .i64 (gR:Int)) (.int .i64 2))=K (.int .i64 ((gR+2:Nat):Int)) S from fun S K=>iv gR 2 (by omega)];refine nZ G X Q L iO ⟨115::eZ i,op,[],.nil,g6,bP,lF,lb,0⟩ ⟨fun a e=>(by cases e),by simp,r.CT,r.gH,u.CT,u.gH⟩ bU s S iC.abc iC.q4 n4 v1 _ _ i bZ (fun S' g' a0 b2=>?_);exact k1 ar g6 bP lF lb S' g' r.TR r.jk u.TR u.jk r.CT r.gH u.CT u.gH r.valid u.valid a0 b2
 ·rw[b0 ar,eg,bO];by_cases aw:op=2
  ·rw[dR aw,ek];obtain⟨B,Z,g6,bP,ex,r⟩:=B0 G X p.x fS.x;have rx:B.bb=true:=by
    rw[r.v];simp -implicitDefEqProofs only[af.bb,af.aX,fV.v,jN r.CT.g,jN r.gH.g,bz]
   have M:∀(S:ah) (K:bd),(aQ aF G X).gT S K 36 [I p.x]=K B S:=fun S K=>l3 rfl ex rx
   rw[ay,w,J];refine(congrArg Q ((pg G X 1 2 (i6 A (gI A)) rfl rfl (by simp) rfl:(aQ aF G X).bm (S.new (.cells [.str (115::eZ i),I op,.bx 1 [] .nil,.bool false,.bx 1 [] .nil,.bool false,.bx 1 [] .nil,.bool false,.bx 1 [] .nil,.bool false,.bx 1 [] .nil,.int .i64 0])) _ 1 (.ref (.l S.own.length) (0+2)) _=_))).mpr ?_;rw[ay];show Q ((aQ aF G X).aq (S.new (.cells [.str (115::eZ i),I op,i6 A (gI A),.bool false,.bx 1 [] .nil,.bool false,.bx 1 [] .nil,.bool false,.bx 1 [] .nil,.bool false,.bx 1 [] .nil,.int .i64 0])) _ none (.ref (.l tn) (0+4)));rw[F _ _ (0+4) (I p.x) rfl,aA,M,ay,r.v,be];refine(congrArg Q ((pg G X 4 3 (.agg [.bool g6.neg,g6.v,.bool bP.neg,bP.v]) rfl rfl (by simp) rfl:(aQ aF G X).bm (S.new (.cells [.str (115::eZ i),I op,i6 A (gI A),.bool false,.bx 1 [] .nil,.bool false,.bx 1 [] .nil,.bool false,.bx 1 [] .nil,.bool false,.bx 1 [] .nil,.int .i64 0])) _ 4 (.ref (.l S.own.length) (0+3)) _=_))).mpr ?_;rw[show∀(S:ah) (K:bd),(aQ aF G X).aj S K (al .add (.int .i64 (gR:Int)) (.int .i64 1))=K (.int .i64 ((gR+1:Nat):Int)) S from fun S K=>iv gR 1 (by omega)];refine nZ G X Q L iO ⟨115::eZ i,op,A,gI A,g6,bP,nY,nY,0⟩ ⟨H,Ol,r.CT,r.gH,iN,iN⟩ bU s S iC.abc iC.q4 n4 v1 _ _ i bZ (fun S' g' a0 b2=>?_);exact pz aw g6 bP S' g' r.TR r.jk r.CT r.gH r.valid a0 b2
  ·rw[b0 aw,eg];cases b with
   |true=>
    have ap:=lJ (x:=p.nB) (n:=2) (by omega);have tR:=fun s=>qB G X p.nB 2 (by omega) fS.nB s
    have ad:IntKind.wrap .i64 (1+gQ p.nB 2)=1+gQ p.nB 2:=e4 _ (by omega) (by omega);rw[ek,ay,w,J];refine(congrArg Q ((pg G X 1 2 (i6 A (gI A)) rfl rfl (by simp) rfl:(aQ aF G X).bm (S.new (.cells [.str (115::eZ i),I op,.bx 1 [] .nil,.bool false,.bx 1 [] .nil,.bool false,.bx 1 [] .nil,.bool false,.bx 1 [] .nil,.bool false,.bx 1 [] .nil,.int .i64 0])) _ 1 (.ref (.l S.own.length) (0+2)) _=_))).mpr ?_;rw[ay];show Q ((aQ aF G X).aq (S.new (.cells [.str (115::eZ i),I op,i6 A (gI A),.bool false,.bx 1 [] .nil,.bool false,.bx 1 [] .nil,.bool false,.bx 1 [] .nil,.bool false,.bx 1 [] .nil,.int .i64 0])) _ none (.ref (.l tn) (0+6)));rw[F _ _ (0+6) (I p.nB) rfl,aA,aA,aZ (tR _),fF,ad,ay,aA];refine(congrArg Q ((pg G X 1 11 (I (1+gQ p.nB 2)) rfl rfl (by simp) rfl:(aQ aF G X).bm (S.new (.cells [.str (115::eZ i),I op,i6 A (gI A),.bool false,.bx 1 [] .nil,.bool false,.bx 1 [] .nil,.bool false,.bx 1 [] .nil,.bool false,.bx 1 [] .nil,.int .i64 0])) _ 1 (.ref (.l S.own.length) (0+11)) _=_))).mpr ?_;rw[show∀(S:ah) (K:bd),(aQ aF G X).aj S K (al .add (.int .i64 (roots:Int)) (.int .i64 1))=K (.int .i64 ((roots+1:Nat):Int)) S from fun S K=>iv roots 1 (by omega)];refine nZ G X Q L iO ⟨115::eZ i,op,A,gI A,nY,nY,nY,nY,1+gQ p.nB 2⟩ ⟨H,Ol,iN,iN,iN,iN⟩ bU s S iC.abc iC.q4 n4 v1 _ _ i bZ (fun S' g' a0 b2=>?_);exact U ar aw rfl _ S' g' (by omega) a0 b2
   |false=>rw[eg,ay,w,J];refine(congrArg Q ((pg G X 1 2 (i6 A (gI A)) rfl rfl (by simp) rfl:(aQ aF G X).bm (S.new (.cells [.str (115::eZ i),I op,.bx 1 [] .nil,.bool false,.bx 1 [] .nil,.bool false,.bx 1 [] .nil,.bool false,.bx 1 [] .nil,.bool false,.bx 1 [] .nil,.int .i64 0])) _ 1 (.ref (.l S.own.length) (0+2)) _=_))).mpr ?_;refine nZ G X Q L iO ⟨115::eZ i,op,A,gI A,nY,nY,nY,nY,0⟩ ⟨H,Ol,iN,iN,iN,iN⟩ bU s S iC.abc iC.q4 n4 v1 _ _ i bZ (fun S' g' a0 b2=>?_);exact V ar aw rfl S' g' a0 b2
end
theorem aaQ(op:Int)(A:List Int):qj op A=1∨(qj op A=op∧∀a,a∈A→0≤a):=by
 unfold qj;by_cases h:A.any (fun a=>decide (a<0))=true
 ·rw[if_pos h];exact .inl rfl
 ·rw[if_neg h];refine .inr ⟨rfl,fun a e=>?_⟩
  have:=List.any_eq_false.1 (Bool.eq_false_iff.2 h) a e;simp at this;omega
theorem to{α:Type}(A:List α):∀a,gI A≠.cP a:=fun a e=>by unfold gI at e;split at e<;> cases e
section
variable(G:Nat→af)(X:Nat→List af→ah→ai)
theorem Fm(d8:G 0=.bk jO)(Q:ai→Prop)(L:List az)(iO H:e0)(bU:L.length≤40)(s S:ah)(tn:Nat)(p:xX)(fS:p.aaP)(iC:Om s S iO L.length tn p)(n4 v1:af)(i gR roots:Nat)(bZ:i<131072)(r:Int)(aG:1≤r∧r≤16)
  (y:Fi L gR roots i)(hR:fj S H (fa L (gB r) [p.a,p.b,p.c]).length)
  (cK:∀M ag ak S' g',Fi M ag ak (i+1)→M.length≤L.length+1→Child s S'→fj S' g' M.length→Q (k8 (aQ aF G X) n4 v1 (bc M g') (.int .i64 (ag:Int)) (.int .i64 (ak:Int)) (.int .i64 ((i+1:Nat):Int)) S')):
  Q (sY (aQ aF G X) n4 v1 (bc L iO) (.int .i64 (gR:Int)) (.int .i64 (roots:Int)) (.int .i64 (i:Int)) (.ref (.l tn) 0) (I (qj r (fa L (gB r) [p.a,p.b,p.c]))) (.bool (jd r)) (i6 (fa L (gB r) [p.a,p.b,p.c]) H) S):=by
 have N:=y.rt;have U:=y.af6;have an:=zV r;have F:(fa L (gB r) [p.a,p.b,p.c]).length=(gB r).length:=ph _ _ _ (by simpa using an);have ao:∀o,o∈L→hJ o.op≠0:=fun o h=>TQ (l:=L) (pre:=L) (rest:=[]) (by simp) y.wf o h
 have V:=aaQ r (fa L (gB r) [p.a,p.b,p.c]);have Y:qj r (fa L (gB r) [p.a,p.b,p.c])≠1→hv L (gB r) (fa L (gB r) [p.a,p.b,p.c])=true:=fun h=>by
  rcases V with e|⟨_,e⟩
  ·exact absurd e h
  ·exact Fk ao _ _ e
 have Z:qj r (fa L (gB r) [p.a,p.b,p.c])≠1→qj r (fa L (gB r) [p.a,p.b,p.c])=r:=fun h=>by
  rcases V with e|⟨e,_⟩
  ·exact absurd e h
  ·exact e
 have aH:1≤qj r (fa L (gB r) [p.a,p.b,p.c]):=by rcases V with e|⟨e,_⟩<;> omega
 generalize aI:fa L (gB r) [p.a,p.b,p.c]=A at *;generalize aJ:qj r A=op at *;have aK:A.length≤3:=by omega
 have skip:Q (qb (aQ aF G X) n4 v1 (bc L iO) (.int .i64 (gR:Int)) (.int .i64 (roots:Int)) (.int .i64 (i:Int)) S):=by rw[uS,ij i (by omega)];exact cK L gR roots S iO y.later (by omega) iC.abc iC.q4
 have go:(jd r=true→roots≠3)→(op≤2→gR≤6)→Q (qc (aQ aF G X) n4 v1 (bc L iO) (.int .i64 (gR:Int)) (.int .i64 (roots:Int)) (.int .i64 (i:Int)) (.ref (.l tn) 0) (I op) (.bool (jd r)) (i6 A H) S):=fun J O=>by
  refine Fl G X d8 Q L iO H (by omega) s S tn p fS iC n4 v1 i gR roots bZ op (jd r) A hR (by omega) U N ?_ ?_ ?_ ?_
  ·intro ar g6 bP lF lb S' g' dn aa ap aq ab ac au av px rk a0 b2;subst ar;have O:=O (by omega);refine cK _ _ _ S' g' (y.snoc bZ (az.mk (115::eZ i) 1 [] .nil g6 bP lF lb 0) (by show(1:Int)≤1∧(1:Int)≤16;omega) rfl rfl rfl rfl ?_ ⟨fun a e=>(by cases e),by simp,ab,ac,au,av⟩ ⟨dn,aa,ap,aq⟩ ?_ ?_ ?_ N) (by simp) a0 b2
   ·show(jr g6 bP&&jr lF lb)=true;rw[px,rk];rfl
   ·show gR+2≤gR+2;omega
   ·omega
   ·show roots+0≤roots;omega
  ·intro aw g6 bP S' g' dn aa ab ac px a0 b2;have eu:op≠1:=by omega
   have O:=O (by omega);have e:=Z eu;have B:=Y eu;subst aw;rw[←e] at B F;refine cK _ _ _ S' g' (y.snoc bZ (az.mk (115::eZ i) 2 A (gI A) g6 bP nY nY 0) (by show(1:Int)≤2∧(2:Int)≤16;omega) rfl B F.symm rfl ?_ ⟨to A,(by show A.length<_;omega),ab,ac,iN,iN⟩ ⟨dn,aa,oh,oh⟩ ?_ ?_ ?_ N) (by simp) a0 b2
   ·show(jr g6 bP&&mJ nY nY)=true;rw[px];rfl
   ·show gR+1≤gR+1;omega
   ·omega
   ·show roots+0≤roots;omega
  ·intro ar aw u nB S' g' ax a0 b2;have e:=Z ar;have B:=Y ar;have J:=J u;rw[←e] at B F u;refine cK _ _ _ S' g' (y.snoc bZ (az.mk (115::eZ i) op A (gI A) nY nY nY nY nB) (by show 1≤op∧op≤16;omega) rfl B F.symm ?_ ?_ ⟨to A,(by show A.length<_;omega),iN,iN,iN,iN⟩ ⟨oh,oh,oh,oh⟩ ?_ U ?_ ?_) (by simp) a0 b2
   ·unfold xR;rw[if_pos u];exact dR ax
   ·unfold q6;rw[if_neg ar,if_neg aw];rfl
   ·show gR+(if op=1 then 2 else if op=2 then 1 else 0)≤gR;rw[if_neg ar,if_neg aw];omega
   ·show roots+(if jd op=true then 1 else 0)≤roots+1;rw[if_pos u];omega
   ·omega
  ·intro ar aw u S' g' a0 b2;have e:=Z ar;have B:=Y ar;rw[←e] at B F u;have am:¬jd op=true:=by rw[u];simp
   refine cK _ _ _ S' g' (y.snoc bZ (az.mk (115::eZ i) op A (gI A) nY nY nY nY 0) (by show 1≤op∧op≤16;omega) rfl B F.symm ?_ ?_ ⟨to A,(by show A.length<_;omega),iN,iN,iN,iN⟩ ⟨oh,oh,oh,oh⟩ ?_ U ?_ N) (by simp) a0 b2
   ·unfold xR;rw[if_neg am];rfl
   ·unfold q6;rw[if_neg ar,if_neg aw];rfl
   ·show gR+(if op=1 then 2 else if op=2 then 1 else 0)≤gR;rw[if_neg ar,if_neg aw];omega
   ·show roots+(if jd op=true then 1 else 0)≤roots;rw[if_neg am];omega
 have rest:(jd r=true→roots≠3)→Q ((aQ aF G X).ae (.bool false) false (fun k=>k (I op) S) S (fun ay s=>(aQ aF G X).ae (.bool false) false (fun k=>(aQ aF G X).aj s k (al .leq ay (.int .i64 2))) s (fun aA s=>(aQ aF G X).ae (.bool false) false (fun k=>k aA s) s (fun ad s=>(aQ aF G X).ae ad true (fun k=>k (.int .i64 (gR:Int)) s) s (fun aB s=>(aQ aF G X).ae ad true (fun k=>(aQ aF G X).aj s k (al .gtr aB (.int .i64 6))) s (fun aC s=>(aQ aF G X).ae (.bool false) false (fun k=>(aQ aF G X).bs s k ad aC (.bool false)) s (fun aD s=>(aQ aF G X).bs s (fun aE s=>(aQ aF G X).aO aE (qb (aQ aF G X) n4 v1 (bc L iO) (.int .i64 (gR:Int)) (.int .i64 (roots:Int)) (.int .i64 (i:Int)) s) (qc (aQ aF G X) n4 v1 (bc L iO) (.int .i64 (gR:Int)) (.int .i64 (roots:Int)) (.int .i64 (i:Int)) (.ref (.l tn) 0) (I op) (.bool (jd r)) (i6 A H) s)) (.bool false) (.bool true) aD))))))):=fun J=>by
  simp -implicitDefEqProofs only[ee,c6];by_cases aw:op≤2
  ·simp -implicitDefEqProofs only[dR aw,f5,ee,b8];by_cases bS:(6:Int)<(gR:Int)
   ·simp -implicitDefEqProofs only[dR bS,fH,ew,ek];exact skip
   ·simp -implicitDefEqProofs only[b0 bS,fH,ew,eg];exact go J (fun _=>by omega)
  ·simp -implicitDefEqProofs only[b0 aw,gP,b7,ee,fH,ew,eg];exact go J (fun h=>absurd h aw)
 rw[ED];cases u:jd r with
 |true=>
  rw[u] at rest;simp -implicitDefEqProofs only[f5,bO];by_cases bS:(roots:Int)=3
  ·simp -implicitDefEqProofs only[dR bS,fH,hi,b7,ek];exact skip
  ·simp -implicitDefEqProofs only[b0 bS,fH];exact rest (fun _ e=>bS (by omega))
 |false=>rw[u] at rest;simp -implicitDefEqProofs only[gP,b7,ew];exact rest (fun e=>by cases e)
end
theorem abu(L:List az)(h:∀x,x∈L→lc x):af.aX (L.map az.enc)=true:=by
 induction L with
 |nil=>rfl
 |cons x L e=>show(x.enc.bb&&af.aX (L.map az.enc))=true;rw[(h x List.mem_cons_self).bb,e (fun y ez=>h y (List.mem_cons_of_mem _ ez))];rfl
abbrev u2(er:List xX)(g:e0):af:=.bx 7 (er.map xX.enc) g
section
variable(G:Nat→af)(X:Nat→List af→ah→ai)
theorem IA(d8:G 0=.bk jO)(Q:ai→Prop)(L:List az)(iO:e0)(bU:L.length≤40)(s S:ah)(tn:Nat)(p:xX)(fS:p.aaP)(iC:Om s S iO L.length tn p)(n4 v1:af)(i gR roots:Nat)(bZ:i<131072)(r:Int)(J:1≤r∧r≤16)
  (M:Fi L gR roots i)
  (cK:∀u A B S' g',Fi u A B (i+1)→u.length≤L.length+1→Child s S'→fj S' g' u.length→Q (k8 (aQ aF G X) n4 v1 (bc u g') (.int .i64 (A:Int)) (.int .i64 (B:Int)) (.int .i64 ((i+1:Nat):Int)) S')):
  Q (sZ (aQ aF G X) n4 v1 (bc L iO) (.int .i64 (gR:Int)) (.int .i64 (roots:Int)) (.int .i64 (i:Int)) (.ref (.l tn) 0) (I r) S):=by
 have y:∀(K:bd) (o:Nat) (c:af),p.cs[o]? =some c→(aQ aF G X).aq S K none (.ref (.l tn) o)=K c S:=fun K o c h=>ga iC.af7 h
 have AZ:=fun s=>Mg G X r s
 have fo:∀(S:ah) (K:bd),(aQ aF G X).bf S K 1 [I p.a,I p.b,I p.c]=K (i6 [p.a,p.b,p.c] .exact) S:=fun S K=>rfl
 have F:=zV r;have N:∀K:bd,(aQ aF G X).b1 S K 0 (pt r)=K (i6 (gB r) (tj r)) S:=fun K=>nh _ _
 have O:∀K:bd,(aQ aF G X).b1 S K 1 (pt r)=K (I (hJ r)) S:=fun K=>ni _ _ _
 have U:∀K:bd,(aQ aF G X).b1 S K 2 (pt r)=K (.bool (jd r)) S:=fun K=>tO _ _ _ _
 rw[Hq,aA,aZ (AZ _),N,O,U,ay,y _ (0+1) (I p.a) rfl,ay,y _ (0+2) (I p.b) rfl,ay,y _ (0+3) (I p.c) rfl,fo];refine Iy G X Q L (by omega) iO s tn p (gB r) [p.a,p.b,p.c] (tj r) .exact F (by omega) ?_ n4 v1 _ _ _ _ _ _ (fun S' H V hR=>?_) (gB r).length 0 (by omega) S .nil iC .nil (fun j _ e=>by cases e)
 ·intro c a0;simp only[List.mem_cons,rc,or_false] at a0;rcases a0 with rfl |rfl |rfl
  ·exact fS.a
  ·exact fS.b
  ·exact fS.c
 ·have Y:(fa L (gB r) [p.a,p.b,p.c]).length=(gB r).length:=ph _ _ _ (by simpa using F);rw[Hp];refine(congrArg Q (Iz G X (fa L (gB r) [p.a,p.b,p.c]) H (by omega) _ _ _ _ _ _ _ _ S' (fa L (gB r) [p.a,p.b,p.c]).length 0 (by omega) r)).mpr ?_;exact Fm G X d8 Q L iO H bU s S' tn p fS V n4 v1 i gR roots bZ r J M hR cK
theorem IB(d8:G 0=.bk jO)(er:List xX)(F:e0)(M:∀p,p∈er→p.aaP)(ac:er.length≤131072)(n:Nat)(cZ:n≤40)(s:ah):∀(k i:Nat),i+k=er.length→∀(L:List az) (gR roots:Nat) (S:ah) (iO:e0),Fi L gR roots i→L.length≤n→Child s S→fj S iO L.length→
  ∃(e:List az) (h u hZ:Nat),Fi e h u hZ∧e.length≤n∧k8 (aQ aF G X) (u2 er F) (.int .i64 (n:Int)) (bc L iO) (.int .i64 (gR:Int)) (.int .i64 (roots:Int)) (.int .i64 (i:Int)) S=.ok (bc e (gI e)) s:=by
 intro k
 induction k with
 |zero=>
  intro i bZ L gR roots S iO y bU B b2;refine⟨L,gR,roots,i,y,bU,?_⟩;rw[rB,aI,d0,bl,b0 (by omega)];simp -implicitDefEqProofs only[gP,b7,ew,eg];rw[uT]
  have:=mE (S:=S) (sz:=12) (es:=L.map az.enc) (g:=iO) (by simpa using b2) (abu L y.ok);rw[tW] at this;exact fT B _ _ this
 |succ k N=>
  intro i bZ L gR roots S iO y bU B b2;have H:i<er.length:=by omega
  have el:(L.map az.enc).length=L.length:=d0 ..;by_cases ad:L.length<n
  ·have O:(er.map xX.enc)[i]? =some er[i].enc:=by simp [H]
   have J:=M er[i] (mW H);have ip:=fun(k:bd)=>EP G X S k 7 _ F .i64 i _ O
   generalize er[i]=p at *;have U:∀K:bd,(aQ aF G X).aq S K (some 7) (.bk p.enc.cells)=K (.agg p.cs) S:=fun K=>bn 7 p.cs (show 7≤p.cs.length from aC 7)
   have ae:=lJ (x:=p.op) (n:=16) (by omega);have tR:=fun s=>qB G X p.op 16 (by omega) J.op s
   have V:IntKind.wrap .i64 (1+gQ p.op 16)=1+gQ p.op 16:=e4 _ (by omega) (by omega);have iC:Om s (S.new (.cells p.cs)) iO L.length S.own.length p:=⟨B.new _,b2.new _,by simp [ah.new]⟩;have fin:∀A:Int,1≤A∧A≤16→∃(e:List az) (h u hZ:Nat),Fi e h u hZ∧e.length≤n∧sZ (aQ aF G X) (u2 er F) (.int .i64 (n:Int)) (bc L iO) (.int .i64 (gR:Int)) (.int .i64 (roots:Int)) (.int .i64 (i:Int)) (.ref (.l S.own.length) 0) (I A) (S.new (.cells p.cs))=.ok (bc e (gI e)) s:=fun A Y=>by refine IA G X d8 (fun r=>∃(e:List az) (h u hZ:Nat),Fi e h u hZ∧e.length≤n∧r=.ok (bc e (gI e)) s) L iO (by omega) s _ _ p J iC _ _ i gR roots (by omega) A Y y (fun e h u S' g' Z af aa ab=>?_);exact N (i+1) (by omega) e h u S' g' Z (by omega) aa ab
   rw[rB,aI,d0,bl,dR (by omega)];simp -implicitDefEqProofs only[f5,aI,bl,el];rw[dR (show(L.length:Int)<(n:Int) by omega)];simp -implicitDefEqProofs only[fH,ek];rw[Hr,ip,U,cG,be,cX 7 p.cs _ rfl rfl rfl,ay,ga iC.af7 (show p.cs[0+0]? =some (I p.op) from rfl),aA,aA,aZ (tR _),fF,V,bl];by_cases aw:(i:Int)<2
   ·rw[dR aw,ek];exact fin 1 (by omega)
   ·rw[b0 aw,eg];exact fin _ (by omega)
  ·refine⟨L,gR,roots,i,y,bU,?_⟩;rw[rB,aI,d0,bl,dR (by omega)];simp -implicitDefEqProofs only[f5,aI,bl,el];rw[b0 (show¬(L.length:Int)<(n:Int) by omega)];simp -implicitDefEqProofs only[fH,eg];rw[uT]
   have:=mE (S:=S) (sz:=12) (es:=L.map az.enc) (g:=iO) (by simpa using b2) (abu L y.ok);rw[tW] at this;exact fT B _ _ this
theorem TT(d8:G 0=.bk jO)(er:List xX)(e:e0)(r:∀p,p∈er→p.aaP)(u:er.length≤131072)(n:Nat)(cZ:n≤40)(s:ah):∃(L:List az) (g:e0),f9 L=0∧(∀x,x∈L→lc x)∧L.length≤n∧(∀a,g≠.cP a)∧(∀x,x∈L→Fh x)∧aB aF G X 10 [u2 er e,.int .i64 (n:Int)] s=.ok (bc L g) s:=by have y:Fi [] 0 0 0:=⟨rfl,fun x h=>(by cases h),fun x h=>(by cases h),aC _,by omega,aC _,by omega,fun x h=>(by cases h)⟩;obtain⟨L,gR,roots,i,ar,aw,bS⟩:=IB G X d8 er e r u n cZ s er.length 0 (by omega) [] 0 0 s.ag .nil y (Nat.zero_le _) (.ag s) .nil;refine⟨L,gI L,ar.check (by omega),ar.ok,aw,to L,ar.aiA,?_⟩;rw[NA,Z4];exact bS
end
end Go.gF
end
section
namespace Go.gF
open Go.Ab Go.hV
variable(G:Nat→af)(X:Nat→List af→ah→ai)
end Go.gF
end
section
namespace Go.gF
open Go.Ab Go.hV
section
variable{T:Nat→Option c8}{G:Nat→af}{X:Nat→List af→ah→ai}
def x1(S:ah)(g:e0)(n:Nat):Prop:=(g=.nil∧n=0)∨∃t,g=.cP (.g S.aa t)∧0<n∧S.own[t]? =some (.tok n)
theorem io{S:ah}{k:bd}{j o:Nat}{cs:List af}{v:af}(h:S.own[j]? =some (.cells cs))(e:o<cs.length)(bX:v.en=true)(hw:v.cells=[v])(r:v.e9=true):(aQ T G X).bm S k 1 (.ref (.l j) o) v=k .dead {S with own:=S.own.set j (.cells (cs.set o v))}:=by
 rw[jZ];simp -implicitDefEqProofs only[fh,r,hw,bT,ca,bh,e7,bz,bD];unfold h9;have dn:S.get (.l j)=some (.cells cs):=h;have eo:S.gL (.l j) [v]=true:=by simp [ah.gL,ah.oN]
 simp -implicitDefEqProofs only[dn,bT,ca,bh,show Nat.ble (o+1) cs.length=true from ec e,eo,List.all_cons,bX,List.all_nil,bz,bD];rfl
theorem IC{S:ah}{es new:List af}{g g2:e0}{q bytes:Nat}(b2:x1 S g es.length)(cZ:new≠[])(r:(es.length+new.length)*bytes≤1099511627776)(a0:(new.flatMap af.cells).all af.en=true)(u:∀a,g2≠.cP a:=by intro a h;cases h):
  ∃g' F t,(∀k:bd,(aQ T G X).fm S k q bytes (some (.l 0)) (.bx q es g) (.bx q new g2)=k (.bx q (es++new) g') {S with own:=F})∧g'.ao S.aa=.cP (.g S.aa t)∧F[t]? =some (.tok (es.length+new.length))∧S.own.length≤F.length∧
   (∀(j:Nat) (o:b4),S.own[j]? =some o→(∀n:Nat,o≠b4.tok n)→F[j]? =some o):=by
 have bB:∀k:bd,(aQ T G X).fm S k q bytes (some (.l 0)) (.bx q es g) (.bx q new g2)=fN (gM G (aB T G X) bR) S k q bytes (some (.l 0)) (.bx q es g) (.bx q new g2):=fun k=>lD ..
 cases new with
 |nil=>exact absurd rfl cZ
 |cons c cs=>
  have iQ:dw S (.bx q (c::cs) g2)=some (q,c::cs):=by cases g2<;> first|rfl |exact absurd rfl (u _)
  rcases b2 with⟨rfl,A⟩|⟨t,rfl,lh,h⟩
  ·refine⟨.cP (.l S.own.length),S.own++[.tok (es.length+(c::cs).length)],S.own.length,fun k=>?_,rfl,by simp,by simp,fun j o h _=>?_⟩
   ·rw[bB];unfold fN;simp only;unfold hd;rw[iQ];simp only[e7,ey];rw[show Nat.ble ((es.length+(c::cs).length)*bytes) 1099511627776=true from ec r];simp only[bD,ah.gU];rfl
   ·rw[fB (dy.1 h).1];exact h
  ·have e:S.get (.g S.aa t)=some (.tok es.length):=by simp only[ah.get,↓reduceIte];exact h
   refine⟨.cP (.g S.aa t),S.own.set t (.tok (es.length+(c::cs).length)),t,fun k=>?_,rfl,by simp [(dy.1 h).1],by simp,fun j o cL y=>?_⟩
   ·rw[bB];unfold fN;simp only;unfold hd;rw[iQ];simp only[e7,ey];rw[show Nat.ble ((es.length+(c::cs).length)*bytes) 1099511627776=true from ec r];simp only[bD,e,e7,a0,bz];show(match S.set (.g S.aa t) (.tok (es.length+(c::cs).length)) with |some s=>k (.bx q (es++c::cs) (.cP (.g S.aa t))) s|none=>.fail)=_;simp only[ah.set,↓reduceIte]
   ·have:t≠j:=fun e=>by subst e;rw[h] at cL;injection cL with cL;exact y _ cL.symm
    rw[ix this];exact cL
end
section
variable(G:Nat→af)(X:Nat→List af→ah→ai)
theorem zW{S:ah}{k:bd}{j n:Nat}{cs:List af}(h:S.own[j]? =some (.cells cs))(cZ:n≤cs.length):(aQ aF G X).aq S k (some n) (.ref (.l j) 0)=k (.agg (cs.take n)) S:=by rw[hh];have e:S.get (.l j)=some (.cells cs):=h;simp only[dZ,e,bY,e3];rw[show Nat.ble n cs.length=true from ec cZ];rfl
theorem age{s:ah}(n c x y:Int)(K:bd):(aQ aF G X).aj s (fun e s=>(aQ aF G X).ae e true (fun k=>k (I c) s) s (fun r s=>(aQ aF G X).ae e true (fun k=>(aQ aF G X).aj s k (al .eql r (.int .i64 y))) s (fun u s=>(aQ aF G X).bs s (fun A s=>K A s) e u (.bool false)))) (al .eql (.int .i64 n) (.int .i64 x))=K (.bool (decide (n=x)&&decide (c=y))) s:=by
 rw[bO];cases h:decide (n=x)
 ·simp -implicitDefEqProofs only[gP,b7,ew,gm]
 ·simp -implicitDefEqProofs only[f5,bO,fH,ey]
end
end Go.gF
end
