/- A part of the proof: no condition. -/
import Derived.Test.YtgdnbfijkagodaaGreatDoorA0
import Derived.Test.YtgdnbfijkagodaaGreatDoorA7
import Derived.Test.YtgdnbfijkagodaaGreatDoorA3
import Derived.Test.YtgdnbfijkagodaaGreatDoorA12
import Derived.Test.YtgdnbfijkagodaaGreatDoorA5
set_option linter.unusedSectionVars false
set_option linter.unusedSimpArgs false
set_option linter.unusedVariables false
section
namespace Go.gl
open Go.Ab
def AR(A:Nat→List Nat):Nat→List Nat→List Nat
 |0,_=>[]
 |n+1,m=>if n∈m then n::AR A n (A n++m) else AR A n m
def iJ(A:Nat→List Nat)(i:Nat):List Nat:=eJ A i (i+1) [i]
theorem pK(A:Nat→List Nat)(i:Nat):∀(k:Nat) (m:List Nat),k≤i→eJ A i k m=AR A k m
 |0,_,_=>rfl
 |k+1,m,h=>by
  have cZ:Nat.beq k i=false:=by
   cases e:Nat.beq k i
   ·rfl
   ·have:=dh e;omega
  show(bif m.elem k then(bif Nat.beq k i then eJ A i k (A k++m) else k::eJ A i k (A k++m)) else eJ A i k m)=_;rw[cZ,pK A i k (A k++m) (by omega),pK A i k m (by omega)];by_cases e:k∈m
  ·simp [AR,e,List.elem_eq_mem]
  ·simp [AR,e,List.elem_eq_mem]
theorem AJ(A:Nat→List Nat)(i:Nat):iJ A i=AR A i (A i++[i]):=by show(bif [i].elem i then(bif Nat.beq i i then eJ A i i (A i++[i]) else i::eJ A i i (A i++[i])) else eJ A i i [i])=_;rw[pK A i i _ (aD i)];simp [List.elem_eq_mem]
theorem tc(A:Nat→List Nat):∀(n:Nat) (m:List Nat) (x:Nat),x∈AR A n m→x<n
 |0,_,x,h=>by cases h
 |n+1,m,x,h=>by
  rw[AR] at h;split at h
  ·rcases List.mem_cons.1 h with e|e
   ·omega
   ·have:=tc A n _ x e;omega
  ·have:=tc A n _ x h;omega
theorem xc(A:Nat→List Nat):∀(n:Nat) (m:List Nat),(AR A n m).Pairwise (· > ·)
 |0,_=>List.Pairwise.nil
 |n+1,m=>by
  rw[AR];split
  ·exact List.Pairwise.cons (fun x a5=>tc A n _ x a5) (xc A n _)
  ·exact xc A n _
theorem AK{A:Nat→List Nat}(u:∀k a,a∈A k→a<k):∀(n:Nat) (m:List Nat) (x:Nat),x∈AR A n m↔x<n∧(x∈m∨∃y,y∈AR A n m∧x∈A y)
 |0,m,x=>⟨fun h=>(by cases h),fun h=>absurd h.1 (by omega)⟩
 |n+1,m,x=>by
  by_cases dm:n∈m
  ·have e:AR A (n+1) m=n::AR A n (A n++m):=by simp [AR,dm]
   have r:=AK u n (A n++m) x;rw[e];constructor
   ·intro h;rcases List.mem_cons.1 h with e|h
    ·subst e;exact⟨by omega,.inl dm⟩
    ·obtain⟨ar,av⟩:=r.1 h;refine⟨by omega,?_⟩;rcases av with av|⟨y,av,bV⟩
     ·rcases List.mem_append.1 av with av|av
      ·exact .inr ⟨n,List.mem_cons_self,av⟩
      ·exact .inl av
     ·exact .inr ⟨y,List.mem_cons_of_mem _ av,bV⟩
   ·rintro ⟨ar,av⟩
    by_cases ex:x=n
    ·subst ex;exact List.mem_cons_self
    ·refine List.mem_cons_of_mem _ (r.2 ⟨by omega,?_⟩);rcases av with av|⟨y,av,bV⟩
     ·exact .inl (List.mem_append_right _ av)
     ·rcases List.mem_cons.1 av with e|av
      ·subst e;exact .inl (List.mem_append_left _ bV)
      ·exact .inr ⟨y,av,bV⟩
  ·have e:AR A (n+1) m=AR A n m:=by simp [AR,dm]
   have r:=AK u n m x;rw[e];constructor
   ·intro h;obtain⟨ar,av⟩:=r.1 h;exact⟨by omega,av⟩
   ·rintro ⟨ar,av⟩
    by_cases ex:x=n
    ·subst ex;rcases av with av|⟨y,av,bV⟩
     ·exact absurd av dm
     ·have dD:=tc A _ _ y av;have B:=u _ _ bV;omega
    ·exact r.2 ⟨by omega,av⟩
theorem AL{A:Nat→List Nat}{i x:Nat}(h:x∈iJ A i):x<i:=tc A i _ x (by rwa [AJ] at h)
theorem y1(A:Nat→List Nat)(i:Nat):(iJ A i).Pairwise (· > ·):=by rw[AJ];exact xc A i _
theorem sB{A:Nat→List Nat}(e:∀k a,a∈A k→a<k){i x:Nat}:x∈iJ A i↔(x∈A i∨∃y,y∈iJ A i∧x∈A y):=by
 rw[AJ,AK e];constructor
 ·rintro ⟨ar,av⟩
  rcases av with av|av
  ·rcases List.mem_append.1 av with av|av
   ·exact .inl av
   ·have:=List.mem_singleton.1 av;omega
  ·exact .inr av
 ·rintro (h|⟨y,av,bV⟩)
  ·exact⟨e _ _ h,.inl (List.mem_append_left _ h)⟩
  ·exact⟨Nat.lt_trans (e _ _ bV) (tc A i _ y av),.inr ⟨y,av,bV⟩⟩
theorem D9{A:Nat→List Nat}(e:∀k a,a∈A k→a<k){i a:Nat}(h:a∈A i):a∈iJ A i:=(sB e).2 (.inl h)
theorem xd{A:Nat→List Nat}(e:∀k a,a∈A k→a<k){i a:Nat}(h:a∈iJ A i):∀(d z:Nat),a-z≤d→z∈iJ A a→z∈iJ A i
 |0,z,cP,g8=>by have:=AL g8;omega
 |d+1,z,cP,g8=>by
  rcases(sB e).1 g8 with av|⟨y,av,bV⟩
  ·exact(sB e).2 (.inr ⟨a,h,av⟩)
  ·have:=e _ _ bV;exact(sB e).2 (.inr ⟨y,xd e h d y (by omega) av,bV⟩)
theorem R2{A:Nat→List Nat}(e:∀k a,a∈A k→a<k){i a z:Nat}(h:a∈iJ A i)(g8:z∈iJ A a):z∈iJ A i:=xd e h _ z (aD _) g8
def fr(A:Nat→List Nat)(i:Nat):List Nat:=(iJ A i).reverse
def fi(A:Nat→List Nat)(n i:Nat):List Nat:=(List.range n).filter fun k=>(iJ A k).elem i
theorem xe(A:Nat→List Nat)(i:Nat):(fr A i).Pairwise (· < ·):=List.pairwise_reverse.2 (y1 A i)
theorem k7{A:Nat→List Nat}{i x:Nat}:x∈fr A i↔x∈iJ A i:=List.mem_reverse
theorem Hk{A:Nat→List Nat}{n i k:Nat}:k∈fi A n i↔k<n∧i∈iJ A k:=by simp [fi,List.elem_eq_mem]
theorem Ea:∀(l:List Nat) (a n:Nat),l.Pairwise (· < ·)→(∀x∈l,a≤x∧x<n)→l.length+a≤n∨l=[]
 |[],_,_,_,_=>.inr rfl
 |x::l,a,n,fz,hm=>by
  left
  have a5:=hm x List.mem_cons_self;rcases Ea l (x+1) n (List.pairwise_cons.1 fz).2 (fun y eM=>⟨(List.pairwise_cons.1 fz).1 y eM,(hm y (List.mem_cons_of_mem _ eM)).2⟩) with h|h
  ·simp only[bP];omega
  ·subst h;simp only[bP,cB];omega
theorem xf(A:Nat→List Nat)(i:Nat):(iJ A i).length≤i:=by
 have h:=Ea (fr A i) 0 i (xe A i) (fun x a5=>⟨Nat.zero_le _,AL (k7.1 a5)⟩);have e:(fr A i).length=(iJ A i).length:=List.length_reverse;rcases h with h|h
 ·omega
 ·rw[h] at e;simp at e;omega
end Go.gl
end
section
namespace Go.gl
open Go.Ab Go.hC
def dE(l:List aT)(k:Nat):List Nat:=(l.map fun x=>x.args.map Int.toNat).getD k []
theorem t9{pre:List aT}:∀{ws as:List Int},jD pre ws as=true→ws.length=as.length→∀a∈as,0≤a∧a<(pre.length:Int)
 |[],[],_,_,a,h=>by cases h
 |[],_::_,_,h,_,_=>by cases h
 |_::_,[],_,h,_,_=>by cases h
 |w::ws,b::as,ar,av,a,h=>by
  rw[jD,bl] at ar;rcases List.mem_cons.1 h with e|h
  ·subst e
   have:=ar.1;unfold w0 at this;simp only[bl,b8] at this;exact⟨this.1.1,this.1.2⟩
  ·exact t9 ar.2 (by simpa using av) a h
theorem y2(op:Int):(gi op).length≤3:=by
 have h:∀(a b:List Int) (p:Prop) [Decidable p],a.length≤3→b.length≤3→(if p then a else b).length≤3:=fun a b p _ e r=>by by_cases fz:p<;> simp only[fz,if_true,if_false]<;> assumption
 unfold gi
 repeat' apply h
 all_goals exact dW rfl
theorem xg:∀(r pre:List aT),iB pre r=true→∀(k:Nat) (x:aT),r[k]? =some x→wf (pre++r.take k) x=true
 |[],_,_,k,x,h=>by simp at h
 |y::r,pre,h,0,x,cZ=>by
  rw[iB,bl] at h
  have:y=x:=by simpa using cZ
  subst this;simpa using h.1
 |y::r,pre,h,k+1,x,cZ=>by
  rw[iB,bl] at h
  have:=xg r (pre++[y]) h.2 k x (by simpa using cZ);simpa using this
theorem xh{l:List aT}(h:hs l=0):iB [] l=true:=by
 unfold hs at h;cases e:iB [] l with
 |true=>rfl
 |false=>
  rw[e] at h
  have:(120:Int)=0:=h;omega
theorem ly{l:List aT}(h:hs l=0):l.length≤40:=by
 unfold hs at h;rw[xh h] at h;simp only[bH] at h;split at h
 ·exact absurd h (by decide)
 ·rename_i dm;omega
structure agJ (l:List aT) (k:Nat) (x:aT):Prop where
 agR:hi x.op≠0
 len:(gi x.op).length=x.args.length
 agS:x.name≠[]
 arg:∀a∈x.args,0≤a∧a<(k:Int)
theorem oI{l:List aT}(h:hs l=0){k:Nat}{x:aT}(a5:l[k]? =some x):agJ l k x:=by
 have cZ:=(ec.1 a5).1
 have:=xg l [] (xh h) k x a5;unfold wf at this;simp only[bl,b8] at this;obtain⟨⟨⟨ar,av⟩,bV⟩,dD,_⟩:=this;refine⟨ar,av,bV,fun a e=>?_⟩
 have:=t9 dD av a e;simp only[List.nil_append,List.length_take] at this;omega
theorem Eb{l:List aT}{k:Nat}{x:aT}(a5:l[k]? =some x):dE l k=x.args.map Int.toNat:=by unfold dE;rw[List.getD_eq_getElem?_getD,g6,a5];rfl
theorem Mg{l:List aT}{k:Nat}(a5:l.length≤k):dE l k=[]:=by unfold dE;rw[List.getD_eq_getElem?_getD,g6,List.getElem?_eq_none a5];rfl
theorem R3{l:List aT}(h:hs l=0):∀k a,a∈dE l k→a<k:=fun k a e=>by
 by_cases cZ:k<l.length
 ·have a5:l[k]? =some l[k]:=ei cZ;rw[Eb a5] at e;obtain⟨b,r,rfl⟩:=List.mem_map.1 e
  have:=(oI h a5).arg b r;omega
 ·rw[Mg (by omega)] at e;cases e
theorem sC:∀{as:List Int},(∀a∈as,0≤a)→n7 (as.map I)=some (as.map Int.toNat)
 |[],_=>rfl
 |a::as,h=>by
  have eS:=h a List.mem_cons_self;have e:=sC (as:=as) fun b r=>h b (List.mem_cons_of_mem _ r)
  show(if 0≤a then(n7 (as.map I)).map (a.toNat:: ·) else none)=_;rw[if_pos eS,e];rfl
theorem xi:∀{l:List aT},(∀x∈l,∀a∈x.args,0≤a)→o2 (l.map aT.enc)=some (l.map fun x=>x.args.map Int.toNat)
 |[],_=>rfl
 |x::l,h=>by
  have e:=xi (l:=l) fun b r=>h b (List.mem_cons_of_mem _ r)
  have ar:lR x.enc=some (x.args.map Int.toNat):=sC (h x List.mem_cons_self);show((lR x.enc).bind fun a=>(o2 (l.map aT.enc)).map (a:: ·))=_;rw[ar,e];rfl
theorem Ec{l:List aT}(h:hs l=0){i:Nat}(bL:i<l.length):o3 (l.map aT.enc) (i:Int)=some ((iJ (dE l) i).map ga):=by
 have u:∀x∈l,∀a∈x.args,0≤a∧a<(l.length:Int):=fun x a5 a r=>by
  obtain⟨k,cZ,e⟩:=List.getElem_of_mem a5
  have:=(oI h (show l[k]? =some x by rw[ei cZ,e])).arg a r;omega
 unfold o3;rw[xi fun x a5 a r=>(u x a5 a r).1];have y:=ly h;have A:(l.map fun x=>x.args.map Int.toNat).all (fun m=>Nat.ble m.length 1000&&m.all (Nat.blt · (l.map aT.enc).length))=true:=by
  rw[List.all_eq_true];intro m hm;obtain⟨x,a5,rfl⟩:=List.mem_map.1 hm;obtain⟨k,cZ,e⟩:=List.getElem_of_mem a5;have hw:=oI h (show l[k]? =some x by rw[ei cZ,e]);have bV:=y2 x.op
  have:=hw.len;rw[bl,List.all_eq_true];refine⟨et (by rw[ep];omega),fun b B=>?_⟩;obtain⟨a,r,rfl⟩:=List.mem_map.1 B
  have:=u x a5 a r;exact et (by rw[ep];omega)
 have dH:decide ((0:Int)≤(i:Int))=true:=dQ (by omega);have F:Nat.blt (i:Int).toNat (l.map aT.enc).length=true:=et (by rw[ep];show(i:Int).toNat+1≤_;omega);have H:Nat.ble (l.map aT.enc).length 40=true:=et (by rw[ep];exact y);simp only[dH,F,H,A,bz,bH];rfl
end Go.gl
end
section
namespace Go.Ab
def ag.ka(s:ag)(d:Nat):List cU:=if d=s.aa then s.own else(s.up[s.aa-1-d]?).getD []
def ag.j0(s:ag)(d:Nat)(F:List cU):ag:=if d=s.aa then {s with own:=F} else {s with up:=s.up.set (s.aa-1-d) F}
structure jI (s:ag) (d:Nat):Prop where
 gg:s.ro.length≤d
 bL:d≤s.aa
theorem ag.y3(s:ag):s.aa=s.up.length+s.ro.length:=rfl
theorem jI.idx{s:ag}{d:Nat}(h:jI s d)(cP:d≠s.aa):s.aa-1-d<s.up.length:=by have:=h.gg;have:=h.bL;have:=s.y3;omega
theorem pL(s:ag)(d:Nat)(F:List cU):(s.j0 d F).aa=s.aa:=by unfold ag.j0;split<;> simp [ag.aa]
theorem R4(s:ag)(d:Nat)(F:List cU):(s.j0 d F).ro=s.ro:=by unfold ag.j0;split<;> rfl
theorem jI.put{s:ag}{d:Nat}(h:jI s d)(e:Nat)(F:List cU):jI (s.j0 e F) d:=⟨by rw[R4];exact h.gg,by rw[pL];exact h.bL⟩
theorem jI.ai{s:ag}{d:Nat}(h:jI s d):jI s.ai d:=⟨h.gg,by have:=h.bL;simp -implicitDefEqProofs only[ag.ai,ag.aa,bP] at *;omega⟩
theorem AM(s:ag):s.ai.aa=s.aa+1:=(Child.ai s).aa
theorem jI.new{s:ag}{d:Nat}(h:jI s d)(o:cU):jI (s.new o) d:=⟨h.gg,h.bL⟩
theorem y4{s:ag}{d:Nat}(h:jI s d)(F:List cU):(s.j0 d F).ka d=F:=by
 unfold ag.ka;rw[pL];unfold ag.j0;by_cases e:d=s.aa
 ·rw[if_pos e,if_pos e]
 ·rw[if_neg e,if_neg e]
  have:=h.idx e;simp [this]
theorem Hl(s:ag)(d:Nat)(F h:List cU):(s.j0 d F).j0 d h=s.j0 d h:=by
 unfold ag.j0;by_cases e:d=s.aa
 ·rw[if_pos e,if_pos e]
  have:d=({s with own:=F}:ag).aa:=e;rw[if_pos this]
 ·rw[if_neg e,if_neg e]
  have:({s with up:=s.up.set (s.aa-1-d) F}:ag).aa=s.aa:=by simp [ag.aa]
  rw[if_neg (by rw[this];exact e),this];simp
theorem Hm{s:ag}{d:Nat}(h:jI s d):s.j0 d (s.ka d)=s:=by
 unfold ag.j0 ag.ka;by_cases e:d=s.aa
 ·rw[if_pos e,if_pos e]
 ·rw[if_neg e,if_neg e];have bL:=h.idx e;obtain⟨own,up,ro⟩:=s;simp -implicitDefEqProofs only[ei bL,Option.getD_some];congr 1;exact List.set_getElem_self bL
theorem Ed{s:ag}{d:Nat}(h:jI s d)(i:Nat):s.get (.g d i)=(s.ka d)[i]?:=by
 unfold ag.ka;simp -implicitDefEqProofs only[ag.get];by_cases e:d=s.aa
 ·rw[if_pos e,if_pos e]
 ·have bL:=h.bL;rw[if_neg e,if_neg e,if_pos (by omega)];have a5:=h.idx e;rw[gm a5,ei a5];rfl
theorem R5{s:ag}{d:Nat}(h:jI s d)(i:Nat)(o:cU):s.set (.g d i) o=some (s.j0 d ((s.ka d).set i o)):=by
 unfold ag.j0 ag.ka;simp -implicitDefEqProofs only[ag.set];by_cases e:d=s.aa
 ·rw[if_pos e,if_pos e,if_pos e]
 ·have bL:=h.bL;rw[if_neg e,if_neg e,if_neg e,if_pos ⟨by omega,h.gg⟩];have a5:=h.idx e;congr 2;rw[ei a5];apply List.ext_getElem?;intro j;rw[List.getElem?_modify];by_cases cX:s.aa-1-d=j
  ·subst cX;simp [a5]
  ·rw[lL cX];simp [cX]
theorem mS{s:ag}{d:Nat}(h:jI s d):s.ai.ka d=s.ka d:=by
 have bL:=h.bL;have he:=AM s;unfold ag.ka;rw[he,if_neg (by omega)];show((s.own::s.up)[s.aa+1-1-d]?).getD []=_;by_cases e:d=s.aa
 ·subst e;rw[if_pos rfl];simp
 ·rw[if_neg e,show s.aa+1-1-d=(s.aa-1-d)+1 by omega];rfl
theorem Ee(s:ag):s.ka s.aa=s.own:=by unfold ag.ka;rw[if_pos rfl]
section
variable{T:Nat→Option c4}{G:Nat→ae}{X:Nat→List ae→ag→ah}{s:ag}{k:bd}
theorem YU{d j o:Nat}{cs:List ae}{c:ae}(h:jI s d)(br:(s.ka d)[j]? =some (.cells cs))(aY:cs[o]? =some c):(aV T G X).aw s k none (.ref (.g d j) o)=k c s:=by
 rw[hB];simp -implicitDefEqProofs only[dY,Ed h,br,eU]
 have:cs.drop o=c::cs.drop (o+1):=by have e:=(ec.1 aY);rw[iP e.1,e.2]
 rw[this];rfl
theorem YV{d j o:Nat}{cs:List ae}{v:ae}(h:jI s d)(br:(s.ka d)[j]? =some (.cells cs))(e:o<cs.length)(bM:v.eB=true)(hw:v.cells=[v])(r:v.fa=true)(bN:v.bc=true∨v.low d=true):(aV T G X).bX s k 1 (.ref (.g d j) o) v=k .dead (s.j0 d ((s.ka d).set j (.cells (cs.set o v)))):=by
 rw[kj];simp -implicitDefEqProofs only[fe,r,hw,bP,cB,bf,ft,bz,bH];unfold h1;have ed:s.gO (.g d j) [v]=true:=by
  rcases bN with bN|bN
  ·simp [ag.gO,ae.aZ,bN]
  ·simp [ag.gO,ae.ku,bN]
 simp -implicitDefEqProofs only[Ed h,br,bP,cB,bf,show Nat.ble (o+1) cs.length=true from et e,ed,List.all_cons,bM,List.all_nil,bz,bH];show(match s.set (.g d j) (.cells (dL cs o [v])) with |some s=>k .dead s|none=>.fail)=_;rw[R5 h];rfl
end
end Go.Ab
end
section
namespace Go.gl
open Go.Ab Go.hC
def kl(P:List Nat)(x:Nat)(R:List Nat)(q:Nat):List Nat:=P.take q++x::(P.drop q++R)
theorem Mh(P:List Nat)(x:Nat)(R:List Nat):kl P x R P.length=P++x::R:=by simp [kl]
theorem Hn(P:List Nat)(x:Nat)(R:List Nat):kl P x R 0=x::(P++R):=by simp [kl]
theorem y5(P:List Nat)(x:Nat)(R:List Nat){q:Nat}(fE:q≤P.length):(kl P x R q).length=P.length+1+R.length:=by simp [kl];omega
theorem qU(P:List Nat){q:Nat}(fE:q<P.length):P.take (q+1)=P.take q++[P[q]]:=by rw[List.take_add_one,ei fE];rfl
theorem xj(P:List Nat)(x:Nat)(R:List Nat){q:Nat}(fE:q≤P.length):(kl P x R q)[q]? =some x:=by unfold kl;rw[i7 (by simp;omega)];simp [Nat.min_eq_left fE]
theorem xk(P:List Nat)(x:Nat)(R:List Nat){q:Nat}(fE:q<P.length):(kl P x R (q+1))[q]? =some P[q]:=by unfold kl;rw[qU P fE,nk,i7 (by simp;omega)];simp [Nat.min_eq_left (Nat.le_of_lt fE)]
theorem Ho(P:List Nat)(x:Nat)(R:List Nat){q:Nat}(fE:q<P.length):((kl P x R (q+1)).set (q+1) P[q]).set q x=kl P x R q:=by
 unfold kl;have ar:(P.take q).length=q:=by simp;omega
 have av:(P.take (q+1)).length=q+1:=by simp;omega
 rw[List.set_append_right _ _ (by omega),av,Nat.sub_self,List.set_cons_zero,qU P fE,nk,List.set_append_right _ _ (by omega),ar,Nat.sub_self];rw[iP fE];rfl
section
variable{s S:ag}{d:Nat}
theorem Child.ne(f4:Child s S)(h:jI s d):d≠S.aa:=by have:=h.bL;have:=f4.aa;omega
theorem Ef(f4:Child s S)(h:jI s d)(F:List cU):Child (s.j0 d F) (S.j0 d F):=by
 have ar:=Child.ne f4 h;have av:=h.bL;unfold ag.j0;rw[if_neg ar];by_cases e:d=s.aa
 ·rw[if_pos e];refine⟨?_,f4.ro⟩;show S.up.set (S.aa-1-d) F=_;rw[f4.up,f4.aa,e];simp
 ·rw[if_neg e];refine⟨?_,f4.ro⟩;show S.up.set (S.aa-1-d) F=_;rw[f4.up,f4.aa]
  have:s.aa+1-1-d=(s.aa-1-d)+1:=by omega
  rw[this];rfl
def uo(S:ag)(d j:Nat)(L:List Nat):ag:=S.j0 d ((S.ka d).set j (.cells (L.map ga)))
theorem y6(S:ag)(d j:Nat)(L:List Nat):(uo S d j L).aa=S.aa:=pL _ _ _
theorem KT(h:jI S d)(j:Nat)(L:List Nat):jI (uo S d j L) d:=h.put d _
theorem KU(h:jI S d){j:Nat}(L:List Nat)(cX:j<(S.ka d).length):((uo S d j L).ka d)[j]? =some (.cells (L.map ga)):=by unfold uo;rw[y4 h];simp [cX]
theorem Eg(h:jI S d){j:Nat}{L:List Nat}(br:(S.ka d)[j]? =some (.cells (L.map ga))):uo S d j L=S:=by
 unfold uo
 have:(S.ka d).set j (.cells (L.map ga))=S.ka d:=by obtain⟨ar,av⟩:=ec.1 br;rw[←av];exact List.set_getElem_self ar
 rw[this,Hm h]
variable{T:Nat→Option c4}{G:Nat→ae}{X:Nat→List ae→ag→ah}{k:bd}
theorem AN(h:jI S d){j:Nat}{L:List Nat}(cX:j<(S.ka d).length){o:Nat}{x:Nat}(e:L[o]? =some x):(aV T G X).aw (uo S d j L) k none (.ref (.g d j) o)=k (ga x) (uo S d j L):=
 YU (KT h j L) (KU h L cX) (by rw[g6,e];rfl)
theorem R6(h:jI S d){j:Nat}{L:List Nat}(cX:j<(S.ka d).length){o:Nat}(x:Nat)(e:o<L.length):(aV T G X).bX (uo S d j L) k 1 (.ref (.g d j) o) (ga x)=k .dead (uo S d j (L.set o x)):=by rw[YV (KT h j L) (KU h L cX) (by simpa using e) rfl rfl rfl (.inl rfl)];unfold uo;rw[y4 h,Hl,List.set_set,←List.map_set]
end
section
variable(G:Nat→ae)(X:Nat→List ae→ag→ah)
theorem R7(x:Int)(s:ag):aA aL G X 132 [I x] s=.ok (.bool false) s:=by rw[GS,Ry,cL,cA (by simp)];exact gv (.ai s) _ _ rfl
theorem R8(a b:Int)(s:ag):aA aL G X 108 [I a,I b] s=.ok (.bool (decide (a<b))) s:=by rw[GR,Rx,az,a8 (R7 G X a _)];simp -implicitDefEqProofs only[gB,eY,eV];rw[be];exact gv (.ai s) _ _ rfl
theorem R9{S:ag}{d:Nat}(h:jI S d){j:Nat}(cX:j<(S.ka d).length)(P:List Nat)(x:Nat)(R:List Nat){q:Nat}(fE:q<P.length)(v1 v2 v6:ae)(n:Nat)(dm:n=(kl P x R (q+1)).length)(u:n<1000):
  wm (aV aL G X) (.cO (.g d j) 0 n 0 1) v1 v2 v6 (ga (q+1)) (uo S d j (kl P x R (q+1)))=pE (aV aL G X) (.cO (.g d j) 0 n 0 1) v1 v2 v6 (ga q) (uo S d j (kl P x R q)):=by
 have hlen:=y5 P x R (q:=q+1) fE;have e:=fun(S:ag) (k:bd)=>ii (T:=aL) (G:=G) (X:=X) (s:=S) (k:=k) (q+1) (by omega) (by omega)
 simp -implicitDefEqProofs only[Nat.add_sub_cancel] at e;have hj:=xj P x R (q:=q+1) fE;have s4:=xk P x R fE;have dH:0+(q+1)*1=q+1:=by omega
 have ma:0+q*1=q:=by omega
 have r:=Ho P x R fE;rw[Dw,e,e,hb _ _ _ _ _ _ _ (by omega),ma,AN h cX s4,hb _ _ _ _ _ _ _ (by omega),dH,AN h cX hj,hb _ _ _ _ _ _ _ (by omega),dH,az,R6 h cX _ (by omega),hb _ _ _ _ _ _ _ (by omega),ma,az,R6 h cX _ (by rw[List.length_set];omega),r,Dv,e]
theorem Eh{S:ag}{d:Nat}(h:jI S d){j:Nat}(cX:j<(S.ka d).length)(P:List Nat)(x:Nat)(R:List Nat)(r:∀y∈P,x<y)(v2:ae)(i:Nat)(n:Nat)(dm:n=P.length+1+R.length)(u:n<1000)(bL:i<1000):∀q,q≤P.length→
  pE (aV aL G X) (.cO (.g d j) 0 n 0 1) (I 0) v2 (ga i) (ga q) (uo S d j (kl P x R q))=pF (aV aL G X) (.cO (.g d j) 0 n 0 1) (I 0) v2 (ga (i+1)) (uo S d j (kl P x R 0))
 |0,_=>by
  have e:=fun S k=>ny G X S k i (by omega)
  rw[tU,bZ,cA (by simp)];simp -implicitDefEqProofs only[gB,eY];rw[ee,Dx,e]
 |q+1,fE=>by
  have hlen:=y5 P x R (q:=q+1) fE;have e:=fun(S:ag) (k:bd)=>ii (T:=aL) (G:=G) (X:=X) (s:=S) (k:=k) (q+1) (by omega) (by omega)
  simp -implicitDefEqProofs only[Nat.add_sub_cancel] at e;have hj:=xj P x R (q:=q+1) fE;have s4:=xk P x R fE;have dH:0+(q+1)*1=q+1:=by omega
  have ma:0+q*1=q:=by omega
  have A:(x:Int)<(P[q]:Int):=by have:=r _ (ml fE);omega
  rw[tU,bZ,dQ (by omega)];simp -implicitDefEqProofs only[fU];rw[hb _ _ _ _ _ _ _ (by omega),dH,AN h cX hj,e,hb _ _ _ _ _ _ _ (by omega),ma,AN h cX s4,az,az,a8 (R8 G X _ _ _),dQ A,fD,ek];rw[R9 G X h cX P x R fE _ _ _ n (by omega) u];exact Eh h cX P x R r v2 i n dm u bL q (by omega)
theorem oJ{s S:ag}(h:Child s S):(aV aL G X).a0 false [] S=.ok (.d0 []) s:=by obtain⟨ar,av⟩:=h;show mF false [] S=_;unfold mF;simp -implicitDefEqProofs only[fl,fF,ej,cond_false,qZ,ar,av]
theorem td{s:ag}{d:Nat}(h:jI s d)(j:Nat)(L:List Nat):Child (uo s d j L) (uo s.ai d j L):=by unfold uo;rw[mS h];exact Ef (.ai s) h _
theorem Sa(D:List Nat)(A:D.Pairwise (· > ·))(B:D.length<1000){s:ag}{d j:Nat}(h:jI s d)(br:(s.ka d)[j]? =some (.cells (D.map ga))):
  aA aL G X 102 [.cO (.g d j) 0 D.length 0 1,I 0,ga D.length] s=.ok (.d0 []) (uo s d j D.reverse):=by
 have cX:j<(s.ai.ka d).length:=by rw[mS h];exact(ec.1 br).1
 have loop:∀m i:Nat,i+m=D.length→
   pF (aV aL G X) (.cO (.g d j) 0 D.length 0 1) (I 0) (ga D.length) (ga i) (uo s.ai d j ((D.take i).reverse++D.drop i))=.ok (.d0 []) (uo s d j D.reverse):=by
  intro m
  induction m with
  |zero=>intro i bL;rw[nf,be,cA (by omega),ee,i6 (by omega),mm (by omega),qw];exact oJ G X (td h j _)
  |succ m F=>
   intro i bL;have r:i<D.length:=by omega
   have u:(D.take i).reverse.length=i:=by simp;omega
   have H:∀y∈(D.take i).reverse,D[i]<y:=fun y eM=>by
    have eM:=List.mem_reverse.1 eM;obtain⟨k,cZ,e⟩:=List.getElem_of_mem eM;have J:k<i:=by simp at cZ;omega
    rw[List.getElem_take] at e;rw[←e];exact List.pairwise_iff_getElem.1 A k i (by omega) r J
   have dH:kl (D.take i).reverse D[i] (D.drop (i+1)) i=(D.take i).reverse++D.drop i:=by have:=Mh (D.take i).reverse D[i] (D.drop (i+1));rw[u] at this;rw[this,iP r]
   have ma:kl (D.take i).reverse D[i] (D.drop (i+1)) 0=(D.take (i+1)).reverse++D.drop (i+1):=by rw[Hn,qU D r,List.reverse_append];rfl
   have:=Eh G X (h.ai) cX (D.take i).reverse D[i] (D.drop (i+1)) H (ga D.length) i D.length (by rw[u,List.length_drop];omega) B (by omega) i (by omega);rw[dH,ma] at this;rw[nf,be,dQ (by omega),ek,Dy,this];exact F (i+1) (by omega)
 have K:=fun S k=>ny G X S k 0 (by omega)
 rw[wT,Dz];refine(K _ _).trans ?_;by_cases eS:D.length=0
 ·have:D=[]:=jE eS;subst this;rw[nf,be,cA (by simp),ee];have e:=Eg (L:=[]) h br;refine oJ G X ?_;rw[List.reverse_nil,e];exact .ai s
 ·have:=loop (D.length-1) (0+1) (by omega);have e:(D.take (0+1)).reverse++D.drop (0+1)=D:=by cases D with |nil=>exact absurd rfl eS|cons a D=>simp
  rw[e,Eg h.ai (by rw[mS h];exact br)] at this;exact this
end
theorem u64_in(n:Nat)(h:n<9223372036854775808):IntKind.wrap .u64 (n:Int)=(n:Int):=by show(n:Int)%(2^64)=_;omega
section
variable(G:Nat→ae)(X:Nat→List ae→ag→ah)
theorem KV(n:Nat)(s:ag)(h:n<4294967296):aA aL G X 86 [.int .u64 (n:Int)] s=.ok (I (nZ n)) s:=by rw[LV,Yj,ee,Gf,az,a8 (D1 G X n _ h)];exact gv (.ai s) _ _ rfl
theorem YW(D:List Nat)(e:D.Pairwise (· > ·))(y:D.length≤12)(r:ae){s:ag}{d j:Nat}(h:jI s d)(br:(s.ka d)[j]? =some (.cells (D.map ga))):
  aA aL G X 85 [.cO (.g d j) 0 D.length 0 1,I 0,ga D.length,r] s=.ok (.d0 []) (uo s d j D.reverse):=by
 have u:=fun(S:ag) (k:bd)=>lh (T:=aL) (G:=G) (X:=X) (s:=S) (k:=k) D.length 0 (by omega) (by omega)
 have c:=Sa G X D e (by omega) h.ai (s:=s.ai) (by rw[mS h];exact br);rw[yP,KA,wO];refine(u _ _).trans ?_;rw[c0,dQ (by omega),ek];refine(na c (y6 _ _ _ _)).trans ?_;exact oJ G X (td h j _)
theorem Sb(g:eZ)(e:ae)(s:ag)(cb:∀a,g≠.dx a):aA aL G X 85 [.bW 1 [] g,I 0,I 0,e] s=.ok (.d0 []) s:=by
 have h:=fun(S:ag) (k:bd)=>lh (T:=aL) (G:=G) (X:=X) (s:=S) (k:=k) 0 0 (by omega) (by omega)
 have r:=fun S k=>ny G X S k 0 (by omega)
 have c:aA aL G X 102 [.bW 1 [] g,I 0,I 0] s.ai=.ok (.d0 []) s.ai:=by rw[wT,Dz];refine(r _ _).trans ?_;rw[nf,be,cA (by simp),ee];exact oJ G X (.ai _)
 have u:ae.ap s.ai.aa (.bW 1 [] g)=.bW 1 [] g:=by simp -implicitDefEqProofs only[ae.ap,qP cb]
 rw[yP,KA,wO];refine(h _ _).trans ?_;rw[c0,dQ (by omega),ek,u,az];refine(a8 c).trans ?_;exact oJ G X (.ai s)
theorem YX(D:List Nat)(e:D.Pairwise (· > ·))(r:D.length≤12){s:ag}{d j:Nat}(h:jI s d)(br:(s.ka d)[j]? =some (.cells (D.map ga))):
  aA aL G X 68 [.cO (.g d j) 0 D.length 0 1] s=.ok (.d0 []) (uo s d j D.reverse):=by
 have c:=YW G X D e r (I (nZ D.length)) h.ai (s:=s.ai) (by rw[mS h];exact br);rw[yO,Kz,aW,tZ,u64_in _ (by omega),az,a8 (KV G X _ _ (by omega))];refine(na c (y6 _ _ _ _)).trans ?_;exact oJ G X (td h j _)
theorem Sc(g:eZ)(s:ag)(cb:∀a,g≠.dx a):aA aL G X 68 [.bW 1 [] g] s=.ok (.d0 []) s:=by
 have c:=Sb G X g (I (nZ 0)) s.ai cb;have e:ae.ap s.ai.aa (.bW 1 [] g)=.bW 1 [] g:=by simp -implicitDefEqProofs only[ae.ap,qP cb]
 rw[yO,Kz,aB,tZ,u64_in _ (by simp),az,a8 (KV G X _ _ (by simp)),e];refine(a8 c).trans ?_;exact oJ G X (.ai s)
theorem Ei{l:List aT}{g:eZ}(cb:∀a,g≠.dx a)(hY:hs l=0){i:Nat}(bL:i<l.length)(step:ae→ag→(oU→ag→ah)→ah)(S:ag)(k:oU→ag→ah):
  (aV aL G X).pr 0 69 (.fn 69 [.bh [ga i],.bh [bp l g]]) step S k=fI step S [.bh [ga i],.bh [bp l g]] ((iJ (dE l) i).map ga) S k:=by
 show lS 0 69 (.fn 69 [.bh [ga i],.bh [bp l g]]) step S k=_;have e:pO S 0 [.bh [ga i],.bh [bp l g]]=some ((iJ (dE l) i).map ga):=by show((dv S (bp l g)).bind fun p=>bif Nat.beq p.1 12 then o3 p.2 (i:Int) else none)=_;rw[show dv S (bp l g)=some (12,l.map aT.enc) from by cases g<;> first|rfl |exact absurd rfl (cb _)];simp -implicitDefEqProofs only[fF,ft,bH];exact Ec hY bL
 unfold lS;simp -implicitDefEqProofs only[e,ft,bH]
theorem KW(l:List aT)(g:eZ)(cb:∀a,g≠.dx a)(i:Int)(s:ag):aA aL G X 39 [bp l g,I i] s=.ok (.fn 69 [.bh [I i],.bh [bp l g]]) s:=by
 have e:g.ap s.ai.aa=g:=qP cb _;have aU:ae.aZ [ae.bh [I i],.bh [bp l g]]=true:=by have:=j9 cb 12 (l.map aT.enc);simp -implicitDefEqProofs only[ae.aZ,ae.bc,Bool.and_true,eI];exact this
 rw[LR,Yg,aO,e,aC,cI];refine gv (.ai s) _ _ ?_;show(if ae.aZ [ae.bh [I i],.bh [bp l g]]=true then some (ae.fn 69 [ae.bh [I i],.bh [bp l g]]) else _)=_;rw[if_pos aU]
def afR(d:Nat)(own:List cU)(e:ae)(L:List Nat):Prop:=(e=.bW 1 [] .nil∧L=[])∨∃t,e=.cO (.g d t) 0 L.length 0 1∧own[t]? =some (.cells (L.map ga))∧L≠[]
theorem Sd{S:ag}{c:Nat}{h:ae}{L:List Nat}(aY:S.own[c]? =some (.cells [h]))(eN:afR S.aa S.own h L)(x:Nat)(F:L.length<1000):
  ∃r t,r[c]? =some (.cells [h])∧r[t]? =some (.cells ((L++[x]).map ga))∧t≠c∧∀k:bd,(aV aL G X).mG S k 1 8 h (.bW 1 [ga x] .exact)=k (.cO (.l t) 0 (L.length+1) 0 1) {S with own:=r}:=by
 have u:=(ec.1 aY).1;rcases eN with⟨rfl,rfl⟩|⟨t,rfl,ar,av⟩
 ·refine⟨S.own++[.cells [ga x]],S.own.length,?_,by simp,by omega,fun k=>rfl⟩;rw[gm u];exact aY
 ·have H:=(ec.1 ar).1;have y:t≠c:=fun e=>by
   subst e;rw[ar] at aY;injection aY with aY
   injection aY with aY
   cases L with
   |nil=>exact av rfl
   |cons a L=>cases L<;> simp at aY
  refine⟨S.own.set t .gone++[.cells ((L++[x]).map ga)],S.own.length,?_,by simp,by omega,fun k=>?_⟩
  ·rw[gm (by simpa using u),lL y];exact aY
  ·show kc (gz G (aA aL G X) bQ) S k 1 8 (bif Nat.beq S.aa S.aa then .cO (.l t) 0 L.length 0 1 else _) (.bW 1 [ga x] .exact)=_;rw[ft,bH];unfold kc;simp -implicitDefEqProofs only[show dv S (.bW 1 [ga x] .exact)=some (1,[ga x]) from rfl,ar];have xI:Nat.ble ((L.length+[ga x].length)*8) 1099511627776=true:=et (by simp;omega);have A:Nat.beq L.length 0=false:=by cases L with |nil=>exact absurd rfl av|cons a L=>rfl
   have B:Nat.beq (L.map ga).length (L.length*1)=true:=by rw[ep,Nat.mul_one,ft]
   simp -implicitDefEqProofs only[xI,A,B,ft,eI,Bool.and_true,g7,show([ga x].flatMap ae.cells).all ae.eB=true from rfl,show Nat.beq 1 0=false from rfl,bH];rw[show(L++[x]).map ga=L.map ga++[ga x].flatMap ae.cells from by rw[List.map_append];rfl];rfl
end
section
variable(G:Nat→ae)(X:Nat→List ae→ag→ah)
noncomputable def aef(c:Nat):ae→ag→(oU→ag→ah)→ah:=fun bT s k1=>(aV aL G X).aw s (fun e s=>(aV aL G X).a9 s (fun v10 s=>(aV aL G X).mG s (fun v11 s=>(aV aL G X).bX s (fun h s=>k1 .norm s) 1 (.ref (.l c) 0) (ae.ap s.aa v11)) 1 8 e v10) 1 [bT]) none (.ref (.l c) 0)
theorem y7(c:Nat)(ht:ag)(i:Nat)(v:ae)(bM:∀s s',ff s s' (.bh [v])=true):∀(xs L:List Nat) (S:ag) (e:ae),S.own[c]? =some (.cells [e])→afR S.aa S.own e L→L.length+xs.length≤1000→
  ∃h r,h[c]? =some (.cells [r])∧afR S.aa h r (L++xs)∧∀K:oU→ag→ah,fI (aef G X c) ht [.bh [ga i],.bh [v]] (xs.map ga) S K=K .norm {S with own:=h}
 |[],L,S,e,aY,eN,u=>⟨S.own,e,aY,by simpa using eN,fun K=>rfl⟩
 |x::xs,L,S,e,aY,eN,u=>by
  simp only[bP] at u;obtain⟨h,t,ar,av,bV,dD⟩:=Sd G X aY eN x (by omega);have A:=(ec.1 ar).1;have B:=fun(k:bd)=>iN (T:=aL) (G:=G) (X:=X) (k:=k) aY (o:=0) (c:=e) rfl
  have e8:=fun(k:bd)=>DX G X (S:=S) (k:=k) [(x:Int)]
  have gH:=fun(k:bd)=>qS (T:=aL) (G:=G) (X:=X) (k:=k) (S:={S with own:=h}) ar (o:=0) (v:=.cO (.g S.aa t) 0 (L.length+1) 0 1) (by simp) rfl rfl rfl
  obtain⟨F,H,dH,y,I⟩:=y7 c ht i v bM xs (L++[x]) {S with own:=h.set c (.cells ([e].set 0 (.cO (.g S.aa t) 0 (L.length+1) 0 1)))} (.cO (.g S.aa t) 0 (L.length+1) 0 1) (by simp [A]) (.inr ⟨t,by simp [ag.aa],(by show(h.set c _)[t]? =_;rw[lL (Ne.symm bV)];exact av),by simp⟩) (by simp;omega)
  refine⟨F,H,dH,by rw[nk] at y;exact y,fun K=>?_⟩;rw[fH,lF];show(aV aL G X).aw S _ none (.ref (.l c) 0)=_;rw[B];refine(e8 _).trans ?_;refine(dD _).trans ?_;refine(gH _).trans ?_;have oM:[ae.bh [ga i],.bh [v]].all (ff ht {S with own:=h.set c (.cells ([e].set 0 (.cO (.g S.aa t) 0 (L.length+1) 0 1)))})=true:=by rw[List.all_cons,List.all_cons,List.all_nil,bM];rfl
  simp -implicitDefEqProofs only[oM,bH];exact I K
variable(l:List aT)(g:eZ)(cb:∀a,g≠.dx a)(hY:hs l=0)(i:Nat)(bL:i<l.length)
include cb hY bL
theorem YY(S:ag):∃u h,aA aL G X 84 [.bW 1 [] .nil,.fn 69 [.bh [ga i],.bh [bp l g]]] S=.ok u {S with own:=h}∧afR S.aa h u (iJ (dE l) i):=by
 have B:=ly hY;have F:=xf (dE l) i;obtain⟨h,r,ar,av,bV⟩:=y7 G X S.own.length (S.new (.cells [.bW 1 [] .nil])) i (bp l g) (fun _ _=>rfl) (iJ (dE l) i) [] (S.new (.cells [.bW 1 [] .nil])) (.bW 1 [] .nil) (by simp [ag.new]) (.inl ⟨rfl,rfl⟩) (by simp;omega);refine⟨r,h,?_,av⟩;have y:=fun(k:bd)=>iN (T:=aL) (G:=G) (X:=X) (k:=k) (S:={S with own:=h}) ar (o:=0) (c:=r) rfl
 have A:ae.ap S.aa r=r:=by rcases av with⟨e,_⟩|⟨t,e,_⟩<;> subst e<;> rfl
 rw[LU,Yi,K6 _ rfl,Ge,Ei G X cb hY bL];refine(bV _).trans ?_;rw[ul,Gd];refine(y _).trans ?_;show mF true [some r] {S with own:=h}=_;unfold mF;simp -implicitDefEqProofs only[fl,fF,ej,bH,fH,List.map_nil];show ah.ok (ae.ap S.aa r) _=_;rw[A]
theorem YZ(S:ag):∃h r,aA aL G X 67 [.fn 69 [.bh [ga i],.bh [bp l g]]] S=.ok h {S with own:=r}∧afR S.aa r h (iJ (dE l) i):=by
 obtain⟨h,r,ar,av⟩:=YY G X l g cb hY i bL S;have u:ae.ap S.aa h=h:=by rcases av with⟨e,_⟩|⟨t,e,_⟩<;> subst e<;> rfl
 refine⟨h,r,?_,av⟩;rw[LP,Ye];refine(na ar rfl).trans ?_;show mF true [some h] {S with own:=r}=_;unfold mF;simp -implicitDefEqProofs only[fl,fF,ej,bH,fH,List.map_nil];show ah.ok (ae.ap S.aa h) _=_;rw[u]
omit cb hY bL in
theorem Ej{S:ag}{t:Nat}{L:List Nat}(h:S.own[t]? =some (.cells (L.map ga)))(eR:L≠[]):Ab.freeze S (.cO (.g S.aa t) 0 L.length 0 1)=some (.bW 1 (L.map ga) .any):=by
 show(if S.aa=S.aa then gx S t 0 L.length 0 1 else _)=_;rw[if_pos rfl];unfold gx;have u:=vQ (L.map ga) (fun e he=>by obtain⟨r,_,rfl⟩:=List.mem_map.1 he;rfl);have bN:(L.map ga).length=L.length:=by simp
 rw[bN] at u;have y:L.length≠0:=fun e=>eR (jE e)
 simp -implicitDefEqProofs only[h,b9,u,oE,bN,bf,Nat.mul_one,show Nat.ble L.length L.length=true from et (aD _),eI,if_neg y];rfl
def iU(L:List Nat):ae:=.bW 1 (L.map ga) (if L=[] then .nil else .any)
theorem Y0(F:i≤12)(s:ag):aA aL G X 38 [.fn 69 [.bh [ga i],.bh [bp l g]]] s=.ok (iU (fr (dE l) i)) s:=by
 obtain⟨H,h,ar,av⟩:=YZ G X l g cb hY i bL s.ai;have I:=xf (dE l) i;rw[LQ,Yf];refine(na ar rfl).trans ?_;unfold fr;rcases av with⟨dH,r⟩|⟨t,dH,r,u⟩
 ·subst dH;rw[r];refine(a8 (Sc G X .nil _ (fun a e=>by cases e))).trans ?_;exact gv (show Child s ({s.ai with own:=h}:ag) from⟨rfl,rfl⟩) _ _ rfl
 ·subst dH;have cP:s.ai.aa=({s.ai with own:=h}:ag).aa:=rfl;have br:(({s.ai with own:=h}:ag).ka s.ai.aa)[t]? =some (.cells ((iJ (dE l) i).map ga)):=by rw[cP,Ee];exact r
  have y:jI ({s.ai with own:=h}:ag) s.ai.aa:=⟨by show s.ai.ro.length≤s.ai.aa;rw[ag.y3];omega,aD _⟩;have c:=YX G X (iJ (dE l) i) (y1 _ _) (by omega) y br;have A:uo ({s.ai with own:=h}:ag) s.ai.aa t (iJ (dE l) i).reverse= {s.ai with own:=h.set t (.cells ((iJ (dE l) i).reverse.map ga))}:=by unfold uo ag.j0;rw[if_pos cP,cP,Ee]
  rw[A] at c;refine(na c rfl).trans ?_;have B:=(ec.1 r).1;have eR:(iJ (dE l) i).reverse≠[]:=fun e=>u (List.reverse_eq_nil_iff.1 e)
  refine gv (show Child s ({s.ai with own:=h.set t (.cells ((iJ (dE l) i).reverse.map ga))}:ag) from⟨rfl,rfl⟩) _ _ ?_;have g8:=Ej (S:={s.ai with own:=h.set t (.cells ((iJ (dE l) i).reverse.map ga))}) (t:=t) (L:=(iJ (dE l) i).reverse) (by simp [B]) eR;rw[List.length_reverse] at g8;unfold iU;rw[if_neg eR];exact g8
variable(dk:∀o,o∈l→p4 o)
include dk
theorem Y1(r:i≤12)(s:ag):aA aL G X 11 [bp l g,ga i] s=.ok (.d0 [iU (fr (dE l) i),I 0]) s:=by
 have y:=ly hY;have vX:=KI G X l g cb (by omega) dk (i:Int) s.ai;have ma:nY l (i:Int)=0:=by unfold nY;rw[if_neg (by simp [hY]),if_neg (by omega)]
 rw[ma] at vX;have h:∀d,ae.ap d (bp l g)=bp l g:=fun d=>iA l cb d
 have u:Ab.freeze s.ai (iU (fr (dE l) i))=some (iU (fr (dE l) i)):=pW (fun a=>by split<;> intro e<;> cases e) _ _ _;rw[LW,Yk,h,az,a8 vX,cL,cA (by simp),ee,Gv,h,az,a8 (KW G X l g cb _ _),eQ,a8 (Y0 G X l g cb hY i bL r _)];exact kC (.ai s) _ _ _ _ u rfl
end
section
variable(G:Nat→ae)(X:Nat→List ae→ag→ah)
theorem Y2(L:List Nat)(g:eZ)(n:Nat)(s:ag)(H:L.length<9223372036854775807):aA aL G X 12 [.bW 1 (L.map ga) g,ga n] s=.ok (.bool (decide (n∈L))) s:=by
 have loop:∀m i:Nat,i+m=L.length→uN (aV aL G X) (.bW 1 (L.map ga) g) (ga n) (ga i) s.ai=.ok (.bool (decide (n∈L.drop i))) s:=by
  intro m
  induction m with
  |zero=>intro i bL;rw[wS,aB,ep,be,cA (by omega),ee,Gy,mm (by omega),cA (by simp)];exact gv (.ai s) _ _ rfl
  |succ m u=>
   intro i bL;have r:i<L.length:=by omega
   have y:(L.map ga)[i]? =some (ga L[i]):=by simp [r]
   have A:=fun(k:bd)=>k3 (T:=aL) (G:=G) (X:=X) (s:=s.ai) (k:=k) 1 _ g .i64 i _ y
   have B:=fun(c:Int) (k:bd)=>bg (T:=aL) (G:=G) (X:=X) (s:=s.ai) (k:=k) (I c) []
   have F:=fun S k=>ny G X S k i (by omega)
   rw[wS,aB,ep,be,dQ (by omega),ek,Gx,A,show ae.cells (ga L[i])=[I (L[i]:Int)] from rfl,B,bJ];have cP:=iP r;by_cases h:L[i]=n
   ·rw[dQ (by omega),ek,dQ (by rw[cP,h];exact List.mem_cons_self)];exact gv (.ai s) _ _ rfl
   ·rw[cA (by omega),ee,Gw,F,u (i+1) (by omega)]
    have:(n∈L.drop i)↔(n∈L.drop (i+1)):=by rw[cP,List.mem_cons];exact⟨fun e=>e.resolve_left (fun e=>h e.symm),.inr⟩
    rw[decide_eq_decide.2 this]
 rw[LX,Yl];exact loop L.length 0 (by omega)
noncomputable def AO(i e h:Nat):ae→ag→(oU→ag→ah)→ah:=fun bT s k1=>(aV aL G X).aw s (fun r s=>(aV aL G X).aj s (fun u s=>(aV aL G X).aP u ((aV aL G X).aw s (fun v20 s=>(aV aL G X).aw s (fun y s=>(aV aL G X).a9 s (fun A s=>(aV aL G X).fO s (fun B s=>(aV aL G X).bX s (fun F s=>k1 (.exit 1) s) 1 (.ref (.l e) 0) (ae.ap s.aa B)) 1 8 (some (.l 0)) v20 A) 1 [y]) none (.ref (.l h) 0)) none (.ref (.l e) 0)) (k1 .norm s)) (al .eql bT r)) none (.bh [ga i])
theorem xl(i r u:Nat)(ht S y:ag)(j:Nat)(v:ae)(bM:∀s s',ff s s' (.bh [v])=true)(av:∀k1,AO G X i r u (ga i) S k1=k1 (.exit 1) y)(K:oU→ag→ah):∀xs:List Nat,
  fI (AO G X i r u) ht [.bh [ga j],.bh [v]] (xs.map ga) S K=if i∈xs then K (.exit 1) y else K .norm S
 |[]=>by simp [fI]
 |x::xs=>by
  have oM:∀S,[ae.bh [ga j],.bh [v]].all (ff ht S)=true:=fun S=>by rw[List.all_cons,List.all_cons,List.all_nil,bM];rfl
  rw[fH,lF];by_cases h:x=i
  ·subst h;rw[av,if_pos List.mem_cons_self]
  ·have A:=fun(c:Int) (k:bd)=>bg (T:=aL) (G:=G) (X:=X) (s:=S) (k:=k) (I c) []
   have e:(i∈x::xs)↔(i∈xs):=by rw[List.mem_cons];exact⟨fun e=>e.resolve_left (fun e=>h e.symm),.inr⟩
   have step:∀k1,AO G X i r u (ga x) S k1=k1 .norm S:=fun k1=>by show(aV aL G X).aw S _ none (.bh [I (i:Int)])=_;rw[A,bJ,cA (by omega),ee]
   rw[step];simp -implicitDefEqProofs only[oM,bH];rw[xl i r u ht S y j v bM av K xs];simp only[e]
theorem Hp{S:ag}{g:eZ}{L:List Nat}(h:xa S g L.length):Ab.freeze S (.bW 1 (L.map ga) g)=some (iU L):=by
 rcases h with⟨rfl,eS⟩|⟨t,rfl,ar,av⟩
 ·have:L=[]:=jE eS;subst this;rfl
 ·have eR:L≠[]:=fun e=>by subst e;simp at ar
  show(if S.aa<S.aa then _ else jU S 1 (L.map ga))=_;rw[if_neg (Nat.lt_irrefl _)];unfold jU iU;rw[if_pos (oE L),if_neg eR]
theorem ua(A:Nat→List Nat)(k i:Nat):fi A (k+1) i=fi A k i++(if i∈iJ A k then[k] else[]):=by unfold fi;rw[List.range_succ,List.filter_append];congr 1;by_cases h:i∈iJ A k<;> simp [h,List.elem_eq_mem]
theorem xm(A:Nat→List Nat)(n i:Nat):(fi A n i).length≤n:=by have:=List.length_filter_le (fun k=>(iJ A k).elem i) (List.range n);rw[List.length_range] at this;exact this
variable(l:List aT)(g:eZ)(cb:∀a,g≠.dx a)(hY:hs l=0)(i:Nat)
include cb hY
theorem Y3(s:ag):aA aL G X 40 [bp l g,ga i] s=.ok (iU (fi (dE l) l.length i)) s:=by
 have aG:=ly hY;have af:∀d,ae.ap d (bp l g)=bp l g:=fun d=>iA l cb d
 have loop:∀m k:Nat,k+m=l.length→∀(S:ag) (r:Nat) (ge:eZ),Child s S→S.own[r]? =some (.cells [.bW 1 ((fi (dE l) k i).map ga) ge])→xa S ge (fi (dE l) k i).length→
   uJ (aV aL G X) (bp l g) (.bh [ga i]) (.ref (.l r) 0) (ga l.length) (ga k) S=.ok (iU (fi (dE l) l.length i)) s:=by
  intro m
  induction m with
  |zero=>
   intro k cZ S r ge f4 aY O;have e:k=l.length:=by omega
   subst e;have ah:=fun(K:bd)=>iN (T:=aL) (G:=G) (X:=X) (k:=K) aY (o:=0) (c:=_) rfl
   rw[wN,be,cA (by omega),ee,Ga,ah];exact gv f4 _ _ (Hp O)
  |succ m aj=>
   intro k cZ S r ge f4 aY O;have ak:k<l.length:=by omega
   have aH:=xm (dE l) k i;have al:=(ec.1 aY).1;have am:=fun(S:ag) (K:bd)=>hT (T:=aL) (G:=G) (X:=X) (s:=S) (k:=K) k (by omega)
   obtain⟨h,J⟩:∃h:ag,h= {S with own:=(S.own++[cU.cells [I 0]]).set S.own.length (cU.cells ([I 0].set 0 (ga k)))}:=⟨_,rfl⟩;have gH:=fun(K:bd)=>qS (T:=aL) (G:=G) (X:=X) (k:=K) (S:=S.new (.cells [I 0])) (j:=S.own.length) (o:=0) (cs:=[I 0]) (v:=ga k) (by simp [ag.new]) (by simp) rfl rfl rfl
   have an:∀K:bd,(aV aL G X).bX (S.new (.cells [I 0])) K 1 (.ref (.l S.own.length) 0) (ga k)=K .dead h:=fun K=>by rw[J];exact gH K
   have U:h.own=S.own++[.cells [ga k]]:=by rw[J];simp
   have ao:h.aa=S.aa:=by rw[J];rfl
   have V:Child s h:=by rw[J];exact⟨f4.up,f4.ro⟩
   have Y:h.own[r]? =some (.cells [.bW 1 ((fi (dE l) k i).map ga) ge]):=by rw[U,gm al];exact aY
   have aq:h.own[S.own.length]? =some (.cells [ga k]):=by rw[U];simp
   have ab:xa h ge (fi (dE l) k i).length:=by
    rcases O with⟨dH,A⟩|⟨t,dH,A,M⟩
    ·exact .inl ⟨dH,A⟩
    ·refine .inr ⟨t,by rw[ao];exact dH,A,?_⟩;rw[U,gm (ec.1 M).1];exact M
   have ac:=fun(K:bd)=>iN (T:=aL) (G:=G) (X:=X) (k:=K) aq (o:=0) (c:=_) rfl
   have au:=fun(K:bd)=>iN (T:=aL) (G:=G) (X:=X) (k:=K) Y (o:=0) (c:=_) rfl
   obtain⟨g',F,t,ar,av,bV,dD,ax⟩:=Hj (T:=aL) (G:=G) (X:=X) (S:=h) (es:=(fi (dE l) k i).map ga) (new:=[ga k]) (g:=ge) (g2:=.exact) (q:=1) (bytes:=8) (by simpa using ab) (by simp) (by simp;omega) rfl;have Z:F[r]? =some (.cells [.bW 1 ((fi (dE l) k i).map ga) ge]):=ax r _ Y (fun n e=>by cases e);obtain⟨B,H⟩:∃B:ag,B= {h with own:=F.set r (.cells ([.bW 1 ((fi (dE l) k i).map ga) ge].set 0 (.bW 1 ((fi (dE l) k i).map ga++[ga k]) (g'.ap h.aa))))}:=⟨_,rfl⟩;have ay:=fun(K:bd)=>qS (T:=aL) (G:=G) (X:=X) (k:=K) (S:={h with own:=F}) Z (o:=0) (v:=.bW 1 ((fi (dE l) k i).map ga++[ga k]) (g'.ap h.aa)) (by simp) rfl rfl rfl
   have aD:∀k1,AO G X i r S.own.length (ga i) h k1=k1 (.exit 1) B:=fun k1=>by
    have aE:=fun(c:Int) (K:bd)=>bg (T:=aL) (G:=G) (X:=X) (s:=h) (k:=K) (I c) []
    have e8:=fun(K:bd)=>DX G X (S:=h) (k:=K) [(k:Int)]
    show(aV aL G X).aw h _ none (.bh [I (i:Int)])=_;rw[aE,bJ,dQ rfl,ek,au,ac];refine(e8 _).trans ?_;refine(ar _).trans ?_;rw[H];exact ay _
   have ad:∀y,Child s y→∀N,y.own[r]? =some (.cells [.bW 1 ((fi (dE l) (k+1) i).map ga) N])→xa y N (fi (dE l) (k+1) i).length→uI (aV aL G X) (bp l g) (.bh [ga i]) (.ref (.l r) 0) (ga l.length) (ga k) y=.ok (iU (fi (dE l) l.length i)) s:=fun y dH N A M=>by rw[F9,am];exact aj (k+1) (by omega) y r N dH A M
   rw[wN,be,dQ (by omega),ek,Gc,cI,az];refine(an _).trans ?_;rw[ac,af,az,a8 (KW G X l g cb _ _),Gb,Ei G X cb hY ak];refine(xl G X i r S.own.length h h B k (bp l g) (fun _ _=>rfl) aD _ _).trans ?_;by_cases hm:i∈iJ (dE l) k
   ·rw[if_pos hm,s6];have u:=ua (dE l) k i;rw[if_pos hm] at u;refine ad B (by rw[H];exact⟨V.up,V.ro⟩) (g'.ap h.aa) ?_ ?_
    ·rw[H,u,List.map_append];simp [(ec.1 Z).1]
    ·refine .inr ⟨t,by rw[av,H];rfl,by rw[u];simp,?_⟩;rw[H];show(F.set r _)[t]? =_;have aF:r≠t:=fun e=>by subst e;rw[Z] at bV;cases bV
     rw[lL aF,bV,u];simp
   ·rw[if_neg hm,uk];have u:=ua (dE l) k i;rw[if_neg hm,qw] at u;refine ad h V ge (by rw[u];exact Y) (by rw[u];exact ab)
 rw[LS,Yh,aC,cI,aB,ep];exact loop l.length 0 (by omega) (s.ai.new (.cells [.bW 1 [] .nil])) s.ai.own.length .nil ((Child.ai s).new _) (by simp [ag.new,fi]) (.inl ⟨rfl,rfl⟩)
variable(dk:∀o,o∈l→p4 o)(bL:i<l.length)
include dk bL
theorem Y4(s:ag):aA aL G X 13 [bp l g,ga i] s=.ok (.d0 [iU (fi (dE l) l.length i),I 0]) s:=by
 have u:=ly hY;have vX:=KI G X l g cb (by omega) dk (i:Int) s.ai;have ma:nY l (i:Int)=0:=by unfold nY;rw[if_neg (by simp [hY]),if_neg (by omega)]
 rw[ma] at vX;have h:∀d,ae.ap d (bp l g)=bp l g:=fun d=>iA l cb d
 have r:Ab.freeze s.ai (iU (fi (dE l) l.length i))=some (iU (fi (dE l) l.length i)):=pW (fun a=>by split<;> intro e<;> cases e) _ _ _;rw[LY,Ym,h,az,a8 vX,cL,cA (by simp),ee,Gz,h,az,a8 (Y3 G X l g cb hY i _)];exact kC (.ai s) _ _ _ _ r rfl
end
theorem sD(L:List Nat)(d:Nat):ae.ap d (iU L)=iU L:=by unfold iU;split<;> rfl
theorem oK(L:List Nat):ae.cells (iU L)=[iU L]:=rfl
theorem sE(L:List Nat):(iU L).bc=true:=j9 (fun a=>by split<;> intro e<;> cases e) _ _
section
variable(G:Nat→ae)(X:Nat→List ae→ag→ah)
theorem aeg{S:ag}{K:bd}(a:Bool):(aV aL G X).aj S K ((o1 .bool (.bool a) (.bool a)).map fun b=>.bool (bif true then !b else b))=K (.bool false) S:=by cases a<;> rfl
theorem sF(L:List Nat)(n:Nat)(s:ag)(e:L.length≤1000):aA aL G X 12 [iU L,ga n] s=.ok (.bool (decide (n∈L))) s:=Y2 G X L _ n s (by omega)
theorem oL{S:ag}{K:bd}(L:List Nat):(aV aL G X).cW S K false (iU L)=K (ga L.length) S:=by unfold iU;rw[aB,ep]
theorem mT{S:ag}{K:bd}(L:List Nat)(i x:Nat)(h:L[i]? =some x):(aV aL G X).cc S K 1 (iU L) (ga i)=K (.bh [ga x]) S:=by unfold iU;rw[k3 (T:=aL) (G:=G) (X:=X) (s:=S) (k:=K) 1 _ _ .i64 i (ga x) (by rw[g6,h];rfl)];rfl
theorem yg{S:ag}{K:bd}(a:ae):(aV aL G X).aw S K none (.bh [a])=K a S:=bg a []
variable(l:List aT)(g:eZ)(cb:∀a,g≠.dx a)(hY:hs l=0)(bN:l.length≤12)(dk:∀o,o∈l→p4 o)(s:ag)
def pM(l:List aT)(n:Nat):List ae:=(List.range n).map fun k=>iU (fr (dE l) k)
theorem Ek{l:List aT}{n k:Nat}(h:k<n):(pM l n)[k]? =some (iU (fr (dE l) k)):=by unfold pM;rw[g6,List.getElem?_range h];rfl
theorem Mi(l:List aT)(n:Nat):pM l (n+1)=pM l n++[iU (fr (dE l) n)]:=by unfold pM;rw[List.range_succ,List.map_append];rfl
theorem xn(l:List aT)(n:Nat):(pM l n).length=n:=by simp [pM]
theorem k8(A:Nat→List Nat)(i:Nat):(fr A i).length≤i:=by have:=xf A i;unfold fr;rw[List.length_reverse];exact this
section
variable{S:ag}(f4:Child s S)
include f4
theorem Mj(h v4:ae)(i:Nat)(bL:i≤1000):∀m k:Nat,k+m=(fr (dE l) i).length→Aw (aV aL G X) h v4 (ga i) (iU (fr (dE l) i)) (ga k) S=Fm (aV aL G X) h v4 (ga i) (iU (fr (dE l) i)) S:=by
 have A:=k8 (dE l) i;intro m
 induction m with
 |zero=>intro k cZ;rw[yM,oL,be,cA (by omega),ee]
 |succ m r=>
  intro k cZ;have e:k<(fr (dE l) i).length:=by omega
  have a5:=ei e;have B:=AL (k7.1 (ml e));have u:=fun(S:ag) (K:bd)=>hT (T:=aL) (G:=G) (X:=X) (s:=S) (k:=K) k (by omega)
  rw[yM,oL,be,dQ (by omega),ek,Lh,mT G X _ _ _ a5,yg,be,cA (by omega)];simp -implicitDefEqProofs only[eV];rw[mT G X _ _ _ a5,yg,cJ,cA (by omega),eY];simp -implicitDefEqProofs only[eV];rw[bZ];by_cases eS:k=0
  ·subst eS;rw[cA (by simp)];simp -implicitDefEqProofs only[gB,eY];rw[ee,yK,u];exact r (0+1) (by omega)
  ·obtain⟨q,rfl⟩:∃q,k=q+1:=⟨k-1,by omega⟩;have y:q<(fr (dE l) i).length:=by omega
   have eM:=ei y;have F:(fr (dE l) i)[q]<(fr (dE l) i)[q+1]:=List.pairwise_iff_getElem.1 (xe (dE l) i) q (q+1) y e (by omega);have s1:=fun(S:ag) (K:bd)=>ii (T:=aL) (G:=G) (X:=X) (s:=S) (k:=K) (q+1) (by omega) (by omega)
   simp -implicitDefEqProofs only[Nat.add_sub_cancel] at s1;rw[dQ (by omega)];simp -implicitDefEqProofs only[fU];rw[mT G X _ _ _ a5,yg,s1,mT G X _ _ _ eM,yg,c0,cA (by omega),fD,eY,ee,yK,u];exact r (q+1+1) (by omega)
theorem Hq(h:ae)(i:Nat)(bL:i≤1000)(ge:eZ)(k a:Nat)(u:a<i)(y:∀z,z∈iJ (dE l) a→z∈iJ (dE l) i):∀m q:Nat,q+m=(fr (dE l) a).length→
  uK (aV aL G X) h (.bW 1 (pM l i) ge) (ga i) (iU (fr (dE l) i)) (ga k) (ga a) (ga q) S=At (aV aL G X) h (.bW 1 (pM l i) ge) (ga i) (iU (fr (dE l) i)) (ga k) S:=by
 have F:=k8 (dE l) a;have H:=k8 (dE l) i;have e:=fun(S:ag) (K:bd)=>k3 (T:=aL) (G:=G) (X:=X) (s:=S) (k:=K) 1 (pM l i) ge .i64 a _ (Ek u)
 intro m
 induction m with
 |zero=>intro q fE;rw[wP,e,oK,yg,oL,be,cA (by omega),ee]
 |succ m A=>
  intro q fE;have r:q<(fr (dE l) a).length:=by omega
  have a5:=ei r;have g8:(fr (dE l) a)[q]∈fr (dE l) i:=k7.2 (y _ (k7.1 (ml r)));have B:=fun(S:ag) (K:bd)=>hT (T:=aL) (G:=G) (X:=X) (s:=S) (k:=K) q (by omega)
  rw[wP,e,oK,yg,oL,be,dQ (by omega),ek,Gh,e,oK,yg,mT G X _ _ _ a5,yg,sD,az,a8 (sF G X _ _ _ (by omega)),dQ g8,cT];refine(ee G X _ _).trans ?_;rw[Gg,B];exact A (q+1) (by omega)
include hY
theorem Mk(i:Nat)(bL:i<l.length)(bN:l.length≤12)(ge:eZ)(x:aT)(a5:l[i]? =some x):∀m k:Nat,k+m=x.args.length→
  Av (aV aL G X) (bp l g) (.bW 1 (pM l i) ge) (ga i) (iU (fr (dE l) i)) (ga k) S=Au (aV aL G X) (bp l g) (.bW 1 (pM l i) ge) (ga i) (iU (fr (dE l) i)) S:=by
 have N:=k8 (dE l) i;have hw:=oI hY a5;have bV:=y2 x.op;have O:=hw.len;have u:(l.map aT.enc)[i]? =some x.enc:=by rw[g6,a5];rfl
 have ip:=fun(S:ag) (K:bd)=>k3 (T:=aL) (G:=G) (X:=X) (s:=S) (k:=K) 12 (l.map aT.enc) g .i64 i _ u
 have e:∀(S:ag) (K:bd),(aV aL G X).aw S K none (.bh (x.enc.cells.drop 2))=K (iS x.args x.wX) S:=fun S K=>rfl
 intro m
 induction m with
 |zero=>intro k cZ;rw[yL,ip,dP,e,aB,ep,be,cA (by omega),ee]
 |succ m y=>
  intro k cZ;have h:k<x.args.length:=by omega
  have A:=hw.arg _ (ml h);have ji:(x.args[k]).toNat∈dE l i:=by rw[Eb a5];exact List.mem_map.2 ⟨_,ml h,rfl⟩
  have B:(x.args.map I)[k]? =some (ga (x.args[k]).toNat):=by rw[g6,ei h];show some (I x.args[k])=some (I ((x.args[k]).toNat:Int));rw[Int.toNat_of_nonneg A.1]
  have F:(x.args[k]).toNat<i:=by omega
  generalize (x.args[k]).toNat=a at *;have H:=fun(S:ag) (K:bd)=>k3 (T:=aL) (G:=G) (X:=X) (s:=S) (k:=K) 1 (x.args.map I) x.wX .i64 k _ B
  have r:=R3 hY;have J:a∈fr (dE l) i:=k7.2 (D9 r ji);have M:=fun(S:ag) (K:bd)=>hT (T:=aL) (G:=G) (X:=X) (s:=S) (k:=K) k (by omega)
  have U:=k8 (dE l) a;rw[yL,ip,dP,e,aB,ep,be,dQ (by omega),ek,Gk,ip,dP,e];refine(H _ _).trans ?_;rw[show ae.cells (ga a)=[ga a] from rfl,yg,sD,az,a8 (sF G X _ _ _ (by omega)),dQ J,cT];refine(ee G X _ _).trans ?_;rw[Gj];refine(Hq G X l s f4 _ i (by omega) ge k a F (fun z g8=>R2 r (D9 r ji) g8) (fr (dE l) a).length 0 (by omega)).trans ?_;rw[Gi,M];exact y (k+1) (by omega)
end
include cb hY bN dk
theorem Hr{S:ag}(f4:Child s S)(ge:eZ)(i:Nat)(bL:i<l.length):∀m k:Nat,k+m=l.length→
  uL (aV aL G X) (bp l g) (.bW 1 (pM l l.length) ge) (ga i) (iU (fi (dE l) l.length i)) (ga k) S=Ax (aV aL G X) (bp l g) (.bW 1 (pM l l.length) ge) (ga i) S:=by
 have F:=xm (dE l) l.length i;intro m
 induction m with
 |zero=>intro k cZ;rw[wQ,aB,ep,be,cA (by omega),ee]
 |succ m r=>
  intro k cZ;have e:k<l.length:=by omega
  have H:=k8 (dE l) k;have u:=fun(S:ag) (K:bd)=>k3 (T:=aL) (G:=G) (X:=X) (s:=S) (k:=K) 1 (pM l l.length) ge .i64 k _ (Ek e)
  have y:=fun(S:ag) (K:bd)=>hT (T:=aL) (G:=G) (X:=X) (s:=S) (k:=K) k (by omega)
  have aU:ae.aZ [iU (fi (dE l) l.length i),ga k]=true:=by simp -implicitDefEqProofs only[ae.aZ,sE];rfl
  have A:=fun(S:ag) (K:bd)=>lv (T:=aL) (G:=G) (X:=X) (s:=S) (k:=K) aU (sF G X (fi (dE l) l.length i) k _ (by omega)) rfl
  have B:decide (k∈fi (dE l) l.length i)=decide (i∈fr (dE l) k):=by apply decide_eq_decide.2;rw[Hk,k7];exact⟨fun h=>h.2,fun h=>⟨e,h⟩⟩
  rw[wQ,aB,ep,be,dQ (by omega),ek,Gp,sD,az,A,u,oK,yg,sD,az,a8 (sF G X _ _ _ (by omega)),B,aeg,ee,Gn,y];exact r (k+1) (by omega)
theorem Hs{S:ag}(f4:Child s S)(ge:eZ):∀m i:Nat,i+m=l.length→uM (aV aL G X) (bp l g) (.bW 1 (pM l l.length) ge) (ga i) S=.ok (.bool true) s:=by
 have h:∀d,ae.ap d (bp l g)=bp l g:=fun d=>iA l cb d
 intro m
 induction m with
 |zero=>intro i bL;rw[wR,aB,ep,be,cA (by omega),ee,Gt];exact gv f4 _ _ rfl
 |succ m r=>
  intro i bL;have e:i<l.length:=by omega
  have u:=fun(S:ag) (K:bd)=>hT (T:=aL) (G:=G) (X:=X) (s:=S) (k:=K) i (by omega)
  rw[wR,aB,ep,be,dQ (by omega),ek,Gs,h,az,a8 (Y4 G X l g cb hY i dk e _),ot,ou,cL,cA (by simp),ee,Gr];refine(Hr G X l g cb hY bN dk s f4 ge i e l.length 0 (by omega)).trans ?_;rw[Gq,u];exact r (i+1) (by omega)
theorem Ml:∀m i:Nat,i+m=l.length→∀(S:ag) (ge:eZ),Child s S→gS S ge i→Ay (aV aL G X) (bp l g) (.bW 1 (pM l i) ge) (ga i) S=.ok (.bool true) s:=by
 have y:∀d,ae.ap d (bp l g)=bp l g:=fun d=>iA l cb d
 intro m
 induction m with
 |zero=>
  intro i bL S ge f4 r;have e:i=l.length:=by omega
  subst e;rw[yN,aB,ep,be,cA (by omega),ee,Gu];exact Hs G X l g cb hY bN dk s f4 ge l.length 0 (by omega)
 |succ m A=>
  intro i bL S ge f4 r;have h:i<l.length:=by omega
  have a5:=ei h;have B:=fun(S:ag) (K:bd)=>hT (T:=aL) (G:=G) (X:=X) (s:=S) (k:=K) i (by omega)
  have e8:∀K:bd,(aV aL G X).a9 S K 1 [iU (fr (dE l) i)]=K (.bW 1 [iU (fr (dE l) i)] .exact) S:=fun K=>jX 1 _ (by simp -implicitDefEqProofs only[ae.aZ,sE];rfl) rfl
  rw[yN,aB,ep,be,dQ (by omega),ek,Lk,y,az,a8 (Y1 G X l g cb hY i h dk (by omega) _),ot,ou,cL,cA (by simp),ee,Lj];refine(Mj G X l s f4 _ _ i (by omega) (fr (dE l) i).length 0 (by omega)).trans ?_;rw[Li];refine(Mk G X l g hY s f4 i h bN ge _ a5 _ 0 (bf _)).trans ?_;rw[Gm,e8];refine sX (by rw[xn];exact r) (by simp) (by rw[xn];simp;omega) rfl (fun g' S' u ar av bV F=>?_);rw[Gl,B,←Mi];exact A (i+1) (by omega) S' g' (F.child f4) (by rw[xn] at u;exact u)
end
section
variable(G:Nat→ae)(X:Nat→List ae→ag→ah)
theorem aeh(dV:G 0=.bh iT)(h:∃s',aA aL G X 9 [] {own:=[],up:=[],ro:=[]}=.ok (.bool true) s')(eb:List uR)(e:eZ)(y:∀a,e≠.dx a)(A:∀p,p∈eb→p.Sj)(B:eb.length≤131072)(s:ag):
  aA aL G X 3 [sy eb e] s=.ok (.bool true) s:=by
 obtain⟨J,h⟩:=h;obtain⟨L,u,hY,dk,F,H,r⟩:=YT G X dV eb e A B 12 (by omega) s.ai;have I:ae.ap s.ai.aa (sy eb e)=sy eb e:=by show ae.bW 7 _ (e.ap _)=_;rw[qP y]
 have aga:∀(S:ag) (K:bd),(aV aL G X).gR S K 9 []=K (.bool true) S:=fun S K=>lv rfl h rfl
 have r:aA aL G X 10 [sy eb e,.int .i64 12] s.ai=.ok (bp L u) s.ai:=r;rw[Rz,ad1,aga,cT];show(aV aL G X).aP (.bool false) _ _=_;rw[ee,Ll,I,az,a8 r];exact Ml G X L u H hY F dk s L.length 0 (by omega) s.ai .nil (.ai s) .nil
end
end Go.gl
end
