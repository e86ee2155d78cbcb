/- A part of the proof: no condition. -/
import Derived.Test.YtgdnbfijkagodaaGreatDoorA0
import Derived.Test.YtgdnbfijkagodaaGreatDoorA7
import Derived.Test.YtgdnbfijkagodaaGreatDoorA12
import Derived.Test.YtgdnbfijkagodaaGreatDoorA5
import Derived.Test.YtgdnbfijkagodaaGreatDoorA3
set_option linter.unusedSectionVars false
set_option linter.unusedSimpArgs false
set_option linter.unusedVariables false
section
namespace Go.gF
open Go.Ab
def B8(A:Nat→List Nat):Nat→List Nat→List Nat
 |0,_=>[]
 |n+1,m=>if n∈m then n::B8 A n (A n++m) else B8 A n m
def hF(A:Nat→List Nat)(i:Nat):List Nat:=eW A i (i+1) [i]
theorem qk(A:Nat→List Nat)(i:Nat):∀(k:Nat) (m:List Nat),k≤i→eW A i k m=B8 A k m
 |0,_,_=>rfl
 |k+1,m,h=>by
  have cK:Nat.beq k i=false:=by
   cases e:Nat.beq k i
   ·rfl
   ·have:=dq e;omega
  show(bif m.elem k then(bif Nat.beq k i then eW A i k (A k++m) else k::eW A i k (A k++m)) else eW A i k m)=_;rw[cK,qk A i k (A k++m) (by omega),qk A i k m (by omega)];by_cases e:k∈m
  ·simp [B8,e,List.elem_eq_mem]
  ·simp [B8,e,List.elem_eq_mem]
theorem B1(A:Nat→List Nat)(i:Nat):hF A i=B8 A i (A i++[i]):=by show(bif [i].elem i then(bif Nat.beq i i then eW A i i (A i++[i]) else i::eW A i i (A i++[i])) else eW A i i [i])=_;rw[qk A i i _ (aC i)];simp [List.elem_eq_mem]
theorem tZ(A:Nat→List Nat):∀(n:Nat) (m:List Nat) (x:Nat),x∈B8 A n m→x<n
 |0,_,x,h=>by cases h
 |n+1,m,x,h=>by
  rw[B8] at h;split at h
  ·rcases List.mem_cons.1 h with e|e
   ·omega
   ·have:=tZ A n _ x e;omega
  ·have:=tZ A n _ x h;omega
theorem x3(A:Nat→List Nat):∀(n:Nat) (m:List Nat),(B8 A n m).Pairwise (· > ·)
 |0,_=>List.Pairwise.nil
 |n+1,m=>by
  rw[B8];split
  ·exact List.Pairwise.cons (fun x a1=>tZ A n _ x a1) (x3 A n _)
  ·exact x3 A n _
theorem B2{A:Nat→List Nat}(hR:∀k a,a∈A k→a<k):∀(n:Nat) (m:List Nat) (x:Nat),x∈B8 A n m↔x<n∧(x∈m∨∃y,y∈B8 A n m∧x∈A y)
 |0,m,x=>⟨fun h=>(by cases h),fun h=>absurd h.1 (by omega)⟩
 |n+1,m,x=>by
  by_cases cZ:n∈m
  ·have e:B8 A (n+1) m=n::B8 A n (A n++m):=by simp [B8,cZ]
   have r:=B2 hR n (A n++m) x;rw[e];constructor
   ·intro h;rcases List.mem_cons.1 h with e|h
    ·subst e;exact⟨by omega,.inl cZ⟩
    ·obtain⟨ar,aw⟩:=r.1 h;refine⟨by omega,?_⟩;rcases aw with aw|⟨y,aw,bS⟩
     ·rcases List.mem_append.1 aw with aw|aw
      ·exact .inr ⟨n,List.mem_cons_self,aw⟩
      ·exact .inl aw
     ·exact .inr ⟨y,List.mem_cons_of_mem _ aw,bS⟩
   ·rintro ⟨ar,aw⟩
    by_cases ex:x=n
    ·subst ex;exact List.mem_cons_self
    ·refine List.mem_cons_of_mem _ (r.2 ⟨by omega,?_⟩);rcases aw with aw|⟨y,aw,bS⟩
     ·exact .inl (List.mem_append_right _ aw)
     ·rcases List.mem_cons.1 aw with e|aw
      ·subst e;exact .inl (List.mem_append_left _ bS)
      ·exact .inr ⟨y,aw,bS⟩
  ·have e:B8 A (n+1) m=B8 A n m:=by simp [B8,cZ]
   have r:=B2 hR n m x;rw[e];constructor
   ·intro h;obtain⟨ar,aw⟩:=r.1 h;exact⟨by omega,aw⟩
   ·rintro ⟨ar,aw⟩
    by_cases ex:x=n
    ·subst ex;rcases aw with aw|⟨y,aw,bS⟩
     ·exact absurd aw cZ
     ·have dB:=tZ A _ _ y aw;have u:=hR _ _ bS;omega
    ·exact r.2 ⟨by omega,aw⟩
theorem mL{A:Nat→List Nat}{i x:Nat}(h:x∈hF A i):x<i:=tZ A i _ x (by rwa [B1] at h)
theorem qC(A:Nat→List Nat)(i:Nat):(hF A i).Pairwise (· > ·):=by rw[B1];exact x3 A i _
theorem l7{A:Nat→List Nat}(hR:∀k a,a∈A k→a<k){i x:Nat}:x∈hF A i↔(x∈A i∨∃y,y∈hF A i∧x∈A y):=by
 rw[B1,B2 hR];constructor
 ·rintro ⟨ar,aw⟩
  rcases aw with aw|aw
  ·rcases List.mem_append.1 aw with aw|aw
   ·exact .inl aw
   ·have:=List.mem_singleton.1 aw;omega
  ·exact .inr aw
 ·rintro (h|⟨y,aw,bS⟩)
  ·exact⟨hR _ _ h,.inl (List.mem_append_left _ h)⟩
  ·exact⟨Nat.lt_trans (hR _ _ bS) (tZ A i _ y aw),.inr ⟨y,aw,bS⟩⟩
theorem x4{A:Nat→List Nat}(hR:∀k a,a∈A k→a<k){i a:Nat}(h:a∈A i):a∈hF A i:=(l7 hR).2 (.inl h)
theorem x5{A:Nat→List Nat}(hR:∀k a,a∈A k→a<k){i a:Nat}(h:a∈hF A i):∀(d z:Nat),a-z≤d→z∈hF A a→z∈hF A i
 |0,z,cW,gA=>by have:=mL gA;omega
 |d+1,z,cW,gA=>by
  rcases(l7 hR).1 gA with aw|⟨y,aw,bS⟩
  ·exact(l7 hR).2 (.inr ⟨a,h,aw⟩)
  ·have:=hR _ _ bS;exact(l7 hR).2 (.inr ⟨y,x5 hR h d y (by omega) aw,bS⟩)
theorem TY{A:Nat→List Nat}(hR:∀k a,a∈A k→a<k){i a z:Nat}(h:a∈hF A i)(gA:z∈hF A a):z∈hF A i:=x5 hR h _ z (aC _) gA
def h2(A:Nat→List Nat)(i:Nat):List Nat:=(hF A i).reverse
def dW(A:Nat→List Nat)(n i:Nat):List Nat:=(List.range n).filter fun k=>(hF A k).elem i
theorem ID(A:Nat→List Nat)(i:Nat):(h2 A i).Pairwise (· < ·):=List.pairwise_reverse.2 (qC A i)
theorem x6{A:Nat→List Nat}{i x:Nat}:x∈h2 A i↔x∈hF A i:=List.mem_reverse
theorem rG{A:Nat→List Nat}{n i k:Nat}:k∈dW A n i↔k<n∧i∈hF A k:=by simp [dW,List.elem_eq_mem]
theorem Fo:∀(l:List Nat) (a n:Nat),l.Pairwise (· < ·)→(∀x∈l,a≤x∧x<n)→l.length+a≤n∨l=[]
 |[],_,_,_,_=>.inr rfl
 |x::l,a,n,fS,hm=>by
  left
  have a1:=hm x List.mem_cons_self;rcases Fo l (x+1) n (List.pairwise_cons.1 fS).2 (fun y ez=>⟨(List.pairwise_cons.1 fS).1 y ez,(hm y (List.mem_cons_of_mem _ ez)).2⟩) with h|h
  ·simp only[bT];omega
  ·subst h;simp only[bT,ca];omega
theorem x7(A:Nat→List Nat)(i:Nat):(hF A i).length≤i:=by
 have h:=Fo (h2 A i) 0 i (ID A i) (fun x a1=>⟨Nat.zero_le _,mL (x6.1 a1)⟩);have e:(h2 A i).length=(hF A i).length:=List.length_reverse;rcases h with h|h
 ·omega
 ·rw[h] at e;simp at e;omega
end Go.gF
end
section
namespace Go.gF
open Go.Ab Go.hV
def a9(l:List az)(k:Nat):List Nat:=(l.map fun x=>x.args.map Int.toNat).getD k []
theorem u3{pre:List az}:∀{ws as:List Int},hv pre ws as=true→ws.length=as.length→∀a∈as,0≤a∧a<(pre.length:Int)
 |[],[],_,_,a,h=>by cases h
 |[],_::_,_,h,_,_=>by cases h
 |_::_,[],_,h,_,_=>by cases h
 |w::ws,b::as,ar,aw,a,h=>by
  rw[hv,bo] at ar;rcases List.mem_cons.1 h with e|h
  ·subst e
   have:=ar.1;unfold qi at this;simp only[bo,b9] at this;exact⟨this.1.1,this.1.2⟩
  ·exact u3 ar.2 (by simpa using aw) a h
theorem zX(op:Int):(gB op).length≤3:=by
 have h:∀(a b:List Int) (p:Prop) [Decidable p],a.length≤3→b.length≤3→(if p then a else b).length≤3:=fun a b p _ e r=>by by_cases fS:p<;> simp only[fS,if_true,if_false]<;> assumption
 unfold gB
 repeat' apply h
 all_goals exact d9 rfl
theorem rH:∀(r pre:List az),hW pre r=true→∀(k:Nat) (x:az),r[k]? =some x→wf (pre++r.take k) x=true
 |[],_,_,k,x,h=>by simp at h
 |y::r,pre,h,0,x,cK=>by
  rw[hW,bo] at h
  have:y=x:=by simpa using cK
  subst this;simpa using h.1
 |y::r,pre,h,k+1,x,cK=>by
  rw[hW,bo] at h
  have:=rH r (pre++[y]) h.2 k x (by simpa using cK);simpa using this
theorem rI{l:List az}(h:f9 l=0):hW [] l=true:=by
 unfold f9 at h;cases e:hW [] l with
 |true=>rfl
 |false=>
  rw[e] at h
  have:(120:Int)=0:=h;omega
theorem jR{l:List az}(h:f9 l=0):l.length≤40:=by
 unfold f9 at h;rw[rI h] at h;simp only[bD] at h;split at h
 ·exact absurd h (by decide)
 ·rename_i cZ;omega
structure aiB (l:List az) (k:Nat) (x:az):Prop where
 aiL:hJ x.op≠0
 len:(gB x.op).length=x.args.length
 aiM:x.name≠[]
 arg:∀a∈x.args,0≤a∧a<(k:Int)
theorem ns{l:List az}(h:f9 l=0){k:Nat}{x:az}(a1:l[k]? =some x):aiB l k x:=by
 have cK:=(dy.1 a1).1
 have:=rH l [] (rI h) k x a1;unfold wf at this;simp only[bo,b9] at this;obtain⟨⟨⟨ar,aw⟩,bS⟩,dB,_⟩:=this;refine⟨ar,aw,bS,fun a e=>?_⟩
 have:=u3 dB aw a e;simp only[List.nil_append,List.length_take] at this;omega
theorem ql{l:List az}{k:Nat}{x:az}(a1:l[k]? =some x):a9 l k=x.args.map Int.toNat:=by unfold a9;rw[List.getD_eq_getElem?_getD,gb,a1];rfl
theorem N8{l:List az}{k:Nat}(a1:l.length≤k):a9 l k=[]:=by unfold a9;rw[List.getD_eq_getElem?_getD,gb,List.getElem?_eq_none a1];rfl
theorem nt{l:List az}(h:f9 l=0):∀k a,a∈a9 l k→a<k:=fun k a e=>by
 by_cases cK:k<l.length
 ·have a1:l[k]? =some l[k]:=eb cK;rw[ql a1] at e;obtain⟨b,r,rfl⟩:=List.mem_map.1 e
  have:=(ns h a1).arg b r;omega
 ·rw[N8 (by omega)] at e;cases e
theorem tq:∀{as:List Int},(∀a∈as,0≤a)→oQ (as.map I)=some (as.map Int.toNat)
 |[],_=>rfl
 |a::as,h=>by
  have eO:=h a List.mem_cons_self;have e:=tq (as:=as) fun b r=>h b (List.mem_cons_of_mem _ r)
  show(if 0≤a then(oQ (as.map I)).map (a.toNat:: ·) else none)=_;rw[if_pos eO,e];rfl
theorem x8:∀{l:List az},(∀x∈l,∀a∈x.args,0≤a)→pF (l.map az.enc)=some (l.map fun x=>x.args.map Int.toNat)
 |[],_=>rfl
 |x::l,h=>by
  have e:=x8 (l:=l) fun b r=>h b (List.mem_cons_of_mem _ r)
  have ar:mr x.enc=some (x.args.map Int.toNat):=tq (h x List.mem_cons_self);show((mr x.enc).bind fun a=>(pF (l.map az.enc)).map (a:: ·))=_;rw[ar,e];rfl
theorem Fp{l:List az}(h:f9 l=0){i:Nat}(bZ:i<l.length):pG (l.map az.enc) (i:Int)=some ((hF (a9 l) i).map eB):=by
 have hR:∀x∈l,∀a∈x.args,0≤a∧a<(l.length:Int):=fun x a1 a r=>by
  obtain⟨k,cK,e⟩:=List.getElem_of_mem a1
  have:=(ns h (show l[k]? =some x by rw[eb cK,e])).arg a r;omega
 unfold pG;rw[x8 fun x a1 a r=>(hR x a1 a r).1];have u:=jR h;have y:(l.map fun x=>x.args.map Int.toNat).all (fun m=>Nat.ble m.length 1000&&m.all (Nat.blt · (l.map az.enc).length))=true:=by
  rw[List.all_eq_true];intro m hm;obtain⟨x,a1,rfl⟩:=List.mem_map.1 hm;obtain⟨k,cK,e⟩:=List.getElem_of_mem a1;have hw:=ns h (show l[k]? =some x by rw[eb cK,e]);have bS:=zX x.op
  have:=hw.len;rw[bo,List.all_eq_true];refine⟨ec (by rw[d0];omega),fun b A=>?_⟩;obtain⟨a,r,rfl⟩:=List.mem_map.1 A
  have:=hR x a1 a r;exact ec (by rw[d0];omega)
 have dn:decide ((0:Int)≤(i:Int))=true:=dR (by omega);have B:Nat.blt (i:Int).toNat (l.map az.enc).length=true:=ec (by rw[d0];show(i:Int).toNat+1≤_;omega);have F:Nat.ble (l.map az.enc).length 40=true:=ec (by rw[d0];exact u);simp only[dn,B,F,y,bz,bD];rfl
section
variable(A:Nat→List Nat)(i:Nat)
def fI(k:Nat):Bool:=decide (k=i)||(hF A k).elem i
def eV(n:Nat):List Nat:=(List.range n).filter fun k=> !fI A i k
def eY(k:Nat):Nat:=(eV A i k).length
theorem t0{k:Nat}:fI A i k=true↔k=i∨i∈hF A k:=by simp [fI]
theorem t8{k:Nat}:fI A i k=false↔k≠i∧i ∉ hF A k:=by rw[←Bool.not_eq_true,t0];exact⟨fun h=>⟨fun e=>h (.inl e),fun e=>h (.inr e)⟩,fun h e=>e.elim h.1 h.2⟩
theorem lK(k:Nat):eV A i (k+1)=eV A i k++(if fI A i k=true then[] else[k]):=by unfold eV;rw[List.range_succ,List.filter_append];congr 1;cases h:fI A i k<;> simp [h]
theorem N9{n k:Nat}:k∈eV A i n↔k<n∧fI A i k=false:=by simp [eV]
theorem zY(k:Nat):eY A i (k+1)=eY A i k+(if fI A i k=true then 0 else 1):=by unfold eY;rw[lK,fW];split<;> rfl
theorem tr(k:Nat):eY A i k≤k:=by have:=List.length_filter_le (fun k=> !fI A i k) (List.range k);rw[List.length_range] at this;exact this
theorem Oa{a b:Nat}(h:a≤b):eY A i a≤eY A i b:=by
 induction b with
 |zero=>
  have:a=0:=by omega
  subst this;exact aC _
 |succ b r=>
  by_cases e:a=b+1
  ·subst e;exact aC _
  ·have:=r (by omega);rw[zY];omega
theorem B3{a b:Nat}(h:a<b)(e:fI A i a=false):eY A i a<eY A i b:=by have ar:=Oa A i (show a+1≤b from h);rw[zY,e] at ar;simp only[b5,if_false] at ar;omega
theorem t9:∀(d k:Nat),∃r,eV A i (k+d)=eV A i k++r
 |0,k=>⟨[],by simp⟩
 |d+1,k=>by obtain⟨r,h⟩:=t9 d k;exact⟨r++(if fI A i (k+d)=true then[] else[k+d]),by rw[←Nat.add_assoc,lK,h,ll]⟩
theorem qD{n k:Nat}(h:k<n)(cK:fI A i k=false):(eV A i n)[eY A i k]? =some k:=by obtain⟨r,e⟩:=t9 A i (n-(k+1)) (k+1);rw[show k+1+(n-(k+1))=n by omega,lK,cK] at e;rw[e];unfold eY;simp
theorem Fq{n m k:Nat}(h:(eV A i n)[m]? =some k):k<n∧fI A i k=false∧eY A i k=m:=by have hm:=List.mem_of_getElem? h;rw[N9] at hm;refine⟨hm.1,hm.2,?_⟩;have aw:=qD A i hm.1 hm.2;have e:=(dy.1 h).1;have r:=(dy.1 aw).1;have u:(eV A i n).Nodup:=List.nodup_range.filter _;exact(List.getElem_inj u (h₀:=r) (h₁:=e)).1 (by rw[(dy.1 h).2,(dy.1 aw).2])
theorem Ob(n:Nat):(eV A i n).Pairwise (· < ·):=List.Pairwise.filter _ List.pairwise_lt_range
theorem IE{n k:Nat}(h:k<n):(eV A i n).take (eY A i k)=eV A i k:=by obtain⟨r,e⟩:=t9 A i (n-k) k;rw[show k+(n-k)=n by omega] at e;rw[e];unfold eY;exact List.take_left' rfl
variable{A}{i}(hR:∀k a,a∈A k→a<k)
include hR
theorem oJ{k y:Nat}(cK:fI A i k=false)(ez:y∈hF A k):fI A i y=false:=by rw[t8] at *;refine⟨fun e=>cK.2 (by rw[←e];exact ez),fun e=>cK.2 (TY hR ez e)⟩
theorem zZ{k a:Nat}(cK:fI A i k=false)(e:a∈A k):fI A i a=false:=oJ hR cK (x4 hR e)
theorem u4:∀n,(eV A i n).length+(dW A n i).length+(if i<n then 1 else 0)=n
 |0=>by simp [eV,dW]
 |n+1=>by
  have e:=u4 n;have r:dW A (n+1) i=dW A n i++(if i∈hF A n then[n] else[]):=by unfold dW;rw[List.range_succ,List.filter_append];congr 1;by_cases h:i∈hF A n<;> simp [h]
  rw[lK,r,fW,fW];by_cases cZ:n=i
  ·have ar:i ∉ hF A n:=fun h=>by have:=mL h;omega
   rw[if_pos ((t0 A i).2 (.inl cZ)),if_neg ar];simp only[ca];rw[if_neg (by omega)] at e;rw[if_pos (by omega)];omega
  ·by_cases ar:i∈hF A n
   ·have aw:=mL ar;rw[if_pos ((t0 A i).2 (.inr ar)),if_pos ar];simp only[bT,ca];rw[if_pos aw] at e;rw[if_pos (by omega)];omega
   ·rw[if_neg (by rw[Bool.not_eq_true,t8];exact⟨cZ,ar⟩),if_neg ar];simp only[bT,ca];by_cases bS:i<n
    ·rw[if_pos bS] at e;rw[if_pos (by omega)];omega
    ·rw[if_neg bS] at e;rw[if_neg (by omega)];omega
omit hR in
theorem z0:∀(r u:List Nat),r.Pairwise (· > ·)→u.Pairwise (· > ·)→(∀x,x∈r↔x∈u)→r=u
 |[],[],_,_,_=>rfl
 |[],y::u,_,_,h=>absurd ((h y).2 List.mem_cons_self) (by simp)
 |x::r,[],_,_,h=>absurd ((h x).1 List.mem_cons_self) (by simp)
 |x::r,y::u,ar,aw,h=>by
  rw[List.pairwise_cons] at ar aw;have e:x=y:=by
   rcases List.mem_cons.1 ((h x).1 List.mem_cons_self) with e|e
   ·exact e
   ·rcases List.mem_cons.1 ((h y).2 List.mem_cons_self) with A|A
    ·exact A.symm
    ·have:=ar.1 y A
     have:=aw.1 x e;omega
  subst e;refine congrArg (x:: ·) (z0 r u ar.2 aw.2 fun z=>⟨fun gA=>?_,fun gA=>?_⟩)
  ·rcases List.mem_cons.1 ((h z).1 (List.mem_cons_of_mem _ gA)) with e|e
   ·subst e;have:=ar.1 z gA;omega
   ·exact e
  ·rcases List.mem_cons.1 ((h z).2 (List.mem_cons_of_mem _ gA)) with e|e
   ·subst e;have:=aw.1 z gA;omega
   ·exact e
theorem TZ{e:Nat→List Nat}(r:∀k a,a∈e k→a<k){n:Nat}(bB:∀k,k<n→fI A i k=false→e (eY A i k)=(A k).map (eY A i)){k:Nat}(cK:k<n)(b2:fI A i k=false):
  hF e (eY A i k)=(hF A k).map (eY A i):=by
 refine z0 _ _ (qC _ _) ?_ fun z=>⟨fun gA=>?_,fun gA=>?_⟩
 ·rw[List.pairwise_map];exact(qC A k).imp_of_mem fun {a b} J B F=>B3 A i F (oJ hR b2 B)
 ·rw[List.mem_map];have key:∀(d z:Nat),eY A i k-z≤d→z∈hF e (eY A i k)→∃y,y∈hF A k∧eY A i y=z:=by
   intro d
   induction d with
   |zero=>intro z cW gA;have:=mL gA;omega
   |succ d u=>
    intro z cW gA;rcases(l7 r).1 gA with h|⟨w,ar,aw⟩
    ·rw[bB k cK b2,List.mem_map] at h;obtain⟨a,ar,aw⟩:=h;exact⟨a,x4 hR ar,aw⟩
    ·have M:=r _ _ aw;obtain⟨y,bS,dB⟩:=u w (by omega) ar;have ez:=mL bS;rw[←dB,bB y (by omega) (oJ hR b2 bS),List.mem_map] at aw;obtain⟨a,H,I⟩:=aw;exact⟨a,(l7 hR).2 (.inr ⟨y,bS,H⟩),I⟩
  exact key _ z (aC _) gA
 ·rw[List.mem_map] at gA;obtain⟨y,ez,rfl⟩:=gA;have key:∀(d y:Nat),k-y≤d→y∈hF A k→eY A i y∈hF e (eY A i k):=by
   intro d
   induction d with
   |zero=>intro y cW ez;have:=mL ez;omega
   |succ d u=>
    intro y cW ez;rcases(l7 hR).1 ez with h|⟨w,ar,aw⟩
    ·refine x4 r ?_;rw[bB k cK b2];exact List.mem_map.2 ⟨y,h,rfl⟩
    ·have:=hR _ _ aw;have hw:=mL ar;refine(l7 r).2 (.inr ⟨eY A i w,u w (by omega) ar,?_⟩);rw[bB w (by omega) (oJ hR b2 ar)];exact List.mem_map.2 ⟨y,aw,rfl⟩
  exact key _ y (aC _) ez
end
def vM(n:fV):e0:=
 match n.g with
 |.nil=>.nil
 |_=>if n.g9.isEmpty then .exact else .any
def cY(n:fV):fV:=⟨n.neg,n.g9,vM n⟩
theorem IF(n:fV):∀a,vM n≠.cP a:=fun a e=>by
 unfold vM at e;split at e
 ·cases e
 ·split at e<;> cases e
theorem fs{n:fV}(h:kA n):kA (cY n):=⟨IF n,h.ok,h.len⟩
section
variable(G:Nat→af)(X:Nat→List af→ah→ai)
theorem My(n:fV)(cZ:kA n)(gA:n.FI)(s:ah):aB aF G X 70 [n.v] s=.ok (cY n).v s:=by
 rw[NF,Z9];obtain⟨neg,g9,g⟩:=n;have b2:∀a,g≠.cP a:=cZ.g;have bU:g9.length≤100000:=gA.len;have gA:g=.nil→g9=[]:=gA.nil;show(aQ aF G X).aj s.ag _ ((oi .slice (.bx 1 (g9.map U) g) (.bx 1 [] .nil)).map fun b=>.bool (bif false then !b else b))=_;by_cases h:g=.nil
 ·have:=gA h;subst h;subst this;exact fT (T:=aF) (G:=G) (X:=X) (Child.ag s) (.bx 1 [] .nil) (.bx 1 [] .nil) rfl
 ·have e:((oi .slice (.bx 1 (g9.map U) g) (.bx 1 [] .nil)).map fun b=>af.bool (bif false then !b else b))=some (.bool false):=by
   cases g with
   |nil=>exact absurd rfl h
   |cP a=>exact absurd rfl (b2 a)
   |exact=>rfl
   |any=>rfl
  rw[e,cU,eg,Hv,kn 1 [] rfl rfl,lD];have a0:(cY ⟨neg,g9,g⟩).v=.bx 1 (g9.map U) (if g9.isEmpty then .exact else .any):=by
   unfold fV.v cY vM;cases g with
   |nil=>exact absurd rfl h
   |cP a=>exact absurd rfl (b2 a)
   |exact=>rfl
   |any=>rfl
  have iQ:dw s.ag (fV.v ⟨neg,g9,g⟩)=some (1,g9.map U):=by
   cases g with
   |cP a=>exact absurd rfl (b2 a)
   |nil=>rfl
   |exact=>rfl
   |any=>rfl
  rw[a0];unfold fN;simp only;unfold hd;rw[iQ];simp only[e7,ey,ca,bh,d0];rw[show Nat.ble (g9.length*4) 1099511627776=true from ec (by omega)];simp only[bD];cases g9 with
  |nil=>exact fT (T:=aF) (G:=G) (X:=X) (Child.ag s) (.bx 1 [] .exact) (.bx 1 [] .exact) rfl
  |cons a m=>simp only[fc,ah.gU,List.nil_append];refine fT (T:=aF) (G:=G) (X:=X) (S:=s.ag.new (.tok (a::m).length)) ((Child.ag s).new _) (.bx 1 ((a::m).map U) (.cP (.l s.ag.own.length))) _ ?_;show ib _ 1 ((a::m).map U)=_;unfold ib;rw[if_pos (gJ _)];rfl
theorem Mz(a b:fV)(h:kA a)(r:kA b)(I:a.FI)(J:b.FI)(s:ah):aB aF G X 41 [.agg [.bool a.neg,a.v,.bool b.neg,b.v]] s=.ok (.agg [.bool a.neg,(cY a).v,.bool b.neg,(cY b).v]) s:=by
 have M:∀d,af.ao d a.v=a.v:=fun d=>by show af.bx 1 _ (a.g.ao d)=_;rw[nn h.g];rfl
 have N:∀d,af.ao d b.v=b.v:=fun d=>by show af.bx 1 _ (b.g.ao d)=_;rw[nn r.g];rfl
 have O:∀d,af.ao d (cY a).v=(cY a).v:=fun d=>by show af.bx 1 _ ((cY a).g.ao d)=_;rw[nn (fs h).g];rfl
 have U:∀d,af.ao d (cY b).v=(cY b).v:=fun d=>by show af.bx 1 _ ((cY b).g.ao d)=_;rw[nn (fs r).g];rfl
 have V:=fun s=>My G X a h I s
 have Y:=fun s=>My G X b r J s
 rw[NE,Z8,zw _ rfl,be,show af.cells (.agg [.bool a.neg,a.v,.bool b.neg,b.v])=[.bool a.neg,a.v,.bool b.neg,b.v] from rfl,cG];show(aQ aF G X).av ((s.ag.new (.cells [.bool a.neg,a.v,.bool b.neg,b.v])).new (.cells [.bool false,.bx 1 [] .nil,.bool false,.bx 1 [] .nil])) _ 0 (.ref (.l s.ag.own.length) 0)=_;obtain⟨S,u⟩:∃S:ah,S=(s.ag.new (.cells [.bool a.neg,a.v,.bool b.neg,b.v])).new (.cells [.bool false,.bx 1 [] .nil,.bool false,.bx 1 [] .nil]):=⟨_,rfl⟩;have Z:(s.ag.new (.cells [.bool a.neg,a.v,.bool b.neg,b.v])).own.length=s.ag.own.length+1:=by simp [ah.new]
 have own:∀j:Nat,j=s.ag.own.length→S.own[j]? =some (.cells [.bool a.neg,a.v,.bool b.neg,b.v]):=fun j cL=>by subst cL;subst u;simp [ah.new]
 have aa:S.own[s.ag.own.length+1]? =some (.cells [.bool false,.bx 1 [] .nil,.bool false,.bx 1 [] .nil]):=by subst u;simp [ah.new]
 have g5:Child s S:=by subst u;exact((Child.ag s).new _).new _
 rw[←u,Z];generalize s.ag.own.length=j at *;have gH:=own j rfl;rw[ay,ay,ga gH (show[af.bool a.neg,a.v,.bool b.neg,b.v][0+0+1]? =some a.v from rfl),M,aZ (V _),ay,ay,O];rw[io (cs:=[.bool a.neg,a.v,.bool b.neg,b.v]) gH (by simp) rfl rfl rfl];have A:=(dy.1 gH).1;have B:(S.own.set j (.cells ([af.bool a.neg,a.v,.bool b.neg,b.v].set (0+0+1) (cY a).v)))[j]? =some (.cells [.bool a.neg,(cY a).v,.bool b.neg,b.v]):=by simp [A]
 rw[ay,ay];refine(ga (T:=aF) (G:=G) (X:=X) (S:={S with own:=S.own.set j (.cells ([af.bool a.neg,a.v,.bool b.neg,b.v].set (0+0+1) (cY a).v))}) (o:=0+2+1) B (show[af.bool a.neg,(cY a).v,.bool b.neg,b.v][0+2+1]? =some b.v from rfl)).trans ?_;rw[N,aZ (Y _),ay,ay,U];refine(io (S:={S with own:=S.own.set j (.cells ([af.bool a.neg,a.v,.bool b.neg,b.v].set (0+0+1) (cY a).v))}) (o:=0+2+1) (v:=(cY b).v) (cs:=[.bool a.neg,(cY a).v,.bool b.neg,b.v]) B (by simp) rfl rfl rfl).trans ?_;obtain⟨e,y⟩:∃e:ah,e=({S with own:=(S.own.set j (.cells ([af.bool a.neg,a.v,.bool b.neg,b.v].set (0+0+1) (cY a).v))).set j (.cells ([af.bool a.neg,(cY a).v,.bool b.neg,b.v].set (0+2+1) (cY b).v))}:ah):=⟨_,rfl⟩;have ab:e.own[j]? =some (.cells [.bool a.neg,(cY a).v,.bool b.neg,(cY b).v]):=by subst y;simp [A]
 have F:e.own[j+1]? =some (.cells [.bool false,.bx 1 [] .nil,.bool false,.bx 1 [] .nil]):=by subst y;simp only;rw[ix (by omega),ix (by omega)];exact aa
 have H:Child s e:=by subst y;exact⟨g5.up,g5.ro⟩
 show(aQ aF G X).aq ({S with own:=(S.own.set j (.cells ([af.bool a.neg,a.v,.bool b.neg,b.v].set (0+0+1) (cY a).v))).set j (.cells ([af.bool a.neg,(cY a).v,.bool b.neg,b.v].set (0+2+1) (cY b).v))}:ah) _ (some 4) (.ref (.l j) 0)=_;rw[←y,zW G X ab (aC 4),be,qw (T:=aF) (G:=G) (X:=X) (n:=4) (vs:=[af.bool a.neg,(cY a).v,.bool b.neg,(cY b).v].take 4) F rfl rfl rfl];have ac:=(dy.1 F).1;rw[rz (S:={e with own:=e.own.set (j+1) (.cells ([af.bool a.neg,(cY a).v,.bool b.neg,(cY b).v].take 4))}) (j:=j+1) (cs:=[.bool a.neg,(cY a).v,.bool b.neg,(cY b).v]) (n:=4) (by simp [ac]) rfl];refine fT (s:=s) (S:={own:=e.own.set (j+1) (.cells ([af.bool a.neg,(cY a).v,.bool b.neg,(cY b).v].take 4)),up:=e.up,ro:=e.ro}) ⟨H.up,H.ro⟩ _ _ ?_;show(e5 (et _) [_,_,_,_]).map af.agg=_;have eO:∀S,et S (cY a).v=some (cY a).v:=fun S=>mU (fs h).g S 1 _
 have ar:∀S,et S (cY b).v=some (cY b).v:=fun S=>mU (fs r).g S 1 _
 simp only[e5,eO,ar,show∀S b,et S (.bool b)=some (.bool b) from fun S b=>rfl,fp,ep]
end
def eT(A:Nat→List Nat)(i:Nat)(x:az):az:={x with args:=(x.args.map Int.toNat).map (fun a=>(eY A i a:Int)),qJ:=.exact,g6:=cY x.g6,bP:=cY x.bP,lF:=cY x.lF,lb:=cY x.lb}
def eK(l:List az)(i n:Nat):List az:=(eV (a9 l) i n).map fun k=>eT (a9 l) i (l.getD k default)
theorem mV(l:List az)(i n:Nat):(eK l i n).length=eY (a9 l) i n:=by simp [eK,eY]
theorem ts{l:List az}{k:Nat}{x:az}(h:l[k]? =some x):l.getD k default=x:=by rw[List.getD_eq_getElem?_getD,h];rfl
theorem ua{l:List az}{i n k:Nat}{x:az}(cK:k<n)(b2:fI (a9 l) i k=false)(a1:l[k]? =some x):(eK l i n)[eY (a9 l) i k]? =some (eT (a9 l) i x):=by unfold eK;rw[gb,qD _ _ cK b2];show some (eT _ i (l.getD k default))=_;rw[ts a1]
theorem x9{l:List az}{i n m:Nat}{y:az}(cZ:n≤l.length)(h:(eK l i n)[m]? =some y):∃k x,k<n∧fI (a9 l) i k=false∧eY (a9 l) i k=m∧l[k]? =some x∧y=eT (a9 l) i x:=by unfold eK at h;rw[gb] at h;obtain⟨k,ar,aw⟩:=Option.map_eq_some_iff.1 h;obtain⟨bS,dB,e⟩:=Fq _ _ ar;have a1:l[k]? =some l[k]:=eb (by omega);exact⟨k,l[k],bS,dB,e,a1,by rw[←aw,ts a1]⟩
theorem IG{l:List az}{i n k:Nat}(cK:k<n):(eK l i n).take (eY (a9 l) i k)=eK l i k:=by unfold eK;rw[←List.map_take,IE _ _ cK]
theorem IH(l:List az)(i n:Nat):eK l i (n+1)=eK l i n++(if fI (a9 l) i n=true then[] else[eT (a9 l) i (l.getD n default)]):=by unfold eK;rw[lK,List.map_append];congr 1;split<;> rfl
theorem z1:∀(r pre:List az),(∀(k:Nat) (x:az),r[k]? =some x→wf (pre++r.take k) x=true)→hW pre r=true
 |[],_,_=>rfl
 |y::r,pre,h=>by
  rw[hW,bo];refine⟨by simpa using h 0 y rfl,z1 r (pre++[y]) fun k x a1=>?_⟩
  have:=h (k+1) x a1
  rwa [c2,←List.singleton_append,←ll] at this
theorem Oc(A:Nat→List Nat)(i:Nat)(x:az):q6 (eT A i x)=q6 x:=rfl
theorem ya{pre:List az}:∀{ws as:List Int},(∀(k:Nat) (w a:Int),ws[k]? =some w→as[k]? =some a→qi pre w a=true)→hv pre ws as=true
 |[],_,_=>by simp [hv]
 |_::_,[],_=>by simp [hv]
 |w::ws,a::as,h=>by rw[hv,bo];exact⟨h 0 w a rfl rfl,ya fun k w' f6 ar aw=>h (k+1) w' f6 ar aw⟩
theorem yb{pre:List az}:∀{ws as:List Int},hv pre ws as=true→∀(k:Nat) (w a:Int),ws[k]? =some w→as[k]? =some a→qi pre w a=true
 |[],_,_,k,w,a,ar,_=>by simp at ar
 |_::_,[],_,k,w,a,_,aw=>by simp at aw
 |w::ws,b::as,h,0,w',f6,ar,aw=>by
  rw[hv,bo] at h;have dn:w=w':=by simpa using ar
  have e:b=f6:=by simpa using aw
  subst dn;subst e;exact h.1
 |w::ws,b::as,h,k+1,w',f6,ar,aw=>by rw[hv,bo] at h;exact yb h.2 k w' f6 (by simpa using ar) (by simpa using aw)
theorem tt{f:Int→Nat}:∀{a b:List Int},a.Sublist b→(a.map f).sum≤(b.map f).sum
 |_,_,.slnil=>aC _
 |_,_,.cons x h=>by have:=tt (f:=f) h;simp only[fc,List.sum_cons];omega
 |_,_,.cons_cons x h=>by have:=tt (f:=f) h;simp only[fc,List.sum_cons];omega
def aiG(op:Int):Nat:=if jd op=true then 1 else 0
def aiH(op:Int):Nat:=if op=1 then 2 else if op=2 then 1 else 0
theorem MA(l:List az):ym l=((l.map az.op).map aiG).sum:=by
 unfold ym
 induction l with
 |nil=>rfl
 |cons x l e=>simp only[fc,List.sum_cons,←e,List.filter_cons,aiG];split<;> simp <;> omega
theorem yc:∀(l:List az) (i:Nat),(je l i).length=((l.map az.op).map aiH).sum
 |[],_=>rfl
 |x::l,i=>by rw[je,fW,yc l (i+1)];simp only[fc,List.sum_cons];congr 1;unfold mj aiH;split<;> (try split)<;> simp
theorem T0(l:List az)(i:Nat):((eK l i l.length).map az.op).Sublist (l.map az.op):=by
 have ar:l.map az.op=(List.range l.length).map fun k=>(l.getD k default).op:=by
  apply List.ext_getElem?;intro k;rw[gb,gb];by_cases cK:k<l.length
  ·have a1:l[k]? =some l[k]:=eb cK;rw[List.getElem?_range cK,a1];show _=some (l.getD k default).op;rw[ts a1];rfl
  ·rw[List.getElem?_eq_none (by omega),List.getElem?_eq_none (by simp;omega)];rfl
 rw[ar];unfold eK;rw[List.map_map];exact(List.filter_sublist).map _
theorem qm{l:List az}(h:f9 l=0)(i:Nat):f9 (eK l i l.length)=0:=by
 have hR:=nt h;have hw:hW [] (eK l i l.length)=true:=by
  refine z1 _ _ fun m y ez=>?_
  obtain⟨k,x,cK,b2,hm,a1,rfl⟩:=x9 (aC _) ez;subst hm;rw[List.nil_append,IG cK];have w:=rH l [] (rI h) k x a1;rw[List.nil_append] at w;have ba:=ns h a1;unfold wf at w ⊢;rw[Oc];simp only[bo,b9,Bool.not_eq_true'] at w ⊢;obtain⟨⟨⟨U,V⟩,Y⟩,Z,aa,ab,A⟩:=w;refine⟨⟨⟨U,?_⟩,Y⟩,?_,aa,ab,?_⟩
  ·show(gB x.op).length=((x.args.map Int.toNat).map _).length;rw[V,d0,d0]
  ·refine ya fun j u a hu ac=>?_
   have B:((x.args.map Int.toNat).map (fun a=>(eY (a9 l) i a:Int)))[j]? =some a:=ac;rw[gb,gb] at B;obtain⟨b,ad,F⟩:=Option.map_eq_some_iff.1 B;obtain⟨c,a0,H⟩:=Option.map_eq_some_iff.1 ad;have I:=List.mem_of_getElem? a0;have ah:=ba.arg c I;have J:b∈a9 l k:=by rw[ql a1];exact List.mem_map.2 ⟨c,I,H⟩
   have r:=hR _ _ J;have M:=zZ hR b2 J;have o:=yb Z j u c hu a0;unfold qi at o ⊢;rw[bo] at o ⊢;have ai:=B3 (a9 l) i r M;refine⟨dR ?_,?_⟩
   ·rw[←F,mV];omega
   ·have N:l[b]? =some l[b]:=eb (by omega);have dn:(eK l i k)[a.toNat]? =some (eT (a9 l) i l[b]):=by
     rw[←F,Int.toNat_natCast];exact ua r M N
    have ae:(l.take k)[c.toNat]? =some l[b]:=by rw[H,List.getElem?_take_of_lt r];exact N
    have O:=o.2;rw[ae] at O;rw[dn];exact O
  ·rw[Bool.eq_false_iff];intro cZ;rw[Bool.eq_false_iff] at A;apply A;unfold nX at cZ ⊢;rw[List.any_eq_true] at cZ ⊢;obtain⟨o,af,he⟩:=cZ;obtain⟨q,fz,e⟩:=List.getElem_of_mem af;obtain⟨l9,kT,ar,aw,bS,dB,ag⟩:=x9 (by omega) (show(eK l i k)[q]? =some o by rw[eb fz,e]);refine⟨kT,List.mem_of_getElem? (i:=l9) (by rw[List.getElem?_take_of_lt ar];exact dB),?_⟩;rw[ag] at he;exact he
 have ba:=T0 l i;have aj:(eK l i l.length).length≤l.length:=by rw[mV];exact tr _ _ _
 have ak:ym (eK l i l.length)≤ym l:=by rw[MA,MA];exact tt ba
 have al:(je (eK l i l.length) 0).length≤(je l 0).length:=by rw[yc,yc];exact tt ba
 unfold f9 at h ⊢;rw[hw];cases e:hW [] l with
 |false=>rw[e] at h;exact absurd h (by show¬(120:Int)=0;decide)
 |true=>
  rw[e] at h;simp only[bD] at h ⊢;split at h
  ·exact absurd h (by decide)
  ·rw[if_neg (by omega)]
theorem yd{l:List az}(c0:∀o,o∈l→lc o)(i:Nat):∀o,o∈eK l i l.length→lc o:=fun o h=>by
 obtain⟨q,fz,e⟩:=List.getElem_of_mem h;obtain⟨k,x,ar,aw,bS,dB,r⟩:=x9 (aC _) (show(eK l i l.length)[q]? =some o by rw[eb fz,e])
 have:=c0 x (List.mem_of_getElem? dB);rw[r];exact⟨fun a e=>(by cases e),by show((x.args.map Int.toNat).map _).length<_;rw[d0,d0];exact this.Ol,fs this.g6,fs this.bP,fs this.lF,fs this.lb⟩
theorem II{l:List az}{i k:Nat}(cK:k<l.length)(b2:fI (a9 l) i k=false):a9 (eK l i l.length) (eY (a9 l) i k)=(a9 l k).map (eY (a9 l) i):=by have a1:l[k]? =some l[k]:=eb cK;rw[ql (ua cK b2 a1),ql a1];show((l[k].args.map Int.toNat).map (fun a=>(eY (a9 l) i a:Int))).map Int.toNat=_;rw[List.map_map];apply List.map_congr_left;intro a _;exact Int.toNat_natCast _
theorem Fs{l:List az}(h:f9 l=0){i k:Nat}(cK:k<l.length)(b2:fI (a9 l) i k=false):h2 (a9 (eK l i l.length)) (eY (a9 l) i k)=(h2 (a9 l) k).map (eY (a9 l) i):=by unfold h2;rw[TZ (nt h) (nt (qm h i)) (fun k cK b2=>II cK b2) cK b2,List.map_reverse]
end Go.gF
end
section
namespace Go.Ab
def ah.kB(s:ah)(d:Nat):List b4:=if d=s.aa then s.own else(s.up[s.aa-1-d]?).getD []
def ah.ko(s:ah)(d:Nat)(F:List b4):ah:=if d=s.aa then {s with own:=F} else {s with up:=s.up.set (s.aa-1-d) F}
structure j9 (s:ah) (d:Nat):Prop where
 gz:s.ro.length≤d
 bZ:d≤s.aa
theorem ah.z2(s:ah):s.aa=s.up.length+s.ro.length:=rfl
theorem j9.idx{s:ah}{d:Nat}(h:j9 s d)(cW:d≠s.aa):s.aa-1-d<s.up.length:=by have:=h.gz;have:=h.bZ;have:=s.z2;omega
theorem qn(s:ah)(d:Nat)(F:List b4):(s.ko d F).aa=s.aa:=by unfold ah.ko;split<;> simp [ah.aa]
theorem T1(s:ah)(d:Nat)(F:List b4):(s.ko d F).ro=s.ro:=by unfold ah.ko;split<;> rfl
theorem j9.put{s:ah}{d:Nat}(h:j9 s d)(e:Nat)(F:List b4):j9 (s.ko e F) d:=⟨by rw[T1];exact h.gz,by rw[qn];exact h.bZ⟩
theorem j9.ag{s:ah}{d:Nat}(h:j9 s d):j9 s.ag d:=⟨h.gz,by have:=h.bZ;simp -implicitDefEqProofs only[ah.ag,ah.aa,bT] at *;omega⟩
theorem B4(s:ah):s.ag.aa=s.aa+1:=(Child.ag s).aa
theorem j9.new{s:ah}{d:Nat}(h:j9 s d)(o:b4):j9 (s.new o) d:=⟨h.gz,h.bZ⟩
theorem z3{s:ah}{d:Nat}(h:j9 s d)(F:List b4):(s.ko d F).kB d=F:=by
 unfold ah.kB;rw[qn];unfold ah.ko;by_cases e:d=s.aa
 ·rw[if_pos e,if_pos e]
 ·rw[if_neg e,if_neg e]
  have:=h.idx e;simp [this]
theorem IJ(s:ah)(d:Nat)(F h:List b4):(s.ko d F).ko d h=s.ko d h:=by
 unfold ah.ko;by_cases e:d=s.aa
 ·rw[if_pos e,if_pos e]
  have:d=({s with own:=F}:ah).aa:=e;rw[if_pos this]
 ·rw[if_neg e,if_neg e]
  have:({s with up:=s.up.set (s.aa-1-d) F}:ah).aa=s.aa:=by simp [ah.aa]
  rw[if_neg (by rw[this];exact e),this];simp
theorem IK{s:ah}{d:Nat}(h:j9 s d):s.ko d (s.kB d)=s:=by
 unfold ah.ko ah.kB;by_cases e:d=s.aa
 ·rw[if_pos e,if_pos e]
 ·rw[if_neg e,if_neg e];have bZ:=h.idx e;obtain⟨own,up,ro⟩:=s;simp -implicitDefEqProofs only[eb bZ,Option.getD_some];congr 1;exact List.set_getElem_self bZ
theorem Ft{s:ah}{d:Nat}(h:j9 s d)(i:Nat):s.get (.g d i)=(s.kB d)[i]?:=by
 unfold ah.kB;simp -implicitDefEqProofs only[ah.get];by_cases e:d=s.aa
 ·rw[if_pos e,if_pos e]
 ·have bZ:=h.bZ;rw[if_neg e,if_neg e,if_pos (by omega)];have a1:=h.idx e;rw[fB a1,eb a1];rfl
theorem T2{s:ah}{d:Nat}(h:j9 s d)(i:Nat)(o:b4):s.set (.g d i) o=some (s.ko d ((s.kB d).set i o)):=by
 unfold ah.ko ah.kB;simp -implicitDefEqProofs only[ah.set];by_cases e:d=s.aa
 ·rw[if_pos e,if_pos e,if_pos e]
 ·have bZ:=h.bZ;rw[if_neg e,if_neg e,if_neg e,if_pos ⟨by omega,h.gz⟩];have a1:=h.idx e;congr 2;rw[eb a1];apply List.ext_getElem?;intro j;rw[List.getElem?_modify];by_cases cL:s.aa-1-d=j
  ·subst cL;simp [a1]
  ·rw[ix cL];simp [cL]
theorem nu{s:ah}{d:Nat}(h:j9 s d):s.ag.kB d=s.kB d:=by
 have bZ:=h.bZ;have he:=B4 s;unfold ah.kB;rw[he,if_neg (by omega)];show((s.own::s.up)[s.aa+1-1-d]?).getD []=_;by_cases e:d=s.aa
 ·subst e;rw[if_pos rfl];simp
 ·rw[if_neg e,show s.aa+1-1-d=(s.aa-1-d)+1 by omega];rfl
theorem Fu(s:ah):s.kB s.aa=s.own:=by unfold ah.kB;rw[if_pos rfl]
section
variable{T:Nat→Option c8}{G:Nat→af}{X:Nat→List af→ah→ai}{s:ah}{k:bd}
theorem aaR{d j o:Nat}{cs:List af}{c:af}(h:j9 s d)(bA:(s.kB d)[j]? =some (.cells cs))(a0:cs[o]? =some c):(aQ T G X).aq s k none (.ref (.g d j) o)=k c s:=by
 rw[hh];simp -implicitDefEqProofs only[dZ,Ft h,bA,e3]
 have:cs.drop o=c::cs.drop (o+1):=by have e:=(dy.1 a0);rw[iy e.1,e.2]
 rw[this];rfl
theorem aaS{d j o:Nat}{cs:List af}{v:af}(h:j9 s d)(bA:(s.kB d)[j]? =some (.cells cs))(e:o<cs.length)(bX:v.en=true)(hw:v.cells=[v])(r:v.e9=true)(bU:v.bb=true∨v.low d=true):(aQ T G X).bm s k 1 (.ref (.g d j) o) v=k .dead (s.ko d ((s.kB d).set j (.cells (cs.set o v)))):=by
 rw[jZ];simp -implicitDefEqProofs only[fh,r,hw,bT,ca,bh,e7,bz,bD];unfold h9;have eo:s.gL (.g d j) [v]=true:=by
  rcases bU with bU|bU
  ·simp [ah.gL,af.aX,bU]
  ·simp [ah.gL,af.j4,bU]
 simp -implicitDefEqProofs only[Ft h,bA,bT,ca,bh,show Nat.ble (o+1) cs.length=true from ec e,eo,List.all_cons,bX,List.all_nil,bz,bD];show(match s.set (.g d j) (.cells (dE cs o [v])) with |some s=>k .dead s|none=>.fail)=_;rw[T2 h];rfl
end
end Go.Ab
end
section
namespace Go.gF
open Go.Ab Go.hV
def kN(P:List Nat)(x:Nat)(R:List Nat)(q:Nat):List Nat:=P.take q++x::(P.drop q++R)
theorem Od(P:List Nat)(x:Nat)(R:List Nat):kN P x R P.length=P++x::R:=by simp [kN]
theorem IL(P:List Nat)(x:Nat)(R:List Nat):kN P x R 0=x::(P++R):=by simp [kN]
theorem z4(P:List Nat)(x:Nat)(R:List Nat){q:Nat}(fz:q≤P.length):(kN P x R q).length=P.length+1+R.length:=by simp [kN];omega
theorem nv(P:List Nat){q:Nat}(fz:q<P.length):P.take (q+1)=P.take q++[P[q]]:=by rw[List.take_add_one,eb fz];rfl
theorem ye(P:List Nat)(x:Nat)(R:List Nat){q:Nat}(fz:q≤P.length):(kN P x R q)[q]? =some x:=by unfold kN;rw[jt (by simp;omega)];simp [Nat.min_eq_left fz]
theorem yf(P:List Nat)(x:Nat)(R:List Nat){q:Nat}(fz:q<P.length):(kN P x R (q+1))[q]? =some P[q]:=by unfold kN;rw[nv P fz,ll,jt (by simp;omega)];simp [Nat.min_eq_left (Nat.le_of_lt fz)]
theorem IM(P:List Nat)(x:Nat)(R:List Nat){q:Nat}(fz:q<P.length):((kN P x R (q+1)).set (q+1) P[q]).set q x=kN P x R q:=by
 unfold kN;have ar:(P.take q).length=q:=by simp;omega
 have aw:(P.take (q+1)).length=q+1:=by simp;omega
 rw[List.set_append_right _ _ (by omega),aw,Nat.sub_self,List.set_cons_zero,nv P fz,ll,List.set_append_right _ _ (by omega),ar,Nat.sub_self];rw[iy fz];rfl
section
variable{s S:ah}{d:Nat}
theorem Child.ne(e:Child s S)(h:j9 s d):d≠S.aa:=by have:=h.bZ;have:=e.aa;omega
theorem Fv(r:Child s S)(h:j9 s d)(F:List b4):Child (s.ko d F) (S.ko d F):=by
 have ar:=Child.ne r h;have aw:=h.bZ;unfold ah.ko;rw[if_neg ar];by_cases e:d=s.aa
 ·rw[if_pos e];refine⟨?_,r.ro⟩;show S.up.set (S.aa-1-d) F=_;rw[r.up,r.aa,e];simp
 ·rw[if_neg e];refine⟨?_,r.ro⟩;show S.up.set (S.aa-1-d) F=_;rw[r.up,r.aa]
  have:s.aa+1-1-d=(s.aa-1-d)+1:=by omega
  rw[this];rfl
def vk(S:ah)(d j:Nat)(L:List Nat):ah:=S.ko d ((S.kB d).set j (.cells (L.map eB)))
theorem z5(S:ah)(d j:Nat)(L:List Nat):(vk S d j L).aa=S.aa:=qn _ _ _
theorem MB(h:j9 S d)(j:Nat)(L:List Nat):j9 (vk S d j L) d:=h.put d _
theorem MC(h:j9 S d){j:Nat}(L:List Nat)(cL:j<(S.kB d).length):((vk S d j L).kB d)[j]? =some (.cells (L.map eB)):=by unfold vk;rw[z3 h];simp [cL]
theorem Fw(h:j9 S d){j:Nat}{L:List Nat}(bA:(S.kB d)[j]? =some (.cells (L.map eB))):vk S d j L=S:=by
 unfold vk
 have:(S.kB d).set j (.cells (L.map eB))=S.kB d:=by obtain⟨ar,aw⟩:=dy.1 bA;rw[←aw];exact List.set_getElem_self ar
 rw[this,IK h]
variable{T:Nat→Option c8}{G:Nat→af}{X:Nat→List af→ah→ai}{k:bd}
theorem B5(h:j9 S d){j:Nat}{L:List Nat}(cL:j<(S.kB d).length){o:Nat}{x:Nat}(e:L[o]? =some x):(aQ T G X).aq (vk S d j L) k none (.ref (.g d j) o)=k (eB x) (vk S d j L):=
 aaR (MB h j L) (MC h L cL) (by rw[gb,e];rfl)
theorem T3(h:j9 S d){j:Nat}{L:List Nat}(cL:j<(S.kB d).length){o:Nat}(x:Nat)(e:o<L.length):(aQ T G X).bm (vk S d j L) k 1 (.ref (.g d j) o) (eB x)=k .dead (vk S d j (L.set o x)):=by rw[aaS (MB h j L) (MC h L cL) (by simpa using e) rfl rfl rfl (.inl rfl)];unfold vk;rw[z3 h,IJ,List.set_set,←List.map_set]
end
section
variable(G:Nat→af)(X:Nat→List af→ah→ai)
theorem T4(x:Int)(s:ah):aB aF G X 132 [I x] s=.ok (.bool false) s:=by rw[Ia,Ts,cf,b0 (by simp)];exact fT (.ag s) _ _ rfl
theorem T5(a b:Int)(s:ah):aB aF G X 108 [I a,I b] s=.ok (.bool (decide (a<b))) s:=by rw[H9,Tr,aA,aZ (T4 G X a _)];simp -implicitDefEqProofs only[gP,ew,ee];rw[bl];exact fT (.ag s) _ _ rfl
theorem T6{S:ah}{d:Nat}(h:j9 S d){j:Nat}(cL:j<(S.kB d).length)(P:List Nat)(x:Nat)(R:List Nat){q:Nat}(fz:q<P.length)(v1 v2 v6:af)(n:Nat)(cZ:n=(kN P x R (q+1)).length)(u:n<1000):
  xh (aQ aF G X) (.cH (.g d j) 0 n 0 1) v1 v2 v6 (eB (q+1)) (vk S d j (kN P x R (q+1)))=qd (aQ aF G X) (.cH (.g d j) 0 n 0 1) v1 v2 v6 (eB q) (vk S d j (kN P x R q)):=by
 have hlen:=z4 P x R (q:=q+1) fz;have e:=fun(S:ah) (k:bd)=>iK (T:=aF) (G:=G) (X:=X) (s:=S) (k:=k) (q+1) (by omega) (by omega)
 simp -implicitDefEqProofs only[Nat.add_sub_cancel] at e;have gZ:=ye P x R (q:=q+1) fz;have tQ:=yf P x R fz;have dn:0+(q+1)*1=q+1:=by omega
 have ml:0+q*1=q:=by omega
 have r:=IM P x R fz;rw[EF,e,e,gY _ _ _ _ _ _ _ (by omega),ml,B5 h cL tQ,gY _ _ _ _ _ _ _ (by omega),dn,B5 h cL gZ,gY _ _ _ _ _ _ _ (by omega),dn,aA,T3 h cL _ (by omega),gY _ _ _ _ _ _ _ (by omega),ml,aA,T3 h cL _ (by rw[List.length_set];omega),r,EE,e]
theorem Fx{S:ah}{d:Nat}(h:j9 S d){j:Nat}(cL:j<(S.kB d).length)(P:List Nat)(x:Nat)(R:List Nat)(r:∀y∈P,x<y)(v2:af)(i:Nat)(n:Nat)(cZ:n=P.length+1+R.length)(u:n<1000)(bZ:i<1000):∀q,q≤P.length→
  qd (aQ aF G X) (.cH (.g d j) 0 n 0 1) (I 0) v2 (eB i) (eB q) (vk S d j (kN P x R q))=qe (aQ aF G X) (.cH (.g d j) 0 n 0 1) (I 0) v2 (eB (i+1)) (vk S d j (kN P x R 0))
 |0,_=>by
  have e:=fun S k=>nD G X S k i (by omega)
  rw[uU,b8,b0 (by simp)];simp -implicitDefEqProofs only[gP,ew];rw[eg,EG,e]
 |q+1,fz=>by
  have hlen:=z4 P x R (q:=q+1) fz;have e:=fun(S:ah) (k:bd)=>iK (T:=aF) (G:=G) (X:=X) (s:=S) (k:=k) (q+1) (by omega) (by omega)
  simp -implicitDefEqProofs only[Nat.add_sub_cancel] at e;have gZ:=ye P x R (q:=q+1) fz;have tQ:=yf P x R fz;have dn:0+(q+1)*1=q+1:=by omega
  have ml:0+q*1=q:=by omega
  have A:(x:Int)<(P[q]:Int):=by have:=r _ (mW fz);omega
  rw[uU,b8,dR (by omega)];simp -implicitDefEqProofs only[f5];rw[gY _ _ _ _ _ _ _ (by omega),dn,B5 h cL gZ,e,gY _ _ _ _ _ _ _ (by omega),ml,B5 h cL tQ,aA,aA,aZ (T5 G X _ _ _),dR A,fH,ek];rw[T6 G X h cL P x R fz _ _ _ n (by omega) u];exact Fx h cL P x R r v2 i n cZ u bZ q (by omega)
theorem pi{s S:ah}(h:Child s S):(aQ aF G X).aW false [] S=.ok (.ed []) s:=by obtain⟨ar,aw⟩:=h;show l1 false [] S=_;unfold l1;simp -implicitDefEqProofs only[e5,fp,ep,cond_false,qM,ar,aw]
theorem ub{s:ah}{d:Nat}(h:j9 s d)(j:Nat)(L:List Nat):Child (vk s d j L) (vk s.ag d j L):=by unfold vk;rw[nu h];exact Fv (.ag s) h _
theorem T7(D:List Nat)(A:D.Pairwise (· > ·))(B:D.length<1000){s:ah}{d j:Nat}(h:j9 s d)(bA:(s.kB d)[j]? =some (.cells (D.map eB))):
  aB aF G X 102 [.cH (.g d j) 0 D.length 0 1,I 0,eB D.length] s=.ok (.ed []) (vk s d j D.reverse):=by
 have cL:j<(s.ag.kB d).length:=by rw[nu h];exact(dy.1 bA).1
 have loop:∀m i:Nat,i+m=D.length→
   qe (aQ aF G X) (.cH (.g d j) 0 D.length 0 1) (I 0) (eB D.length) (eB i) (vk s.ag d j ((D.take i).reverse++D.drop i))=.ok (.ed []) (vk s d j D.reverse):=by
  intro m
  induction m with
  |zero=>intro i bZ;rw[nU,bl,b0 (by omega),eg,iV (by omega),lm (by omega),n1];exact pi G X (ub h j _)
  |succ m F=>
   intro i bZ;have r:i<D.length:=by omega
   have u:(D.take i).reverse.length=i:=by simp;omega
   have H:∀y∈(D.take i).reverse,D[i]<y:=fun y ez=>by
    have ez:=List.mem_reverse.1 ez;obtain⟨k,cK,e⟩:=List.getElem_of_mem ez;have J:k<i:=by simp at cK;omega
    rw[List.getElem_take] at e;rw[←e];exact List.pairwise_iff_getElem.1 A k i (by omega) r J
   have dn:kN (D.take i).reverse D[i] (D.drop (i+1)) i=(D.take i).reverse++D.drop i:=by have:=Od (D.take i).reverse D[i] (D.drop (i+1));rw[u] at this;rw[this,iy r]
   have ml:kN (D.take i).reverse D[i] (D.drop (i+1)) 0=(D.take (i+1)).reverse++D.drop (i+1):=by rw[IL,nv D r,List.reverse_append];rfl
   have:=Fx G X (h.ag) cL (D.take i).reverse D[i] (D.drop (i+1)) H (eB D.length) i D.length (by rw[u,List.length_drop];omega) B (by omega) i (by omega);rw[dn,ml] at this;rw[nU,bl,dR (by omega),ek,EH,this];exact F (i+1) (by omega)
 have M:=fun S k=>nD G X S k 0 (by omega)
 rw[xK,EM];refine(M _ _).trans ?_;by_cases eO:D.length=0
 ·have:D=[]:=jj eO;subst this;rw[nU,bl,b0 (by simp),eg];have e:=Fw (L:=[]) h bA;refine pi G X ?_;rw[List.reverse_nil,e];exact .ag s
 ·have:=loop (D.length-1) (0+1) (by omega);have e:(D.take (0+1)).reverse++D.drop (0+1)=D:=by cases D with |nil=>exact absurd rfl eO|cons a D=>simp
  rw[e,Fw h.ag (by rw[nu h];exact bA)] at this;exact this
end
theorem u64_in(n:Nat)(h:n<9223372036854775808):IntKind.wrap .u64 (n:Int)=(n:Int):=by show(n:Int)%(2^64)=_;omega
section
variable(G:Nat→af)(X:Nat→List af→ah→ai)
theorem MD(n:Nat)(s:ah)(h:n<4294967296):aB aF G X 86 [.int .u64 (n:Int)] s=.ok (I (oI n)) s:=by rw[NL,aaf,eg,HC,aA,aZ (Fe G X n _ h)];exact fT (.ag s) _ _ rfl
theorem aaT(D:List Nat)(e:D.Pairwise (· > ·))(y:D.length≤12)(r:af){s:ah}{d j:Nat}(h:j9 s d)(bA:(s.kB d)[j]? =some (.cells (D.map eB))):
  aB aF G X 85 [.cH (.g d j) 0 D.length 0 1,I 0,eB D.length,r] s=.ok (.ed []) (vk s d j D.reverse):=by
 have u:=fun(S:ah) (k:bd)=>lR (T:=aF) (G:=G) (X:=X) (s:=S) (k:=k) D.length 0 (by omega) (by omega)
 have c:=T7 G X D e (by omega) h.ag (s:=s.ag) (by rw[nu h];exact bA);rw[zK,Me,xF];refine(u _ _).trans ?_;rw[c6,dR (by omega),ek];refine(nQ c (z5 _ _ _ _)).trans ?_;exact pi G X (ub h j _)
theorem T8(g:e0)(e:af)(s:ah)(b2:∀a,g≠.cP a):aB aF G X 85 [.bx 1 [] g,I 0,I 0,e] s=.ok (.ed []) s:=by
 have h:=fun(S:ah) (k:bd)=>lR (T:=aF) (G:=G) (X:=X) (s:=S) (k:=k) 0 0 (by omega) (by omega)
 have r:=fun S k=>nD G X S k 0 (by omega)
 have c:aB aF G X 102 [.bx 1 [] g,I 0,I 0] s.ag=.ok (.ed []) s.ag:=by rw[xK,EM];refine(r _ _).trans ?_;rw[nU,bl,b0 (by simp),eg];exact pi G X (.ag _)
 have u:af.ao s.ag.aa (.bx 1 [] g)=.bx 1 [] g:=by simp -implicitDefEqProofs only[af.ao,nn b2]
 rw[zK,Me,xF];refine(h _ _).trans ?_;rw[c6,dR (by omega),ek,u,aA];refine(aZ c).trans ?_;exact pi G X (.ag s)
theorem aaU(D:List Nat)(e:D.Pairwise (· > ·))(r:D.length≤12){s:ah}{d j:Nat}(h:j9 s d)(bA:(s.kB d)[j]? =some (.cells (D.map eB))):
  aB aF G X 68 [.cH (.g d j) 0 D.length 0 1] s=.ok (.ed []) (vk s d j D.reverse):=by
 have c:=aaT G X D e r (I (oI D.length)) h.ag (s:=s.ag) (by rw[nu h];exact bA);rw[zJ,Md,aY,uZ,u64_in _ (by omega),aA,aZ (MD G X _ _ (by omega))];refine(nQ c (z5 _ _ _ _)).trans ?_;exact pi G X (ub h j _)
theorem T9(g:e0)(s:ah)(b2:∀a,g≠.cP a):aB aF G X 68 [.bx 1 [] g] s=.ok (.ed []) s:=by
 have c:=T8 G X g (I (oI 0)) s.ag b2;have e:af.ao s.ag.aa (.bx 1 [] g)=.bx 1 [] g:=by simp -implicitDefEqProofs only[af.ao,nn b2]
 rw[zJ,Md,aI,uZ,u64_in _ (by simp),aA,aZ (MD G X _ _ (by simp)),e];refine(aZ c).trans ?_;exact pi G X (.ag s)
theorem Fy{l:List az}{g:e0}(b2:∀a,g≠.cP a)(g5:f9 l=0){i:Nat}(bZ:i<l.length)(step:af→ah→(pw→ah→ai)→ai)(S:ah)(k:pw→ah→ai):
  (aQ aF G X).p0 0 69 (.fn 69 [.bk [eB i],.bk [bc l g]]) step S k=fY step S [.bk [eB i],.bk [bc l g]] ((hF (a9 l) i).map eB) S k:=by
 show ms 0 69 (.fn 69 [.bk [eB i],.bk [bc l g]]) step S k=_;have e:qt S 0 [.bk [eB i],.bk [bc l g]]=some ((hF (a9 l) i).map eB):=by show((dw S (bc l g)).bind fun p=>bif Nat.beq p.1 12 then pG p.2 (i:Int) else none)=_;rw[show dw S (bc l g)=some (12,l.map az.enc) from by cases g<;> first|rfl |exact absurd rfl (b2 _)];simp -implicitDefEqProofs only[fp,e7,bD];exact Fp g5 bZ
 unfold ms;simp -implicitDefEqProofs only[e,e7,bD]
theorem ME(l:List az)(g:e0)(b2:∀a,g≠.cP a)(i:Int)(s:ah):aB aF G X 39 [bc l g,I i] s=.ok (.fn 69 [.bk [I i],.bk [bc l g]]) s:=by
 have e:g.ao s.ag.aa=g:=nn b2 _;have aV:af.aX [af.bk [I i],.bk [bc l g]]=true:=by have:=jN b2 12 (l.map az.enc);simp -implicitDefEqProofs only[af.aX,af.bb,Bool.and_true,ey];exact this
 rw[NI,aac,aS,e,aK,cG];refine fT (.ag s) _ _ ?_;show(if af.aX [af.bk [I i],.bk [bc l g]]=true then some (af.fn 69 [af.bk [I i],.bk [bc l g]]) else _)=_;rw[if_pos aV]
def ahL(d:Nat)(own:List b4)(e:af)(L:List Nat):Prop:=(e=.bx 1 [] .nil∧L=[])∨∃t,e=.cH (.g d t) 0 L.length 0 1∧own[t]? =some (.cells (L.map eB))∧L≠[]
theorem Ua{S:ah}{c:Nat}{h:af}{L:List Nat}(a0:S.own[c]? =some (.cells [h]))(e1:ahL S.aa S.own h L)(x:Nat)(F:L.length<1000):
  ∃r t,r[c]? =some (.cells [h])∧r[t]? =some (.cells ((L++[x]).map eB))∧t≠c∧∀k:bd,(aQ aF G X).nd S k 1 8 h (.bx 1 [eB x] .exact)=k (.cH (.l t) 0 (L.length+1) 0 1) {S with own:=r}:=by
 have u:=(dy.1 a0).1;rcases e1 with⟨rfl,rfl⟩|⟨t,rfl,ar,aw⟩
 ·refine⟨S.own++[.cells [eB x]],S.own.length,?_,by simp,by omega,fun k=>rfl⟩;rw[fB u];exact a0
 ·have H:=(dy.1 ar).1;have y:t≠c:=fun e=>by
   subst e;rw[ar] at a0;injection a0 with a0
   injection a0 with a0
   cases L with
   |nil=>exact aw rfl
   |cons a L=>cases L<;> simp at a0
  refine⟨S.own.set t .gone++[.cells ((L++[x]).map eB)],S.own.length,?_,by simp,by omega,fun k=>?_⟩
  ·rw[fB (by simpa using u),ix y];exact a0
  ·show kE (gM G (aB aF G X) bR) S k 1 8 (bif Nat.beq S.aa S.aa then .cH (.l t) 0 L.length 0 1 else _) (.bx 1 [eB x] .exact)=_;rw[e7,bD];unfold kE;simp -implicitDefEqProofs only[show dw S (.bx 1 [eB x] .exact)=some (1,[eB x]) from rfl,ar];have wj:Nat.ble ((L.length+[eB x].length)*8) 1099511627776=true:=ec (by simp;omega);have A:Nat.beq L.length 0=false:=by cases L with |nil=>exact absurd rfl aw|cons a L=>rfl
   have B:Nat.beq (L.map eB).length (L.length*1)=true:=by rw[d0,Nat.mul_one,e7]
   simp -implicitDefEqProofs only[wj,A,B,e7,ey,Bool.and_true,hz,show([eB x].flatMap af.cells).all af.en=true from rfl,show Nat.beq 1 0=false from rfl,bD];rw[show(L++[x]).map eB=L.map eB++[eB x].flatMap af.cells from by rw[List.map_append];rfl];rfl
end
section
variable(G:Nat→af)(X:Nat→List af→ah→ai)
noncomputable def af8(c:Nat):af→ah→(pw→ah→ai)→ai:=fun bP s k1=>(aQ aF G X).aq s (fun FH s=>(aQ aF G X).bf s (fun v10 s=>(aQ aF G X).nd s (fun v11 s=>(aQ aF G X).bm s (fun e s=>k1 .norm s) 1 (.ref (.l c) 0) (af.ao s.aa v11)) 1 8 FH v10) 1 [bP]) none (.ref (.l c) 0)
theorem z6(c:Nat)(hN:ah)(i:Nat)(v:af)(bX:∀s s',fu s s' (.bk [v])=true):∀(xs L:List Nat) (S:ah) (e:af),S.own[c]? =some (.cells [e])→ahL S.aa S.own e L→L.length+xs.length≤1000→
  ∃h r,h[c]? =some (.cells [r])∧ahL S.aa h r (L++xs)∧∀K:pw→ah→ai,fY (af8 G X c) hN [.bk [eB i],.bk [v]] (xs.map eB) S K=K .norm {S with own:=h}
 |[],L,S,e,a0,e1,u=>⟨S.own,e,a0,by simpa using e1,fun K=>rfl⟩
 |x::xs,L,S,e,a0,e1,u=>by
  simp only[bT] at u;obtain⟨h,t,ar,aw,bS,dB⟩:=Ua G X a0 e1 x (by omega);have A:=(dy.1 ar).1;have B:=fun(k:bd)=>ga (T:=aF) (G:=G) (X:=X) (k:=k) a0 (o:=0) (c:=e) rfl
  have fo:=fun(k:bd)=>xP G X (S:=S) (k:=k) [(x:Int)]
  have gE:=fun(k:bd)=>io (T:=aF) (G:=G) (X:=X) (k:=k) (S:={S with own:=h}) ar (o:=0) (v:=.cH (.g S.aa t) 0 (L.length+1) 0 1) (by simp) rfl rfl rfl
  obtain⟨F,H,dn,y,I⟩:=z6 c hN i v bX xs (L++[x]) {S with own:=h.set c (.cells ([e].set 0 (.cH (.g S.aa t) 0 (L.length+1) 0 1)))} (.cH (.g S.aa t) 0 (L.length+1) 0 1) (by simp [A]) (.inr ⟨t,by simp [ah.aa],(by show(h.set c _)[t]? =_;rw[ix (Ne.symm bS)];exact aw),by simp⟩) (by simp;omega)
  refine⟨F,H,dn,by rw[ll] at y;exact y,fun K=>?_⟩;rw[fc,mf];show(aQ aF G X).aq S _ none (.ref (.l c) 0)=_;rw[B];refine(fo _).trans ?_;refine(dB _).trans ?_;refine(gE _).trans ?_;have pk:[af.bk [eB i],.bk [v]].all (fu hN {S with own:=h.set c (.cells ([e].set 0 (.cH (.g S.aa t) 0 (L.length+1) 0 1)))})=true:=by rw[List.all_cons,List.all_cons,List.all_nil,bX];rfl
  simp -implicitDefEqProofs only[pk,bD];exact I K
variable(l:List az)(g:e0)(b2:∀a,g≠.cP a)(g5:f9 l=0)(i:Nat)(bZ:i<l.length)
include b2 g5 bZ
theorem aaV(S:ah):∃u h,aB aF G X 84 [.bx 1 [] .nil,.fn 69 [.bk [eB i],.bk [bc l g]]] S=.ok u {S with own:=h}∧ahL S.aa h u (hF (a9 l) i):=by
 have B:=jR g5;have F:=x7 (a9 l) i;obtain⟨h,r,ar,aw,bS⟩:=z6 G X S.own.length (S.new (.cells [.bx 1 [] .nil])) i (bc l g) (fun _ _=>rfl) (hF (a9 l) i) [] (S.new (.cells [.bx 1 [] .nil])) (.bx 1 [] .nil) (by simp [ah.new]) (.inl ⟨rfl,rfl⟩) (by simp;omega);refine⟨r,h,?_,aw⟩;have y:=fun(k:bd)=>ga (T:=aF) (G:=G) (X:=X) (k:=k) (S:={S with own:=h}) ar (o:=0) (c:=r) rfl
 have A:af.ao S.aa r=r:=by rcases aw with⟨e,_⟩|⟨t,e,_⟩<;> subst e<;> rfl
 rw[NK,aae,zw _ rfl,HB,Fy G X b2 g5 bZ];refine(bS _).trans ?_;rw[vh,HA];refine(y _).trans ?_;show l1 true [some r] {S with own:=h}=_;unfold l1;simp -implicitDefEqProofs only[e5,fp,ep,bD,fc,List.map_nil];show ai.ok (af.ao S.aa r) _=_;rw[A]
theorem aaW(S:ah):∃h r,aB aF G X 67 [.fn 69 [.bk [eB i],.bk [bc l g]]] S=.ok h {S with own:=r}∧ahL S.aa r h (hF (a9 l) i):=by
 obtain⟨h,r,ar,aw⟩:=aaV G X l g b2 g5 i bZ S;have u:af.ao S.aa h=h:=by rcases aw with⟨e,_⟩|⟨t,e,_⟩<;> subst e<;> rfl
 refine⟨h,r,?_,aw⟩;rw[NG,aaa];refine(nQ ar rfl).trans ?_;show l1 true [some h] {S with own:=r}=_;unfold l1;simp -implicitDefEqProofs only[e5,fp,ep,bD,fc,List.map_nil];show ai.ok (af.ao S.aa h) _=_;rw[u]
omit b2 g5 bZ in
theorem Fz{S:ah}{t:Nat}{L:List Nat}(h:S.own[t]? =some (.cells (L.map eB)))(eu:L≠[]):Ab.freeze S (.cH (.g S.aa t) 0 L.length 0 1)=some (.bx 1 (L.map eB) .any):=by
 show(if S.aa=S.aa then gp S t 0 L.length 0 1 else _)=_;rw[if_pos rfl];unfold gp;have u:=ry (L.map eB) (fun e he=>by obtain⟨r,_,rfl⟩:=List.mem_map.1 he;rfl);have bU:(L.map eB).length=L.length:=by simp
 rw[bU] at u;have y:L.length≠0:=fun e=>eu (jj e)
 simp -implicitDefEqProofs only[h,bY,u,mK,bU,bh,Nat.mul_one,show Nat.ble L.length L.length=true from ec (aC _),ey,if_neg y];rfl
def iR(L:List Nat):af:=.bx 1 (L.map eB) (if L=[] then .nil else .any)
theorem aaX(F:i≤12)(s:ah):aB aF G X 38 [.fn 69 [.bk [eB i],.bk [bc l g]]] s=.ok (iR (h2 (a9 l) i)) s:=by
 obtain⟨H,h,ar,aw⟩:=aaW G X l g b2 g5 i bZ s.ag;have I:=x7 (a9 l) i;rw[NH,aab];refine(nQ ar rfl).trans ?_;unfold h2;rcases aw with⟨dn,r⟩|⟨t,dn,r,u⟩
 ·subst dn;rw[r];refine(aZ (T9 G X .nil _ (fun a e=>by cases e))).trans ?_;exact fT (show Child s ({s.ag with own:=h}:ah) from⟨rfl,rfl⟩) _ _ rfl
 ·subst dn;have cW:s.ag.aa=({s.ag with own:=h}:ah).aa:=rfl;have bA:(({s.ag with own:=h}:ah).kB s.ag.aa)[t]? =some (.cells ((hF (a9 l) i).map eB)):=by rw[cW,Fu];exact r
  have y:j9 ({s.ag with own:=h}:ah) s.ag.aa:=⟨by show s.ag.ro.length≤s.ag.aa;rw[ah.z2];omega,aC _⟩;have c:=aaU G X (hF (a9 l) i) (qC _ _) (by omega) y bA;have A:vk ({s.ag with own:=h}:ah) s.ag.aa t (hF (a9 l) i).reverse= {s.ag with own:=h.set t (.cells ((hF (a9 l) i).reverse.map eB))}:=by unfold vk ah.ko;rw[if_pos cW,cW,Fu]
  rw[A] at c;refine(nQ c rfl).trans ?_;have B:=(dy.1 r).1;have eu:(hF (a9 l) i).reverse≠[]:=fun e=>u (List.reverse_eq_nil_iff.1 e)
  refine fT (show Child s ({s.ag with own:=h.set t (.cells ((hF (a9 l) i).reverse.map eB))}:ah) from⟨rfl,rfl⟩) _ _ ?_;have gA:=Fz (S:={s.ag with own:=h.set t (.cells ((hF (a9 l) i).reverse.map eB))}) (t:=t) (L:=(hF (a9 l) i).reverse) (by simp [B]) eu;rw[List.length_reverse] at gA;unfold iR;rw[if_neg eu];exact gA
variable(c0:∀o,o∈l→lc o)
include c0
theorem MF(r:i≤12)(s:ah):aB aF G X 11 [bc l g,eB i] s=.ok (.ed [iR (h2 (a9 l) i),I 0]) s:=by
 have y:=jR g5;have sC:=BX G X l g b2 (by omega) c0 (i:Int) s.ag;have ml:l6 l (i:Int)=0:=by unfold l6;rw[if_neg (by simp [g5]),if_neg (by omega)]
 rw[ml] at sC;have h:∀d,af.ao d (bc l g)=bc l g:=fun d=>hE l b2 d
 have u:Ab.freeze s.ag (iR (h2 (a9 l) i))=some (iR (h2 (a9 l) i)):=mU (fun a=>by split<;> intro e<;> cases e) _ _ _;rw[NM,aag,h,aA,aZ sC,cf,b0 (by simp),eg,HD,h,aA,aZ (ME G X l g b2 _ _),e6,aZ (aaX G X l g b2 g5 i bZ r _)];exact k5 (.ag s) _ _ _ _ u rfl
end
section
variable(G:Nat→af)(X:Nat→List af→ah→ai)
theorem aaY(L:List Nat)(g:e0)(n:Nat)(s:ah)(H:L.length<9223372036854775807):aB aF G X 12 [.bx 1 (L.map eB) g,eB n] s=.ok (.bool (decide (n∈L))) s:=by
 have loop:∀m i:Nat,i+m=L.length→vG (aQ aF G X) (.bx 1 (L.map eB) g) (eB n) (eB i) s.ag=.ok (.bool (decide (n∈L.drop i))) s:=by
  intro m
  induction m with
  |zero=>intro i bZ;rw[xG,aI,d0,bl,b0 (by omega),eg,HG,lm (by omega),b0 (by simp)];exact fT (.ag s) _ _ rfl
  |succ m u=>
   intro i bZ;have r:i<L.length:=by omega
   have y:(L.map eB)[i]? =some (eB L[i]):=by simp [r]
   have A:=fun(k:bd)=>lC (T:=aF) (G:=G) (X:=X) (s:=s.ag) (k:=k) 1 _ g .i64 i _ y
   have B:=fun(c:Int) (k:bd)=>bg (T:=aF) (G:=G) (X:=X) (s:=s.ag) (k:=k) (I c) []
   have F:=fun S k=>nD G X S k i (by omega)
   rw[xG,aI,d0,bl,dR (by omega),ek,HF,A,show af.cells (eB L[i])=[I (L[i]:Int)] from rfl,B,bO];have cW:=iy r;by_cases h:L[i]=n
   ·rw[dR (by omega),ek,dR (by rw[cW,h];exact List.mem_cons_self)];exact fT (.ag s) _ _ rfl
   ·rw[b0 (by omega),eg,HE,F,u (i+1) (by omega)]
    have:(n∈L.drop i)↔(n∈L.drop (i+1)):=by rw[cW,List.mem_cons];exact⟨fun e=>e.resolve_left (fun e=>h e.symm),.inr⟩
    rw[decide_eq_decide.2 this]
 rw[NN,aah];exact loop L.length 0 (by omega)
noncomputable def B6(i e h:Nat):af→ah→(pw→ah→ai)→ai:=fun bP s k1=>(aQ aF G X).aq s (fun r s=>(aQ aF G X).aj s (fun u s=>(aQ aF G X).aO u ((aQ aF G X).aq s (fun v20 s=>(aQ aF G X).aq s (fun y s=>(aQ aF G X).bf s (fun A s=>(aQ aF G X).fm s (fun B s=>(aQ aF G X).bm s (fun F s=>k1 (.exit 1) s) 1 (.ref (.l e) 0) (af.ao s.aa B)) 1 8 (some (.l 0)) v20 A) 1 [y]) none (.ref (.l h) 0)) none (.ref (.l e) 0)) (k1 .norm s)) (al .eql bP r)) none (.bk [eB i])
theorem yg(i r u:Nat)(hN S y:ah)(j:Nat)(v:af)(bX:∀s s',fu s s' (.bk [v])=true)(aw:∀k1,B6 G X i r u (eB i) S k1=k1 (.exit 1) y)(K:pw→ah→ai):∀xs:List Nat,
  fY (B6 G X i r u) hN [.bk [eB j],.bk [v]] (xs.map eB) S K=if i∈xs then K (.exit 1) y else K .norm S
 |[]=>by simp [fY]
 |x::xs=>by
  have pk:∀S,[af.bk [eB j],.bk [v]].all (fu hN S)=true:=fun S=>by rw[List.all_cons,List.all_cons,List.all_nil,bX];rfl
  rw[fc,mf];by_cases h:x=i
  ·subst h;rw[aw,if_pos List.mem_cons_self]
  ·have A:=fun(c:Int) (k:bd)=>bg (T:=aF) (G:=G) (X:=X) (s:=S) (k:=k) (I c) []
   have e:(i∈x::xs)↔(i∈xs):=by rw[List.mem_cons];exact⟨fun e=>e.resolve_left (fun e=>h e.symm),.inr⟩
   have step:∀k1,B6 G X i r u (eB x) S k1=k1 .norm S:=fun k1=>by show(aQ aF G X).aq S _ none (.bk [I (i:Int)])=_;rw[A,bO,b0 (by omega),eg]
   rw[step];simp -implicitDefEqProofs only[pk,bD];rw[yg i r u hN S y j v bX aw K xs];simp only[e]
theorem IN{S:ah}{g:e0}{L:List Nat}(h:x1 S g L.length):Ab.freeze S (.bx 1 (L.map eB) g)=some (iR L):=by
 rcases h with⟨rfl,eO⟩|⟨t,rfl,ar,aw⟩
 ·have:L=[]:=jj eO;subst this;rfl
 ·have eu:L≠[]:=fun e=>by subst e;simp at ar
  show(if S.aa<S.aa then _ else ib S 1 (L.map eB))=_;rw[if_neg (Nat.lt_irrefl _)];unfold ib iR;rw[if_pos (mK L),if_neg eu]
theorem u5(A:Nat→List Nat)(k i:Nat):dW A (k+1) i=dW A k i++(if i∈hF A k then[k] else[]):=by unfold dW;rw[List.range_succ,List.filter_append];congr 1;by_cases h:i∈hF A k<;> simp [h,List.elem_eq_mem]
theorem pj(A:Nat→List Nat)(n i:Nat):(dW A n i).length≤n:=by have:=List.length_filter_le (fun k=>(hF A k).elem i) (List.range n);rw[List.length_range] at this;exact this
variable(l:List az)(g:e0)(b2:∀a,g≠.cP a)(g5:f9 l=0)(i:Nat)
include b2 g5
theorem MG(s:ah):aB aF G X 40 [bc l g,eB i] s=.ok (iR (dW (a9 l) l.length i)) s:=by
 have aG:=jR g5;have ai:∀d,af.ao d (bc l g)=bc l g:=fun d=>hE l b2 d
 have loop:∀m k:Nat,k+m=l.length→∀(S:ah) (r:Nat) (ge:e0),Child s S→S.own[r]? =some (.cells [.bx 1 ((dW (a9 l) k i).map eB) ge])→x1 S ge (dW (a9 l) k i).length→
   vF (aQ aF G X) (bc l g) (.bk [eB i]) (.ref (.l r) 0) (eB l.length) (eB k) S=.ok (iR (dW (a9 l) l.length i)) s:=by
  intro m
  induction m with
  |zero=>
   intro k cK S r ge J a0 U;have e:k=l.length:=by omega
   subst e;have aj:=fun(K:bd)=>ga (T:=aF) (G:=G) (X:=X) (k:=K) a0 (o:=0) (c:=_) rfl
   rw[xE,bl,b0 (by omega),eg,Hx,aj];exact fT J _ _ (IN U)
  |succ m ak=>
   intro k cK S r ge J a0 U;have al:k<l.length:=by omega
   have aH:=pj (a9 l) k i;have am:=(dy.1 a0).1;have an:=fun(S:ah) (K:bd)=>ij (T:=aF) (G:=G) (X:=X) (s:=S) (k:=K) k (by omega)
   obtain⟨h,M⟩:∃h:ah,h= {S with own:=(S.own++[b4.cells [I 0]]).set S.own.length (b4.cells ([I 0].set 0 (eB k)))}:=⟨_,rfl⟩;have gE:=fun(K:bd)=>io (T:=aF) (G:=G) (X:=X) (k:=K) (S:=S.new (.cells [I 0])) (j:=S.own.length) (o:=0) (cs:=[I 0]) (v:=eB k) (by simp [ah.new]) (by simp) rfl rfl rfl
   have ap:∀K:bd,(aQ aF G X).bm (S.new (.cells [I 0])) K 1 (.ref (.l S.own.length) 0) (eB k)=K .dead h:=fun K=>by rw[M];exact gE K
   have V:h.own=S.own++[.cells [eB k]]:=by rw[M];simp
   have au:h.aa=S.aa:=by rw[M];rfl
   have Y:Child s h:=by rw[M];exact⟨J.up,J.ro⟩
   have Z:h.own[r]? =some (.cells [.bx 1 ((dW (a9 l) k i).map eB) ge]):=by rw[V,fB am];exact a0
   have av:h.own[S.own.length]? =some (.cells [eB k]):=by rw[V];simp
   have ac:x1 h ge (dW (a9 l) k i).length:=by
    rcases U with⟨dn,A⟩|⟨t,dn,A,N⟩
    ·exact .inl ⟨dn,A⟩
    ·refine .inr ⟨t,by rw[au];exact dn,A,?_⟩;rw[V,fB (dy.1 N).1];exact N
   have ad:=fun(K:bd)=>ga (T:=aF) (G:=G) (X:=X) (k:=K) av (o:=0) (c:=_) rfl
   have ax:=fun(K:bd)=>ga (T:=aF) (G:=G) (X:=X) (k:=K) Z (o:=0) (c:=_) rfl
   obtain⟨g',F,t,ar,aw,bS,dB,ay⟩:=IC (T:=aF) (G:=G) (X:=X) (S:=h) (es:=(dW (a9 l) k i).map eB) (new:=[eB k]) (g:=ge) (g2:=.exact) (q:=1) (bytes:=8) (by simpa using ac) (by simp) (by simp;omega) rfl;have ab:F[r]? =some (.cells [.bx 1 ((dW (a9 l) k i).map eB) ge]):=ay r _ Z (fun n e=>by cases e);obtain⟨B,H⟩:∃B:ah,B= {h with own:=F.set r (.cells ([.bx 1 ((dW (a9 l) k i).map eB) ge].set 0 (.bx 1 ((dW (a9 l) k i).map eB++[eB k]) (g'.ao h.aa))))}:=⟨_,rfl⟩;have az:=fun(K:bd)=>io (T:=aF) (G:=G) (X:=X) (k:=K) (S:={h with own:=F}) ab (o:=0) (v:=.bx 1 ((dW (a9 l) k i).map eB++[eB k]) (g'.ao h.aa)) (by simp) rfl rfl rfl
   have aC:∀k1,B6 G X i r S.own.length (eB i) h k1=k1 (.exit 1) B:=fun k1=>by
    have aD:=fun(c:Int) (K:bd)=>bg (T:=aF) (G:=G) (X:=X) (s:=h) (k:=K) (I c) []
    have fo:=fun(K:bd)=>xP G X (S:=h) (k:=K) [(k:Int)]
    show(aQ aF G X).aq h _ none (.bk [I (i:Int)])=_;rw[aD,bO,dR rfl,ek,ax,ad];refine(fo _).trans ?_;refine(ar _).trans ?_;rw[H];exact az _
   have ae:∀y,Child s y→∀O,y.own[r]? =some (.cells [.bx 1 ((dW (a9 l) (k+1) i).map eB) O])→x1 y O (dW (a9 l) (k+1) i).length→vE (aQ aF G X) (bc l g) (.bk [eB i]) (.ref (.l r) 0) (eB l.length) (eB k) y=.ok (iR (dW (a9 l) l.length i)) s:=fun y dn O A N=>by rw[Hw,an];exact ak (k+1) (by omega) y r O dn A N
   rw[xE,bl,dR (by omega),ek,Hz,cG,aA];refine(ap _).trans ?_;rw[ad,ai,aA,aZ (ME G X l g b2 _ _),Hy,Fy G X b2 g5 al];refine(yg G X i r S.own.length h h B k (bc l g) (fun _ _=>rfl) aC _ _).trans ?_;by_cases hm:i∈hF (a9 l) k
   ·rw[if_pos hm,tT];have u:=u5 (a9 l) k i;rw[if_pos hm] at u;refine ae B (by rw[H];exact⟨Y.up,Y.ro⟩) (g'.ao h.aa) ?_ ?_
    ·rw[H,u,List.map_append];simp [(dy.1 ab).1]
    ·refine .inr ⟨t,by rw[aw,H];rfl,by rw[u];simp,?_⟩;rw[H];show(F.set r _)[t]? =_;have aE:r≠t:=fun e=>by subst e;rw[ab] at bS;cases bS
     rw[ix aE,bS,u];simp
   ·rw[if_neg hm,vg];have u:=u5 (a9 l) k i;rw[if_neg hm,n1] at u;refine ae h Y ge (by rw[u];exact Z) (by rw[u];exact ac)
 rw[NJ,aad,aK,cG,aI,d0];exact loop l.length 0 (by omega) (s.ag.new (.cells [.bx 1 [] .nil])) s.ag.own.length .nil ((Child.ag s).new _) (by simp [ah.new,dW]) (.inl ⟨rfl,rfl⟩)
variable(c0:∀o,o∈l→lc o)(bZ:i<l.length)
include c0 bZ
theorem aaZ(s:ah):aB aF G X 13 [bc l g,eB i] s=.ok (.ed [iR (dW (a9 l) l.length i),I 0]) s:=by
 have u:=jR g5;have sC:=BX G X l g b2 (by omega) c0 (i:Int) s.ag;have ml:l6 l (i:Int)=0:=by unfold l6;rw[if_neg (by simp [g5]),if_neg (by omega)]
 rw[ml] at sC;have h:∀d,af.ao d (bc l g)=bc l g:=fun d=>hE l b2 d
 have r:Ab.freeze s.ag (iR (dW (a9 l) l.length i))=some (iR (dW (a9 l) l.length i)):=mU (fun a=>by split<;> intro e<;> cases e) _ _ _;rw[NO,aai,h,aA,aZ sC,cf,b0 (by simp),eg,HH,h,aA,aZ (MG G X l g b2 g5 i _)];exact k5 (.ag s) _ _ _ _ r rfl
end
theorem FA(L:List Nat)(d:Nat):af.ao d (iR L)=iR L:=by unfold iR;split<;> rfl
section
variable(G:Nat→af)(X:Nat→List af→ah→ai)
theorem Ub(L:List Nat)(n:Nat)(s:ah)(e:L.length≤1000):aB aF G X 12 [iR L,eB n] s=.ok (.bool (decide (n∈L))) s:=aaY G X L _ n s (by omega)
theorem kC{S:ah}{K:bd}(L:List Nat):(aQ aF G X).cg S K false (iR L)=K (eB L.length) S:=by unfold iR;rw[aI,d0]
theorem kD{S:ah}{K:bd}(L:List Nat)(i x:Nat)(h:L[i]? =some x):(aQ aF G X).bV S K 1 (iR L) (eB i)=K (.bk [eB x]) S:=by unfold iR;rw[lC (T:=aF) (G:=G) (X:=X) (s:=S) (k:=K) 1 _ _ .i64 i (eB x) (by rw[gb,h];rfl)];rfl
theorem rJ{S:ah}{K:bd}(a:af):(aQ aF G X).aq S K none (.bk [a])=K a S:=bg a []
variable(l:List az)(g:e0)(b2:∀a,g≠.cP a)(g5:f9 l=0)(bU:l.length≤12)(c0:∀o,o∈l→lc o)(s:ah)
theorem IP(A:Nat→List Nat)(i:Nat):(h2 A i).length≤i:=by have:=x7 A i;unfold h2;rw[List.length_reverse];exact this
include b2 g5 bU c0
end
def yh(a b:fV):af:=.agg [.bool a.neg,a.v,.bool b.neg,b.v]
theorem ra{a b:fV}(e:kA a)(h:kA b):(yh a b).bb=true:=by simp -implicitDefEqProofs only[yh,af.bb,af.aX,fV.v,jN e.g,jN h.g,bz]
theorem Oe(l:List Int):af.aX (l.map I)=true:=by
 induction l with
 |nil=>rfl
 |cons a l e=>show(true&&af.aX (l.map I))=true;rw[e];rfl
section
variable(G:Nat→af)(X:Nat→List af→ah→ai)
theorem qo{S:ah}{k:bd}{a:Ab.Loc}{eG:IntKind}(t n:Nat)(h:t<n):(aQ aF G X).h5 S k 1 n (.ref a 0) (.int eG (t:Int))=k (.ref a t) S:=by show hG (gM G (aB aF G X) bR) S k 1 n (.ref a 0) (.int eG (t:Int))=_;unfold hG;simp -implicitDefEqProofs only[gW,show Nat.blt t n=true from by simp [Nat.blt_eq,h],bD,Nat.mul_one,bh];rfl
theorem z7{S:ah}{k:bd}{j o n:Nat}{cs vs:List af}(h:S.own[j]? =some (.cells cs))(e:o+n≤cs.length)(cZ:vs.length=n)(bX:vs.all af.en=true):(aQ aF G X).bm S k n (.ref (.l j) o) (.agg vs)=k .dead {S with own:=S.own.set j (.cells (dE cs o vs))}:=by rw[jZ];unfold fh;simp -implicitDefEqProofs only[af.e9,af.cells,cZ,e7,bz,bD];unfold h9;have dn:S.get (.l j)=some (.cells cs):=h;rw[dn];simp -implicitDefEqProofs only[cZ,show Nat.ble (o+n) cs.length=true from ec e,show S.gL (.l j) vs=true from by simp [ah.gL,ah.oN],bX,bz,bD];rfl
theorem Uc{S:ah}{es new:List af}{g g2:e0}{q bytes:Nat}(b2:fj S g es.length)(cZ:new≠[])(r:(es.length+new.length)*bytes≤1099511627776)(a0:(new.flatMap af.cells).all af.en=true)(u:∀a,g2≠.cP a):
  ∃g' S',fj S' g' (es.length+new.length)∧g'≠.nil∧(g≠.nil→g'=g)∧(g=.nil→g'=.cP (.l S.own.length))∧Grown S S' g∧∀k:bd,(aQ aF G X).fm S k q bytes (some (.l 0)) (.bx q es g) (.bx q new g2)=k (.bx q (es++new) g') S':=by
 have el:dw S (.bx q new g2)=some (q,new):=by cases g2<;> first|rfl |exact absurd rfl (u _)
 have mc:Nat.ble ((es.length+new.length)*bytes) 1099511627776=true:=ec r;cases new with
 |nil=>exact absurd rfl cZ
 |cons c cs=>
  rcases b2.inv with⟨rfl,y⟩|⟨j,rfl,lh,h⟩
  ·refine⟨.cP (.l S.own.length),S.new (.tok (es.length+(c::cs).length)),.cP _ _ (by simp;omega) (by simp [ah.new]),by simp,fun h=>absurd rfl h,fun _=>rfl,⟨rfl,rfl,by simp [ah.new],fun j o h _=>?_⟩,fun k=>?_⟩
   ·simp -implicitDefEqProofs only[ah.new];rw[fB (dy.1 h).1];exact h
   ·rw[lD];unfold fN;simp -implicitDefEqProofs only;unfold hd;rw[el];simp -implicitDefEqProofs only[e7,ey,mc,bD,ah.gU];rfl
  ·have e:S.get (.l j)=some (.tok es.length):=h;refine⟨.cP (.l j),{S with own:=S.own.set j (.tok (es.length+(c::cs).length))},.cP _ _ (by simp;omega) (by simp [(dy.1 h).1]),by simp,fun _=>rfl,fun h=>(by simp at h),⟨rfl,rfl,by simp,fun i o bZ eu=>?_⟩,fun k=>?_⟩
   ·have:j≠i:=fun e=>eu (by rw[e])
    simp -implicitDefEqProofs only;rw[ix this];exact bZ
   ·rw[lD];unfold fN;simp -implicitDefEqProofs only;unfold hd;rw[el];simp -implicitDefEqProofs only[e7,ey,mc,bD,e,a0,bz];show(match S.set (.l j) (.tok (es.length+(c::cs).length)) with |some s=>k (.bx q (es++c::cs) (.cP (.l j))) s|none=>.fail)=_;simp -implicitDefEqProofs only[ah.set]
theorem qE{S:ah}{k:bd}{j o n:Nat}{cs:List af}(h:S.own[j]? =some (.cells cs))(cZ:o+n≤cs.length):(aQ aF G X).aq S k (some n) (.ref (.l j) o)=k (.agg ((cs.drop o).take n)) S:=by rw[hh];have e:S.get (.l j)=some (.cells cs):=h;simp only[dZ,e,e3];rw[show Nat.ble n (cs.drop o).length=true from ec (by rw[List.length_drop];omega)];rfl
def z8(d t:Nat)(y:az):af:=.agg [.str y.name,I y.op,.cH (.g d t) 0 y.args.length y.args.length 1,.bool y.g6.neg,y.g6.v,.bool y.bP.neg,y.bP.v,.bool y.lF.neg,y.lF.v,.bool y.lb.neg,y.lb.v,I y.nB]
def hy(own:List b4)(d:Nat):List af→List az→Prop
 |[],[]=>True
 |e::E,y::L=>(∃t,e=z8 d t y∧own[t]? =some (.cells (y.args.map I))∧y.args.length≤3)∧hy own d E L
 |_,_=>False
theorem hy.len{own:List b4}{d:Nat}:∀{E:List af} {L:List az},hy own d E L→E.length=L.length
 |[],[],_=>rfl
 |_::_,_::_,h=>by simp only[bT,hy.len h.2]
 |[],_::_,h=>h.elim
 |_::_,[],h=>h.elim
theorem hy.mono{own e:List b4}{d:Nat}(hm:∀(j:Nat) (cs:List af),cs.length≤3→own[j]? =some (b4.cells cs)→e[j]? =some (b4.cells cs)):∀{E:List af} {L:List az},hy own d E L→hy e d E L
 |[],[],_=>trivial
 |_::_,_::_,⟨⟨t,ar,aw,dB⟩,bS⟩=>⟨⟨t,ar,hm _ _ (by rw[d0];exact dB) aw,dB⟩,hy.mono hm bS⟩
 |[],_::_,h=>h.elim
 |_::_,[],h=>h.elim
theorem hy.snoc{own:List b4}{d t:Nat}{y:az}(eo:own[t]? =some (.cells (y.args.map I)))(bS:y.args.length≤3):∀{E:List af} {L:List az},hy own d E L→hy own d (E++[z8 d t y]) (L++[y])
 |[],[],_=>⟨⟨t,rfl,eo,bS⟩,trivial⟩
 |_::_,_::_,h=>⟨h.1,hy.snoc eo bS h.2⟩
 |[],_::_,h=>h.elim
 |_::_,[],h=>h.elim
theorem Ud{S:ah}{es:List af}{g:e0}{cs:List af}(b2:fj S g es.length)(r:af.j4 S.aa [.agg cs]=true)(bU:cs.length=12)(a0:cs.all af.en=true)(H:es.length≤100):
  ∃g' F,(∀k:bd,(aQ aF G X).jJ S (fun v s=>(aQ aF G X).o4 s k 12 184 (some (.l 0)) (.bx 12 es g) v) 12 [.agg cs]=k (.bx 12 (es++[.agg cs]) g') {S with own:=F})∧fj {S with own:=F} g' (es.length+1)∧S.own.length≤F.length∧
   (∀(j:Nat) (o:b4),S.own[j]? =some o→g≠e0.cP (.l j)→F[j]? =some o)∧(g≠.nil→g'=g)∧(g=.nil→∃t,g'=.cP (.l t)∧S.own.length≤t):=by
 have u:∀k:bd,(aQ aF G X).jJ S k 12 [.agg cs]=k (.bx 12 [.agg cs] (.cP (.l S.own.length))) (S.new (.tok 1)):=fun k=>by show il (gM G (aB aF G X) bR) S k 12 [.agg cs]=_;unfold il;rw[r];simp -implicitDefEqProofs only[List.all_cons,List.all_nil,af.e9,af.cells,bU,e7,bz,bD];rfl
 have bA:([af.agg cs].flatMap af.cells).all af.en=true:=by show(cs++[]).all af.en=true;rw[n1];exact a0
 have y:∀t:Nat,rf (S.new (.tok 1)) (.l t) [.agg cs]=true:=fun t=>r
 rcases b2.inv with⟨rfl,eO⟩|⟨t,rfl,ar,aw⟩
 ·refine⟨.cP (.l (S.own.length+1)),S.own++[.tok 1]++[.tok 1],fun k=>?_,?_,by simp,fun j o cL _=>?_,fun h=>absurd rfl h,fun _=>⟨_,rfl,by omega⟩⟩
  ·have e:es=[]:=jj eO;subst e;rw[u];show h3 (gM G (aB aF G X) bR) _ k 12 184 (.l 0) (.bx 12 [] .nil) (.bx 12 [.agg cs] (.cP (.l S.own.length)))=_;unfold h3;simp -implicitDefEqProofs only[y]
   have:(S.new (.tok 1)).own.length=S.own.length+1:=by simp [ah.new]
   simp -implicitDefEqProofs only[ah.gU,this];rfl
  ·rw[eO];exact .cP _ 1 (by omega) (by simp)
  ·have:=(dy.1 cL).1;rw[ll,fB this];exact cL
 ·have A:=(dy.1 aw).1;refine⟨.cP (.l t),(S.own++[b4.tok 1]).set t (b4.tok (es.length+1)),fun k=>?_,?_,by simp,fun j o cL eu=>?_,fun _=>rfl,fun h=>by cases h⟩
  ·rw[u];show h3 (gM G (aB aF G X) bR) _ k 12 184 (.l 0) (.bx 12 es (.cP (.l t))) (.bx 12 [.agg cs] (.cP (.l S.own.length)))=_;unfold h3;have dn:(S.new (.tok 1)).get (.l t)=some (.tok es.length):=by
    show(S.own++[b4.tok 1])[t]? =_;rw[fB A];exact aw
   have wj:Nat.ble ((es.length+[af.agg cs].length)*184) 1099511627776=true:=ec (by simp;omega);simp -implicitDefEqProofs only[y,dn,e7,ey,wj,bA,bz,bD];rfl
  ·refine .cP t _ (by omega) ?_;show((S.own++[b4.tok 1]).set t _)[t]? =_;rw[List.getElem?_set_self (by simp;omega)]
  ·have:=(dy.1 cL).1;have B:t≠j:=fun e=>eu (by rw[e])
   rw[ix B,fB this];exact cL
theorem FB{S:ah}{t:Nat}{y:az}(h:S.own[t]? =some (.cells (y.args.map I)))(ez:lc y)(B:y.qJ=.exact):kk S (z8 S.aa t y)=some y.enc:=by
 have A:=ry (y.args.map I) (fun e he=>by obtain⟨r,_,rfl⟩:=List.mem_map.1 he;rfl);have bU:(y.args.map I).length=y.args.length:=by simp
 rw[bU] at A;have F:fv S (.cH (.g S.aa t) 0 y.args.length y.args.length 1)=some (i6 y.args y.qJ):=by show(if S.aa=S.aa then gp S t 0 y.args.length y.args.length 1 else _)=_;rw[if_pos rfl];unfold gp;simp -implicitDefEqProofs only[h,bY,A,Oe,bU,bh,Nat.mul_one,show Nat.ble y.args.length y.args.length=true from ec (aC _),ey,if_pos rfl,B];rfl
 have u:∀n:fV,kA n→fv S n.v=some n.v:=fun n cZ=>by
  have aV:(n.v).bb=true:=jN cZ.g _ _;obtain⟨neg,g9,g⟩:=n;cases g with
  |cP a=>exact absurd rfl (cZ.g a)
  |nil=>show(if(af.bx 1 (g9.map U) .nil).bb=true then some (af.bx 1 (g9.map U) .nil) else none)=_;exact if_pos aV
  |exact=>show(if(af.bx 1 (g9.map U) .exact).bb=true then some (af.bx 1 (g9.map U) .exact) else none)=_;exact if_pos aV
  |any=>show(if(af.bx 1 (g9.map U) .any).bb=true then some (af.bx 1 (g9.map U) .any) else none)=_;exact if_pos aV
 show(e5 (fv S) _).map af.agg=_;have dn:fv S (.str y.name)=some (.str y.name):=rfl;have H:∀n,fv S (I n)=some (I n):=fun n=>rfl
 have J:∀b,fv S (.bool b)=some (.bool b):=fun b=>rfl
 simp -implicitDefEqProofs only[e5,dn,H,J,F,u _ ez.g6,u _ ez.bP,u _ ez.lF,u _ ez.lb,fp,ep];rfl
theorem tu{S:ah}:∀{E:List af} {L:List az},hy S.own S.aa E L→(∀y∈L,lc y∧y.qJ=.exact)→e5 (kk S) E=some (L.map az.enc)
 |[],[],_,_=>rfl
 |_::_,y::L,⟨⟨t,ar,aw,_⟩,bS⟩,h=>by have dB:=h y List.mem_cons_self;subst ar;show((kk S _).bind fun y=>(e5 (kk S) _).map fun e=>y::e)=_;rw[FB aw dB.1 dB.2,tu bS fun z gA=>h z (List.mem_cons_of_mem _ gA)];rfl
 |[],_::_,h,_=>h.elim
 |_::_,[],h,_=>h.elim
theorem rb:∀{L:List az},(∀y∈L,lc y)→af.aX (L.map az.enc)=true
 |[],_=>rfl
 |y::L,h=>by show(y.enc.bb&&af.aX (L.map az.enc))=true;rw[(h y List.mem_cons_self).bb,rb fun z gA=>h z (List.mem_cons_of_mem _ gA)];rfl
theorem IQ{own:List b4}{d:Nat}:∀{E:List af} {L:List az},hy own d E L→L≠[]→af.aX E=false
 |[],[],_,h=>absurd rfl h
 |_::_,y::L,⟨⟨t,ar,_,_⟩,_⟩,_=>by subst ar;rfl
 |[],_::_,h,_=>h.elim
 |_::_,[],h,_=>h.elim
def la(L:List az):af:=bc L (if L=[] then .nil else .any)
theorem zb{S:ah}{E:List af}{L:List az}{g:e0}(h:hy S.own S.aa E L)(r:∀y∈L,lc y∧y.qJ=.exact)(b2:fj S g E.length):Ab.freeze S (.bx 12 E g)=some (la L):=by
 rcases b2.inv with⟨rfl,eO⟩|⟨t,rfl,ar,aw⟩
 ·have e:E=[]:=jj eO;subst e;cases L with
  |nil=>rfl
  |cons y L=>exact h.elim
 ·have eu:L≠[]:=fun e=>by subst e;have:=h.len;simp only[ca] at this;omega
  show ib S 12 E=_;unfold ib;rw[IQ h eu,tu h r];simp -implicitDefEqProofs only[b5,if_false,fp];rw[rb fun y ez=>(r y ez).1];unfold la;rw[if_neg eu];rfl
end
theorem Of(A:List af)(k:Nat)(z v:af):(A++List.replicate (k+1) z).set A.length v=A++[v]++List.replicate k z:=by rw[List.set_append_right _ _ (aC _),Nat.sub_self,List.replicate_succ,List.set_cons_zero];simp
theorem tv(n:fV)(cZ:kA n)(d:Nat):af.low d n.v=true:=by
 obtain⟨neg,g9,g⟩:=n;cases g with
 |cP a=>exact absurd rfl (cZ.g a)
 |nil=>rfl
 |exact=>rfl
 |any=>rfl
def yi(d t:Nat)(y:az):List af:=[.str y.name,I y.op,.cH (.g d t) 0 y.args.length y.args.length 1,.bool y.g6.neg,y.g6.v,.bool y.bP.neg,y.bP.v,.bool y.lF.neg,y.lF.v,.bool y.lb.neg,y.lb.v,I y.nB]
theorem Ue{d t:Nat}{y:az}(ez:lc y):af.j4 d [.agg (yi d t y)]=true:=by have e:Nat.ble d d=true:=ec (aC _);show((true&&(true&&(Nat.ble d d&&(true&&(af.low d y.g6.v&&(true&&(af.low d y.bP.v&&(true&&(af.low d y.lF.v&&(true&&(af.low d y.lb.v&&(true&&true))))))))))))&&true)=true;rw[e,tv _ ez.g6,tv _ ez.bP,tv _ ez.lF,tv _ ez.lb];rfl
section
variable(G:Nat→af)(X:Nat→List af→ah→ai)
variable(FH v11 NS aaD ahM aa0 NU aa1:af)
theorem FC{S:ah}{iS jm:Nat}{N:List af}(as:List Nat)(qJ:e0)(e:Nat→Nat)(A:S.own[iS]? =some (.cells N))(nz:∀a∈as,a<40∧N[a]? =some (eB (e a)))(eu:jm≠iS)(B:jm<S.own.length)(Z:as.length<1000):
  ∀m q,q+m=as.length→
  s9 (aQ aF G X) FH v11 NS (.ref (.l iS) 0) aaD ahM (.cH (.l jm) 0 as.length as.length 1) aa0 NU aa1 (.bx 1 (as.map eB) qJ) (eB as.length) (eB q) {S with own:=S.own.set jm (.cells ((as.take q).map (fun a=>eB (e a))++List.replicate m (I 0)))} =
   s8 (aQ aF G X) FH v11 NS (.ref (.l iS) 0) aaD ahM (.cH (.l jm) 0 as.length as.length 1) aa0 NU aa1 {S with own:=S.own.set jm (.cells (as.map fun a=>eB (e a)))}:=by
 intro m
 induction m with
 |zero=>intro q fz;rw[uV,bl,b0 (by omega),eg,iV (by omega),List.replicate_zero,n1]
 |succ m F=>
  intro q fz;have r:q<as.length:=by omega
  have eq:(as.map eB)[q]? =some (eB as[q]):=by simp [r]
  obtain⟨H,J⟩:=nz _ (mW r);obtain⟨h,u⟩:∃h:ah,h= {S with own:=S.own.set jm (b4.cells ((as.take q).map (fun a=>eB (e a))++List.replicate (m+1) (I 0)))}:=⟨_,rfl⟩;have M:=fun(K:bd)=>lC (T:=aF) (G:=G) (X:=X) (s:=h) (k:=K) 1 _ qJ .i64 q _ eq
  have O:h.own[iS]? =some (.cells N):=by rw[u];show(S.own.set jm _)[iS]? =_;rw[ix eu];exact A
  have em:h.own[jm]? =some (.cells ((as.take q).map (fun a=>eB (e a))++List.replicate (m+1) (I 0))):=by rw[u];simp [B]
  have y:((as.take q).map (fun a=>eB (e a))).length=q:=by simp;omega
  have hlen:0+q*1<((as.take q).map (fun a=>eB (e a))++List.replicate (m+1) (I 0)).length:=by rw[fW,y,List.length_replicate];omega
  have gE:=fun(K:bd)=>io (T:=aF) (G:=G) (X:=X) (k:=K) em hlen (v:=eB (e as[q])) rfl rfl rfl
  have U:((as.take q).map (fun a=>eB (e a))++List.replicate (m+1) (I 0)).set (0+q*1) (eB (e as[q]))=(as.take (q+1)).map (fun a=>eB (e a))++List.replicate m (I 0):=by have:=Of ((as.take q).map (fun a=>eB (e a))) m (I 0) (eB (e as[q]));rw[y] at this;rw[Nat.mul_one,bh,this,nv as r,List.map_append];rfl
  have V:=fun(S:ah) (K:bd)=>ij (T:=aF) (G:=G) (X:=X) (s:=S) (k:=K) q (by omega)
  have Y:({h with own:=h.own.set jm (.cells (((as.take q).map (fun a=>eB (e a))++List.replicate (m+1) (I 0)).set (0+q*1) (eB (e as[q]))))}:ah)= {S with own:=S.own.set jm (.cells ((as.take (q+1)).map (fun a=>eB (e a))++List.replicate m (I 0)))}:=by rw[U,u];simp [List.set_set]
  rw[Y] at gE;rw[←u,uV,bl,dR (by omega),ek,EJ,M,show af.cells (eB as[q])=[eB as[q]] from rfl,rJ,qo G X _ _ H,ga O J,gY _ _ _ _ _ _ _ r,aA];refine(gE _).trans ?_;rw[EI,V];exact F (q+1) (by omega)
theorem FD{s S:ah}(ag:Child s S){pC jm iS k:Nat}{E:List af}{K:List Nat}{nw ka:e0}(x:az)(A:Nat→List Nat)(i:Nat)(a1:lc x)(Z:Fh x)(V:S.own[pC]? =some (.cells x.cs))(gZ:fj S nw E.length)(g2:fj S ka K.length)
  (On:∀j,ka=.cP (.l j)→nw≠.cP (.l j))(au:E.length≤100)(aW:K.length≤100):
  ∃S' M Y,s8 (aQ aF G X) FH (.bx 12 E nw) (.bx 1 (K.map eB) ka) (.ref (.l iS) 0) (eB k) (.ref (.l pC) 0) (.cH (.l jm) 0 x.args.length x.args.length 1) aa0 NU aa1 S =
    s7 (aQ aF G X) FH (.bx 12 (E++[z8 S.aa jm (eT A i x)]) M) (.bx 1 ((K++[k]).map eB) Y) (.ref (.l iS) 0) aa0 NU aa1 S'∧
   Child s S'∧(∀(j:Nat) (cs:List af),S.own[j]? =some (b4.cells cs)→j≠pC→S'.own[j]? =some (b4.cells cs))∧fj S' M (E.length+1)∧fj S' Y (K.length+1)∧(∀j,Y=.cP (.l j)→M≠.cP (.l j)):=by
 have ai:=(dy.1 V).1;have av:=fun(S:ah) (K:bd)=>l3 (T:=aF) (G:=G) (X:=X) (s:=S) (k:=K) (args:=[yh x.g6 x.bP]) (by simp -implicitDefEqProofs only[af.aX,ra a1.g6 a1.bP];rfl) (Mz G X x.g6 x.bP a1.g6 a1.bP Z.g6 Z.bP _) (ra (fs a1.g6) (fs a1.bP))
 have ax:=fun(S:ah)=>Mz G X x.lF x.lb a1.lF a1.lb Z.lF Z.lb S
 have aA:=fun(K:bd)=>qE G X (S:=S) (k:=K) (o:=3) (n:=4) V (show 3+4≤12 by omega)
 have aB:=fun(K:bd)=>qE G X (S:=S) (k:=K) (o:=7) (n:=4) V (show 7+4≤12 by omega)
 have aj:(eT A i x).args.length=x.args.length:=by simp [eT]
 obtain⟨I,N⟩:∃I:ah,I= {S with own:=S.own.set pC (b4.cells (x.cs.set 2 (.cH (.g S.aa jm) 0 x.args.length x.args.length 1)))}:=⟨_,rfl⟩;have aD:∀K:bd,(aQ aF G X).bm S K 1 (.ref (.l pC) 2) (.cH (.g S.aa jm) 0 x.args.length x.args.length 1)=K .dead I:=fun K=>by rw[N];exact io V (show 2<12 by omega) rfl rfl rfl
 have dn:I.own[pC]? =some (.cells (x.cs.set 2 (.cH (.g S.aa jm) 0 x.args.length x.args.length 1))):=by rw[N];simp [ai]
 obtain⟨J,O⟩:∃J:ah,J= {I with own:=I.own.set pC (b4.cells (dE (x.cs.set 2 (.cH (.g S.aa jm) 0 x.args.length x.args.length 1)) 3 [.bool x.g6.neg,(cY x.g6).v,.bool x.bP.neg,(cY x.bP).v]))}:=⟨_,rfl⟩;have aE:∀K:bd,(aQ aF G X).bm I K 4 (.ref (.l pC) 3) (yh (cY x.g6) (cY x.bP))=K .dead J:=fun K=>by rw[O];exact z7 G X dn (show 3+4≤12 by omega) rfl rfl
 have r:J.own[pC]? =some (.cells (dE (x.cs.set 2 (.cH (.g S.aa jm) 0 x.args.length x.args.length 1)) 3 [.bool x.g6.neg,(cY x.g6).v,.bool x.bP.neg,(cY x.bP).v])):=by
  rw[O]
  have:pC<I.own.length:=(dy.1 dn).1;simp [this]
 obtain⟨y,ab⟩:∃y:ah,y= {J with own:=J.own.set pC (b4.cells (yi S.aa jm (eT A i x)))}:=⟨_,rfl⟩;have aG:∀K:bd,(aQ aF G X).bm J K 4 (.ref (.l pC) 7) (yh (cY x.lF) (cY x.lb))=K .dead y:=fun K=>by
  have a0:yi S.aa jm (eT A i x)=dE (dE (x.cs.set 2 (.cH (.g S.aa jm) 0 x.args.length x.args.length 1)) 3 [.bool x.g6.neg,(cY x.g6).v,.bool x.bP.neg,(cY x.bP).v]) 7 [.bool x.lF.neg,(cY x.lF).v,.bool x.lb.neg,(cY x.lb).v]:=by unfold yi;rw[aj];rfl
  rw[ab,a0];exact z7 G X r (show 7+4≤12 by omega) rfl rfl
 have ak:y.own=S.own.set pC (.cells (yi S.aa jm (eT A i x))):=by rw[ab,O,N];simp [List.set_set]
 have d3:y.aa=S.aa:=by rw[ab,O,N];rfl
 have d1:I.aa=S.aa:=by rw[N];rfl
 have d2:J.aa=S.aa:=by rw[O,N];rfl
 have al:Child s y:=by rw[ab,O,N];exact⟨ag.up,ag.ro⟩
 have aH:y.own[pC]? =some (.cells (yi S.aa jm (eT A i x))):=by rw[ak];simp [ai]
 have aI:∀K:bd,(aQ aF G X).aq y K (some 12) (.ref (.l pC) 0)=K (z8 S.aa jm (eT A i x)) y:=fun K=>zW G X aH (aC 12)
 have ad:∀(j:Nat) (o:b4),S.own[j]? =some o→j≠pC→y.own[j]? =some o:=fun j o cL eu=>by rw[ak,ix (Ne.symm eu)];exact cL
 have ac:∀{g:e0} {n:Nat},fj S g n→fj y g n:=fun {g n} h=>by
  rcases h.inv with⟨rfl,rfl⟩|⟨t,rfl,ar,aw⟩
  ·exact .nil
  ·exact .cP t n ar (ad t _ aw (fun e=>by subst e;rw[V] at aw;cases aw))
 have aJ:lc (eT A i x):=⟨fun a e=>(by cases e),by rw[aj];exact a1.Ol,fs a1.g6,fs a1.bP,fs a1.lF,fs a1.lb⟩;have aK:af.j4 y.aa [.agg (yi S.aa jm (eT A i x))]=true:=by rw[d3];exact Ue aJ
 obtain⟨M,F,aL,am,aY,an,aM,aN⟩:=Ud G X (ac gZ) aK rfl rfl au;obtain⟨H,U⟩:∃H:ah,H= {y with own:=F}:=⟨_,rfl⟩;have ls:Child s H:=by rw[U];exact⟨al.up,al.ro⟩
 have ao:∀j,ka=.cP (.l j)→M≠.cP (.l j):=fun j dn r=>by
  by_cases cZ:nw=.nil
  ·obtain⟨t,ar,aw⟩:=aN cZ;rw[ar] at r;injection r with r;injection r with r
   subst r;rcases(ac g2).inv with⟨bS,_⟩|⟨u,bS,_,B⟩
   ·rw[bS] at dn;cases dn
   ·rw[bS] at dn;injection dn with dn;injection dn with dn
    have:=(dy.1 B).1;omega
  ·rw[aM cZ] at r;exact On j dn r
 have ap:fj H ka K.length:=by
  rw[U];rcases(ac g2).inv with⟨rfl,eO⟩|⟨t,rfl,ar,aw⟩
  ·rw[eO];exact .nil
  ·exact .cP t _ ar (an t _ aw (On t rfl))
 have fo:=fun(K:bd)=>xP G X (S:=H) (k:=K) [(k:Int)]
 have key:∃g' S',fj S' g' (K.length+1)∧g'≠.nil∧(ka≠.nil→g'=ka)∧(ka=.nil→g'=.cP (.l H.own.length))∧Grown H S' ka∧∀pz:bd,(aQ aF G X).fm H pz 1 8 (some (.l 0)) (.bx 1 (K.map eB) ka) (.bx 1 [eB k] .exact)=pz (.bx 1 (K.map eB++[eB k]) g') S':=by obtain⟨g',S',ar,aw,bS,dB,B,aO⟩:=Uc G X (S:=H) (q:=1) (bytes:=8) (es:=K.map eB) (new:=[eB k]) (g:=ka) (g2:=.exact) (by simpa using ap) (by simp) (by simp;omega) rfl (fun a e=>by cases e);exact⟨g',S',by simpa using ar,aw,bS,dB,B,aO⟩
 obtain⟨Y,aP,aR,a2,aS,aT,ae,aU⟩:=key;have aV:∀j,M=.cP (.l j)→ka≠.cP (.l j):=fun j dn r=>ao j r dn
 refine⟨aP,M,Y,?_,ae.child ls,fun j cs cL eu=>?_,?_,aR,fun j dn r=>?_⟩
 ·rw[EK,ay];refine(aA _).trans ?_;show(aQ aF G X).gT S _ 41 [yh x.g6 x.bP]=_;refine(av _ _).trans ?_;rw[ay];refine(aB _).trans ?_;show(aQ aF G X).bj S _ 41 [yh x.lF x.lb]=_;refine(aZ (ax _)).trans ?_;rw[ay];show(aQ aF G X).bm S _ 1 (.ref (.l pC) 2) (.cH (.g S.aa jm) 0 x.args.length x.args.length 1)=_;refine(aD _).trans ?_;rw[ay];refine(aE _).trans ?_;rw[ay];refine(aG _).trans ?_;refine(aI _).trans ?_;refine(aL _).trans ?_;rw[←U];refine(fo _).trans ?_;refine(aU _).trans ?_;rw[List.map_append];rfl
 ·have dB:H.own[j]? =some (.cells cs):=by
   rw[U];exact an j _ (ad j _ cL eu) (fun e=>by
    rcases(ac gZ).inv with⟨bS,_⟩|⟨u,bS,_,B⟩
    ·rw[bS] at e;cases e
    ·rw[bS] at e;injection e with e;injection e with e
     subst e;rw[ad u _ cL eu] at B;cases B)
  refine ae.own j _ dB (fun e=>?_);rcases ap.inv with⟨bS,_⟩|⟨u,bS,_,B⟩
  ·rw[bS] at e;cases e
  ·rw[bS] at e;injection e with e;injection e with e
   subst e;rw[dB] at B;cases B
 ·refine ae.grow (by rw[U];exact am) aV
 ·by_cases cZ:ka=.nil
  ·rw[aT cZ] at dn;injection dn with dn;injection dn with dn
   subst dn;rcases am.inv with⟨_,eO⟩|⟨u,bS,_,B⟩
   ·omega
   ·rw[bS] at r;injection r with r;injection r with r
    subst r
    have:=(dy.1 B).1;rw[U] at this;exact absurd this (Nat.lt_irrefl _)
  ·rw[aS cZ] at dn;exact ao j dn r
end
structure af9 (l:List az) (i:Nat) (s S:ah) (k qy iS:Nat) (E:List af) (nw ka:e0):Prop where
 c:Child s S
 ahS:∃M:List af,S.own[qy]? =some (.cells M)∧∀a,a<l.length→M[a]? =some (.bool (fI (a9 l) i a))
 aa2:∃N:List af,S.own[iS]? =some (.cells N)∧N.length=40∧∀a,a<k→fI (a9 l) i a=false→N[a]? =some (eB (eY (a9 l) i a))
 rows:hy S.own S.aa E (eK l i k)
 gZ:fj S nw E.length
 g2:fj S ka (eV (a9 l) i k).length
 On:∀j,ka=.cP (.l j)→nw≠.cP (.l j)
 ne:qy≠iS
theorem af9.new{l:List az}{i:Nat}{s S:ah}{k qy iS:Nat}{E:List af}{nw ka:e0}(h:af9 l i s S k qy iS E nw ka)(o:b4):af9 l i s (S.new o) k qy iS E nw ka:=by
 have up:∀(j:Nat) (x:b4),S.own[j]? =some x→(S.new o).own[j]? =some x:=fun j x a1=>by show(S.own++[o])[j]? =_;rw[fB (dy.1 a1).1];exact a1
 obtain⟨M,ar,aw⟩:=h.ahS;obtain⟨N,bS,dB,e⟩:=h.aa2;exact⟨h.c.new _,⟨M,up _ _ ar,aw⟩,⟨N,up _ _ bS,dB,e⟩,hy.mono (fun j cs _ cL=>up j _ cL) h.rows,h.gZ.new _,h.g2.new _,h.On,h.ne⟩
theorem Og(L:List Nat):gI (L.map eB)=if L=[] then e0.nil else .any:=by cases L<;> rfl
section
variable(G:Nat→af)(X:Nat→List af→ah→ai)
theorem aa3{s S:ah}(h:Child s S)(v1 v2 e r u y:af)(dn:Ab.freeze S v1=some r)(A:Ab.freeze S v2=some u)(B:Ab.freeze S e=some y):(aQ aF G X).aW false [some v1,some v2,some e] S=.ok (.ed [r,u,y]) s:=by obtain⟨ar,aw⟩:=h;show l1 false [some v1,some v2,some e] S=_;unfold l1;simp -implicitDefEqProofs only[e5,fp,ep,cond_false,dn,A,B,qM,ar,aw]
variable(l:List az)(g:e0)(b2:∀a,g≠.cP a)(g5:f9 l=0)(c0:∀o,o∈l→lc o)(tY:∀o,o∈l→Fh o)(i:Nat)(s:ah)
include g5 c0 tY
theorem IR{S:ah}{k qy iS:Nat}{E:List af}{nw ka:e0}(h:af9 l i s S k qy iS E nw ka)(cK:k<l.length):
  ∃S' ap ad ae,pc (aQ aF G X) (.ref (.l qy) 0) (.bx 12 E nw) (.bx 1 ((eV (a9 l) i k).map eB) ka) (.ref (.l iS) 0) (bc l g) (eB l.length) (eB k) S =
   pc (aQ aF G X) (.ref (.l qy) 0) (.bx 12 ap ad) (.bx 1 ((eV (a9 l) i (k+1)).map eB) ae) (.ref (.l iS) 0) (bc l g) (eB l.length) (eB (k+1)) S'∧af9 l i s S' (k+1) qy iS ap ad ae:=by
 have bf:=jR g5;have a1:l[k]? =some l[k]:=eb cK;have au:l[k]∈l:=mW cK;have hw:=ns g5 a1;have bg:=zX l[k].op;have bh:=hw.len;have aL:=c0 _ au;have aM:=tY _ au;have aN:(l.map az.enc)[k]? =some l[k].enc:=by simp [cK]
 have U:=IH l i k;rw[ts a1] at U;have J:=lK (a9 l) i k;have ak:=ql a1;have aO:=nt g5 k;have aP:l[k].args.map I=(a9 l k).map eB:=by rw[ak,List.map_map];apply List.map_congr_left;intro a F;show I a=I ((a.toNat:Nat):Int);rw[Int.toNat_of_nonneg (hw.arg a F).1]
 have aR:(a9 l k).length=l[k].args.length:=by rw[ak,d0]
 have aS:fI (a9 l) i k=false→∀a∈a9 l k,fI (a9 l) i a=false:=fun b2 a F=>zZ (nt g5) b2 F
 have aT:(eT (a9 l) i l[k]).args.map I=(a9 l k).map fun a=>eB (eY (a9 l) i a):=by rw[ak];show((l[k].args.map Int.toNat).map (fun a=>(eY (a9 l) i a:Int))).map I=_;rw[List.map_map];rfl
 generalize l[k]=x at *;have ip:=fun(K:bd)=>lC (T:=aF) (G:=G) (X:=X) (s:=S) (k:=K) 12 (l.map az.enc) g .i64 k _ aN
 have aU:∀K:bd,(aQ aF G X).aq S K (some 12) (.bk x.enc.cells)=K x.enc S:=fun K=>bn 12 x.cs (aC 12)
 have aV:∀d,af.ao d x.enc=x.enc:=fun d=>rfl
 have av:=fun(S:ah) (K:bd)=>ij (T:=aF) (G:=G) (X:=X) (s:=S) (k:=K) k (by omega)
 have nz:=h.new (.cells x.cs);obtain⟨M,zA,abO⟩:=nz.ahS;have start:∀r,(fI (a9 l) i k=true→s7 (aQ aF G X) (.ref (.l qy) 0) (.bx 12 E nw) (.bx 1 ((eV (a9 l) i k).map eB) ka) (.ref (.l iS) 0) (bc l g) (eB l.length) (eB k) (S.new (.cells x.cs))=r)→
   (fI (a9 l) i k=false→BK (aQ aF G X) (.ref (.l qy) 0) (.bx 12 E nw) (.bx 1 ((eV (a9 l) i k).map eB) ka) (.ref (.l iS) 0) (eB k) (.ref (.l S.own.length) 0) (bc l g) (eB l.length) (eB k) (S.new (.cells x.cs))=r)→
   pc (aQ aF G X) (.ref (.l qy) 0) (.bx 12 E nw) (.bx 1 ((eV (a9 l) i k).map eB) ka) (.ref (.l iS) 0) (bc l g) (eB l.length) (eB k) S=r:=fun r px rk=>by
  rw[xI,bl,dR (by omega),ek,HL,ip,aU,cG,aV,show x.enc=.agg x.cs from rfl,cX 12 x.cs _ rfl rfl rfl,qo G X _ _ (by omega),ga zA (abO k cK)];cases B:fI (a9 l) i k with
  |true=>rw[ek];exact px B
  |false=>rw[eg];exact rk B
 cases B:fI (a9 l) i k with
 |true=>
  rw[B,if_pos rfl,n1] at U J;refine⟨S.new (.cells x.cs),E,nw,ka,?_,⟨nz.c,nz.ahS,?_,by rw[U];exact nz.rows,nz.gZ,by rw[J];exact nz.g2,nz.On,nz.ne⟩⟩
  ·refine start _ (fun _=>?_) (fun e=>by rw[B] at e;cases e);rw[xH,av,J]
  ·obtain⟨N,jk,al,ag⟩:=nz.aa2;refine⟨N,jk,al,fun a F Z=>ag a ?_ Z⟩;by_cases e:a=k
   ·subst e;rw[B] at Z;cases Z
   ·omega
 |false=>
  rw[B] at U J;simp only[b5,if_false] at U J;obtain⟨A,O⟩:∃A:ah,A=S.new (.cells x.cs):=⟨_,rfl⟩;rw[←O] at nz start zA;obtain⟨N,jk,al,ag⟩:=nz.aa2;have aW:E.length=eY (a9 l) i k:=by rw[h.rows.len,mV]
  have ai:=(dy.1 jk).1;have gH:A.own[S.own.length]? =some (.cells x.cs):=by rw[O];simp [ah.new]
  have aX:A.own.length=S.own.length+1:=by rw[O];simp [ah.new]
  have bi:S.own[iS]? =some (.cells N)∨iS=S.own.length:=by
   by_cases e:iS<S.own.length
   ·left;rw[O] at jk;rw[←jk];show _=(S.own++[_])[iS]?;rw[fB e]
   ·right;omega
  obtain⟨bj,TR,bo,_⟩:=h.aa2;have bp:=(dy.1 TR).1;have ax:iS≠S.own.length:=by omega
  obtain⟨u,V⟩:∃u:ah,u= {A with own:=A.own.set iS (b4.cells (N.set k (eB (eY (a9 l) i k))))}:=⟨_,rfl⟩;have aY:∀K:bd,(aQ aF G X).bm A K 1 (.ref (.l iS) k) (eB (eY (a9 l) i k))=K .dead u:=fun K=>by rw[V];exact io jk (by omega) rfl rfl rfl
  have aB:∀(j:Nat) (o:b4),A.own[j]? =some o→j≠iS→u.own[j]? =some o:=fun j o cL eu=>by rw[V];show(A.own.set iS _)[j]? =_;rw[ix (Ne.symm eu)];exact cL
  have am:u.own[S.own.length]? =some (.cells x.cs):=aB _ _ gH (Ne.symm ax);have aD:u.own[iS]? =some (.cells (N.set k (eB (eY (a9 l) i k)))):=by rw[V];simp [ai]
  have aZ:u.own.length=S.own.length+1:=by rw[V];show(A.own.set iS _).length=_;rw[List.length_set,aX]
  obtain⟨y,Y⟩:∃y:ah,y=u.new (.cells (List.replicate x.args.length (I 0))):=⟨_,rfl⟩;have ab:∀(j:Nat) (o:b4),u.own[j]? =some o→y.own[j]? =some o:=fun j o cL=>by rw[Y];show(u.own++[_])[j]? =_;rw[fB (dy.1 cL).1];exact cL
  have bq:y.own.length=S.own.length+2:=by rw[Y];simp [ah.new,aZ]
  have aE:∀(S:ah) (j:Nat),S.own[j]? =some (.cells x.cs)→∀K:bd,(aQ aF G X).aq S K none (.ref (.l j) 2)=K (i6 x.args x.qJ) S:=fun S j cL K=>ga cL rfl
  have a0:y= {y with own:=y.own.set u.own.length (.cells (((a9 l k).take 0).map (fun a=>eB (eY (a9 l) i a))++List.replicate x.args.length (I 0)))}:=by
   have:y.own.set u.own.length (.cells (((a9 l k).take 0).map (fun a=>eB (eY (a9 l) i a))++List.replicate x.args.length (I 0)))=y.own:=by rw[Y];simp [ah.new]
   rw[this]
  have a2:∀a∈a9 l k,a<40∧(N.set k (eB (eY (a9 l) i k)))[a]? =some (eB (eY (a9 l) i a)):=fun a F=>by have a3:=aO a F;refine⟨by omega,?_⟩;rw[ix (by omega)];exact ag a a3 (aS B a F)
  have AV:=FC G X (.ref (.l qy) 0) (.bx 12 E nw) (.bx 1 ((eV (a9 l) i k).map eB) ka) (eB k) (.ref (.l S.own.length) 0) (bc l g) (eB l.length) (eB k) (S:=y) (jm:=u.own.length) (a9 l k) x.qJ (eY (a9 l) i) (ab _ _ aD) a2 (by omega) (by omega) (by omega) x.args.length 0 (by omega);rw[←a0,aR] at AV;obtain⟨H,ac⟩:∃H:ah,H= {y with own:=y.own.set u.own.length (b4.cells ((a9 l k).map fun a=>eB (eY (a9 l) i a)))}:=⟨_,rfl⟩;rw[←ac] at AV;have an:∀(j:Nat) (o:b4),y.own[j]? =some o→j≠u.own.length→H.own[j]? =some o:=fun j o cL eu=>by rw[ac];show(y.own.set _ _)[j]? =_;rw[ix (Ne.symm eu)];exact cL
  have a4:H.own[u.own.length]? =some (.cells ((eT (a9 l) i x).args.map I)):=by
   rw[aT,ac]
   have:u.own.length<y.own.length:=by omega
   simp [this]
  have b3:∀(j:Nat) (o:b4),S.own[j]? =some o→j≠iS→H.own[j]? =some o:=fun j o cL eu=>by have ai:=(dy.1 cL).1;refine an j o (ab j o (aB j o ?_ eu)) (by omega);rw[O];show(S.own++[_])[j]? =_;rw[fB ai];exact cL
  have d4:H.aa=S.aa:=by rw[ac,Y,V,O];rfl
  have ls:Child s H:=by rw[ac,Y,V,O];exact⟨h.c.up,h.c.ro⟩
  have aG:∀{g:e0} {n:Nat},fj S g n→fj H g n:=fun {g n} a5=>by
   rcases a5.inv with⟨rfl,rfl⟩|⟨t,rfl,ar,aw⟩
   ·exact .nil
   ·exact .cP t n ar (b3 t _ aw (fun e=>by subst e;rw[TR] at aw;cases aw))
  have br:=tr (a9 l) i k;obtain⟨aH,ad,ae,aJ,aK,aj,a6,a7,a8⟩:=FD G X (.ref (.l qy) 0) (bc l g) (eB l.length) (eB k) ls (pC:=S.own.length) (jm:=u.own.length) (iS:=iS) (k:=k) (E:=E) (K:=eV (a9 l) i k) x (a9 l) i aL aM (an _ _ (ab _ _ am) (by omega)) (aG h.gZ) (aG h.g2) h.On (by omega) (by show eY _ _ _≤100;omega);rw[d4] at aJ;refine⟨aH,E++[z8 S.aa u.own.length (eT (a9 l) i x)],ad,ae,?_,⟨aK,?_,?_,?_,by rw[fW];exact a6,by rw[J,fW];exact a7,a8,h.ne⟩⟩
  ·refine start _ (fun e=>by rw[B] at e;cases e) (fun _=>?_);rw[HK,aI,aW,qo G X _ _ (by omega),aA];refine(aY _).trans ?_;rw[ay];refine(aE u _ am _).trans ?_;rw[aI,d0];refine(o5 _ _ _ _ (aC _) (by omega)).trans ?_;rw[←Y,ay];refine(aE y _ (ab _ _ am) _).trans ?_;rw[aI,d0,show i6 x.args x.qJ=.bx 1 ((a9 l k).map eB) x.qJ from by rw[←aP]];refine AV.trans ?_;refine aJ.trans ?_;rw[xH,av,J]
  ·obtain⟨ba,k1,pz⟩:=h.ahS;exact⟨ba,aj _ _ (b3 _ _ k1 h.ne) (by have:=(dy.1 k1).1;omega),pz⟩
  ·refine⟨N.set k (eB (eY (a9 l) i k)),aj _ _ (an _ _ (ab _ _ aD) (by omega)) ax,by rw[List.length_set];exact al,fun a F Z=>?_⟩;by_cases e:a=k
   ·subst e;rw[List.getElem?_set_self (by omega)]
   ·rw[ix (fun bb=>e bb.symm)];exact ag a (by omega) Z
  ·rw[U];have be:aH.aa=S.aa:=by rw[aK.aa,h.c.aa]
   rw[be];refine hy.snoc (aj _ _ a4 (by omega)) (by show((x.args.map Int.toNat).map _).length≤3;rw[d0,d0];omega) (hy.mono (fun j cs bS cL=>?_) h.rows);have ai:=(dy.1 cL).1;refine aj j cs (b3 j _ cL (fun e=>?_)) (by omega);subst e;rw[TR] at cL;injection cL with cL
   injection cL with cL
   subst cL;omega
theorem IS{qy iS:Nat}:∀m k:Nat,k+m=l.length→∀{S:ah} {E:List af} {nw ka:e0},af9 l i s S k qy iS E nw ka→
  pc (aQ aF G X) (.ref (.l qy) 0) (.bx 12 E nw) (.bx 1 ((eV (a9 l) i k).map eB) ka) (.ref (.l iS) 0) (bc l g) (eB l.length) (eB k) S=.ok (.ed [la (eK l i l.length),iR (eV (a9 l) i l.length),I 0]) s:=by
 intro m
 induction m with
 |zero=>
  intro k cK S E nw ka h;have e:k=l.length:=by omega
  subst e;rw[xI,bl,b0 (by omega),eg,EL];have f2:=mE (S:=S) (sz:=1) (es:=(eV (a9 l) i l.length).map eB) (g:=ka) (by simpa using h.g2) (mK _);rw[Og] at f2;refine aa3 G X h.c _ _ _ _ _ _ (zb h.rows (fun y ez=>⟨yd c0 i y ez,?_⟩) h.gZ) f2 rfl;obtain⟨k,_,rfl⟩:=List.mem_map.1 ez;rfl
 |succ m r=>intro k cK S E nw ka h;obtain⟨S',A,B,F,dn,u⟩:=IR G X l g g5 c0 tY i s h (by omega);rw[dn];exact r (k+1) (by omega) u
end
def nx(P:Nat→Bool):List af:=(List.range 40).map fun k=>.bool (P k)
theorem qp(P:Nat→Bool):(nx P).length=40:=by simp [nx]
theorem yj(P:Nat→Bool){k:Nat}(h:k<40):(nx P)[k]? =some (.bool (P k)):=by unfold nx;rw[gb,List.getElem?_range h];rfl
theorem FE(P:Nat→Bool){u:Nat}(h:u<40):(nx P).set u (.bool true)=nx (fun k=>P k||decide (k=u)):=by
 apply List.ext_getElem?;intro k;by_cases cK:k<40
 ·rw[yj _ cK];by_cases e:u=k
  ·subst e;rw[List.getElem?_set_self (by rw[qp];exact h)];simp
  ·rw[ix e,yj _ cK]
   have:decide (k=u)=false:=b0 (fun r=>e r.symm);rw[this,Bool.or_false]
 ·rw[List.getElem?_eq_none (by rw[List.length_set,qp];omega),List.getElem?_eq_none (by rw[qp];omega)]
section
variable(G:Nat→af)(X:Nat→List af→ah→ai)
variable(l:List az)(g:e0)(b2:∀a,g≠.cP a)(g5:f9 l=0)(c0:∀o,o∈l→lc o)(tY:∀o,o∈l→Fh o)(i:Nat)(s:ah)
theorem IT{S:ah}{qy:Nat}{P:Nat→Bool}(U:List Nat)(y:∀u∈U,u<40)(M:U.length<1000)(A:S.own[qy]? =some (.cells (nx P)))(n4:af):∀m q,q+m=U.length→
  vH (aQ aF G X) n4 (.ref (.l qy) 0) (iR U) (eB U.length) (eB q) {S with own:=S.own.set qy (.cells (nx fun k=>P k||(U.take q).elem k))} =
   BL (aQ aF G X) n4 (.ref (.l qy) 0) {S with own:=S.own.set qy (.cells (nx fun k=>P k||U.elem k))}:=by
 have B:=(dy.1 A).1;intro m
 induction m with
 |zero=>intro q fz;rw[xJ,bl,b0 (by omega),eg,iV (by omega)]
 |succ m F=>
  intro q fz;have h:q<U.length:=by omega
  have a1:=eb h;have hu:=y _ (mW h);have H:=fun(S:ah) (K:bd)=>ij (T:=aF) (G:=G) (X:=X) (s:=S) (k:=K) q (by omega)
  obtain⟨e,r⟩:∃e:ah,e= {S with own:=S.own.set qy (b4.cells (nx fun k=>P k||(U.take q).elem k))}:=⟨_,rfl⟩;have I:e.own[qy]? =some (.cells (nx fun k=>P k||(U.take q).elem k)):=by rw[r];simp [B]
  have gE:=fun(K:bd)=>io (T:=aF) (G:=G) (X:=X) (k:=K) I (o:=U[q]) (by rw[qp];exact hu) (v:=.bool true) rfl rfl rfl
  have J:({e with own:=e.own.set qy (.cells ((nx fun k=>P k||(U.take q).elem k).set U[q] (.bool true)))}:ah)= {S with own:=S.own.set qy (.cells (nx fun k=>P k||(U.take (q+1)).elem k))}:=by
   rw[FE _ hu,r]
   have:(fun k=>(P k||(U.take q).elem k)||decide (k=U[q]))=fun k=>P k||(U.take (q+1)).elem k:=by
    funext k;rw[nv U h,Bool.or_assoc]
    have:(U.take q++[U[q]]).elem k=((U.take q).elem k||decide (k=U[q])):=by rw[Bool.eq_iff_iff];simp only[List.elem_eq_mem,List.mem_append,List.mem_singleton,Bool.or_eq_true,b9]
    rw[this]
   rw[this];simp [List.set_set]
  rw[J] at gE;rw[←r,xJ,bl,dR (by omega),ek,HJ,kD G X _ _ _ a1,rJ,qo G X _ _ hu];refine(gE _).trans ?_;rw[HI,H];exact F (q+1) (by omega)
include b2 g5 c0 tY
theorem aa4(bZ:i<l.length):aB aF G X 15 [bc l g,eB i] s=.ok (.ed [la (eK l i l.length),iR (eV (a9 l) i l.length),I 0]) s:=by
 have aa:=jR g5;have sC:=BX G X l g b2 (by omega) c0 (i:Int) s.ag;have ml:l6 l (i:Int)=0:=by unfold l6;rw[if_neg (by simp [g5]),if_neg (by omega)]
 rw[ml] at sC;have F:∀d,af.ao d (bc l g)=bc l g:=fun d=>hE l b2 d
 have ab:=pj (a9 l) l.length i;have N:∀u∈dW (a9 l) l.length i,u<40:=fun u hu=>by have:=(rG.1 hu).1;omega
 obtain⟨r,A⟩:∃r:ah,r=s.ag.new (.cells (nx fun k=>decide (k=i))):=⟨_,rfl⟩;have O:∀K:bd,(aQ aF G X).bm (s.ag.new (.cells (nx fun _=>false))) K 1 (.ref (.l s.ag.own.length) i) (.bool true)=K .dead r:=fun K=>by
  have eO:(s.ag.new (.cells (nx fun _=>false))).own[s.ag.own.length]? =some (.cells (nx fun _=>false)):=by simp [ah.new]
  refine(io (T:=aF) (G:=G) (X:=X) (k:=K) eO (o:=i) (by rw[qp];omega) (v:=.bool true) rfl rfl rfl).trans ?_;rw[FE _ (by omega),A];simp only[ah.new,Bool.false_or];congr 1
 have U:r.own[s.ag.own.length]? =some (.cells (nx fun k=>decide (k=i))):=by rw[A];simp [ah.new]
 have H:Child s r:=by rw[A];exact(Child.ag s).new _
 have gz:=IT G X (S:=r) (dW (a9 l) l.length i) N (by omega) U (bc l g) (dW (a9 l) l.length i).length 0 (by omega);have dn:({r with own:=r.own.set s.ag.own.length (.cells (nx fun k=>decide (k=i)||((dW (a9 l) l.length i).take 0).elem k))}:ah)=r:=by
  have:r.own.set s.ag.own.length (.cells (nx fun k=>decide (k=i)||((dW (a9 l) l.length i).take 0).elem k))=r.own:=by rw[A];simp [ah.new]
  rw[this]
 rw[dn] at gz;obtain⟨y,B⟩:∃y:ah,y= {r with own:=r.own.set s.ag.own.length (b4.cells (nx fun k=>decide (k=i)||(dW (a9 l) l.length i).elem k))}:=⟨_,rfl⟩;rw[←B] at gz;have J:r.own.length=s.ag.own.length+1:=by rw[A];simp [ah.new]
 have V:y.own[s.ag.own.length]? =some (.cells (nx fun k=>decide (k=i)||(dW (a9 l) l.length i).elem k)):=by rw[B];simp [J]
 have ac:y.own.length=s.ag.own.length+1:=by rw[B];show(r.own.set _ _).length=_;rw[List.length_set,J]
 have Y:Child s y:=by rw[B];exact⟨H.up,H.ro⟩
 have Z:af9 l i s (y.new (.cells (List.replicate 40 (I 0)))) 0 s.ag.own.length y.own.length [] .nil .nil:=by
  refine⟨Y.new _,⟨nx fun k=>decide (k=i)||(dW (a9 l) l.length i).elem k,?_,fun a M=>?_⟩,⟨List.replicate 40 (I 0),by simp [ah.new],by simp,fun a M=>by omega⟩,?_,.nil,.nil,fun j e=>(by cases e),by omega⟩
  ·show(y.own++[_])[_]? =_;rw[fB (by omega)];exact V
  ·rw[yj _ (by omega)];unfold fI
   have:(dW (a9 l) l.length i).elem a=(hF (a9 l) a).elem i:=by rw[Bool.eq_iff_iff];simp only[List.elem_eq_mem,b9];rw[rG];exact⟨fun h=>h.2,fun h=>⟨M,h⟩⟩
   rw[this]
  ·show hy _ _ [] [];trivial
 have fin:=IS G X l g g5 c0 tY i s l.length 0 (by omega) Z;rw[NP,aaj,F,aA,aZ sC,cf,b0 (by simp),eg,HN,cG];refine(qo G X i 40 (by omega)).trans ?_;refine(O _).trans ?_;rw[F,aA,aZ (MG G X l g b2 g5 i _),kC];refine gz.trans ?_;rw[HM,cG,aI,d0];exact fin
end
theorem FF(a b:fV):decide (((cY a).neg=a.neg∧(cY a).g9=a.g9)∧((cY b).neg=b.neg∧(cY b).g9=b.g9))=true:=dR ⟨⟨rfl,rfl⟩,rfl,rfl⟩
section
variable(G:Nat→af)(X:Nat→List af→ah→ai)
theorem aa5{s:ah}{k:bd}(a:List Nat):(aQ aF G X).aj s k (al .neq (.str a) (.str a))=k (.bool false) s:=by show k (.bool (!(a==a))) s=_;rw[beq_self_eq_true];rfl
variable(l:List az)(g:e0)(b2:∀a,g≠.cP a)(g5:f9 l=0)(bU:l.length≤12)(c0:∀o,o∈l→lc o)(tY:∀o,o∈l→Fh o)(i:Nat)(s:ah)
theorem MH(L:List az):∃g',la L=bc L g'∧∀a,g'≠.cP a:=⟨_,rfl,fun a=>by split<;> intro e<;> cases e⟩
include g5 bU
theorem Oh{S:ah}(v1 e v6 FH:af){k o:Nat}(H:o<l.length)(r:fI (a9 l) i o=false):∀m q:Nat,q+m=(h2 (a9 l) o).length→
  BN (aQ aF G X) v1 e v6 FH (iR (eV (a9 l) i l.length)) (eB k) (iR ((h2 (a9 l) o).map (eY (a9 l) i))) (iR (h2 (a9 l) o)) (eB q) S=vI (aQ aF G X) v1 e v6 FH (iR (eV (a9 l) i l.length)) (eB k) S:=by
 have I:=IP (a9 l) o;intro m
 induction m with
 |zero=>intro q fz;rw[zH,kC,d0,bl,b0 (by omega),eg]
 |succ m u=>
  intro q fz;have h:q<(h2 (a9 l) o).length:=by omega
  have a1:=eb h;have ez:=x6.1 (mW h);have J:=mL ez;have y:=oJ (nt g5) r ez;have A:((h2 (a9 l) o).map (eY (a9 l) i))[q]? =some (eY (a9 l) i (h2 (a9 l) o)[q]):=by rw[gb,a1];rfl
  have B:=qD (a9 l) i (show(h2 (a9 l) o)[q]<l.length by omega) y;have F:=fun(S:ah) (K:bd)=>ij (T:=aF) (G:=G) (X:=X) (s:=S) (k:=K) q (by omega)
  rw[zH,kC,d0,bl,dR (by omega),ek,HP,kD G X _ _ _ A,rJ,kD G X _ _ _ B,rJ,kD G X _ _ _ a1,rJ,cf,b0 (by simp),eg,HO,F];exact u (q+1) (by omega)
include b2 c0
theorem Oi{S:ah}(v1 v6:af){k o:Nat}(e:o<l.length)(h:fI (a9 l) i o=false)(cK:eY (a9 l) i o=k):
  BO (aQ aF G X) v1 (bc l g) v6 (la (eK l i l.length)) (iR (eV (a9 l) i l.length)) (eB k) S=vI (aQ aF G X) v1 (bc l g) v6 (la (eK l i l.length)) (iR (eV (a9 l) i l.length)) (eB k) S:=by
 have A:∀d,af.ao d (bc l g)=bc l g:=fun d=>hE l b2 d
 obtain⟨g',dn,r⟩:=MH (eK l i l.length);have H:=B3 (a9 l) i e h;have B:∀d,af.ao d (la (eK l i l.length))=bc (eK l i l.length) g':=fun d=>by rw[dn];exact hE _ r d
 have py:(eK l i l.length).length=eY (a9 l) i l.length:=mV l i l.length;have I:=tr (a9 l) i l.length;have u:=fun S=>MF G X (eK l i l.length) g' r (qm g5 i) k (by omega) (yd c0 i) (by omega) S
 rw[←cK,Fs g5 e h,cK] at u;have F:=fun S=>MF G X l g b2 g5 o e c0 (by omega) S
 have y:=qD (a9 l) i e h;rw[cK] at y;rw[M3,B,aA,aZ (u _),nh,ni,kD G X _ _ _ y,rJ,A,aA,aZ (F _),nh,ni,cf,b0 (by simp)];simp -implicitDefEqProofs only[ee];rw[cf,b0 (by simp),ew];simp -implicitDefEqProofs only[ee];rw[kC,kC,d0,cf,b0 (by simp),ew,eg,M2];exact Oh G X l g5 bU i _ _ _ _ e h (h2 (a9 l) o).length 0 (by omega)
theorem Oj(bZ:i<l.length):∀m k:Nat,k+m=(eK l i l.length).length→∀S:ah,Child s S→
  BQ (aQ aF G X) (eB i) (bc l g) (iR (dW (a9 l) l.length i)) (la (eK l i l.length)) (iR (eV (a9 l) i l.length)) (eB k) S=.ok (.bool true) s:=by
 have U:∀(S:ah) (K:bd),(aQ aF G X).cg S K false (la (eK l i l.length))=K (eB (eK l i l.length).length) S:=fun S K=>by unfold la;rw[aI,d0]
 have aM:=pj (a9 l) l.length i;intro m
 induction m with
 |zero=>intro k cK S H;rw[zI,U,bl,b0 (by omega),eg,HR];exact fT H _ _ rfl
 |succ m ae=>
  intro k cK S H;have V:k<(eK l i l.length).length:=by omega
  have py:(eK l i l.length).length=eY (a9 l) i l.length:=mV l i l.length;have aN:=tr (a9 l) i l.length;have Y:k<(eV (a9 l) i l.length).length:=by rw[py] at V;exact V
  obtain⟨o,J⟩:∃o,(eV (a9 l) i l.length)[k]? =some o:=⟨_,eb Y⟩;obtain⟨gH,M,Z⟩:=Fq _ _ J;obtain⟨aO,ag⟩:=(t8 (a9 l) i).1 M;obtain⟨x,a1⟩:∃x,l[o]? =some x:=⟨_,eb gH⟩;have u:=c0 x (List.mem_of_getElem? a1);have aa:=ua gH M a1;rw[Z] at aa;have ak:(l.map az.enc)[o]? =some x.enc:=by rw[gb,a1];rfl
  have am:((eK l i l.length).map az.enc)[k]? =some (eT (a9 l) i x).enc:=by rw[gb,aa];rfl
  have an:=fun(S:ah) (K:bd)=>ij (T:=aF) (G:=G) (X:=X) (s:=S) (k:=K) k (by omega)
  have y:=fun(S:ah) (K:bd)=>kD G X (S:=S) (K:=K) _ _ _ J
  have ap:o ∉ dW (a9 l) l.length i:=fun h=>ag (rG.1 h).2
  have ar:∀r,(∀S',Child s S'→BO (aQ aF G X) (eB i) (bc l g) (iR (dW (a9 l) l.length i)) (la (eK l i l.length)) (iR (eV (a9 l) i l.length)) (eB k) S'=r)→
    BP (aQ aF G X) (eB i) (bc l g) (iR (dW (a9 l) l.length i)) (la (eK l i l.length)) (iR (eV (a9 l) i l.length)) (eB k) S=r:=fun r aV=>by
   have ip:=fun(S:ah) (K:bd)=>lC (T:=aF) (G:=G) (X:=X) (s:=S) (k:=K) 12 (l.map az.enc) g .i64 o _ ak
   have au:=fun(S:ah) (K:bd)=>lC (T:=aF) (G:=G) (X:=X) (s:=S) (k:=K) 12 ((eK l i l.length).map az.enc) (if eK l i l.length=[] then e0.nil else .any) .i64 k _ am
   have A:∀(S:ah) (K:bd),(aQ aF G X).bV S K 12 (la (eK l i l.length)) (eB k)=K (.bk (eT (a9 l) i x).enc.cells) S:=au;have av:∀K:bd,(aQ aF G X).aq S K (some 12) (.bk x.enc.cells)=K x.enc S:=fun K=>bn 12 x.cs (aC 12)
   have aw:∀d,af.ao d x.enc=x.enc:=fun d=>rfl
   obtain⟨e,N⟩:∃e:ah,e=S.new (.cells x.cs):=⟨_,rfl⟩;have B:e.own[S.own.length]? =some (.cells x.cs):=by rw[N];simp [ah.new]
   have ax:Child s e:=by rw[N];exact H.new _
   have gE:∀K:bd,(aQ aF G X).bm (S.new (.cells [.str [],.int .i64 0,.bx 1 [] .nil,.bool false,.bx 1 [] .nil,.bool false,.bx 1 [] .nil,.bool false,.bx 1 [] .nil,.bool false,.bx 1 [] .nil,.int .i64 0])) K 12 (.ref (.l S.own.length) 0) (.agg x.cs)=K .dead e:=fun K=>by rw[N];exact cX 12 x.cs _ rfl rfl rfl
   have aB:=fun(K:bd)=>ga (T:=aF) (G:=G) (X:=X) (k:=K) B (o:=0) (c:=.str x.name) rfl
   have aD:=fun(K:bd)=>ga (T:=aF) (G:=G) (X:=X) (k:=K) B (o:=1) (c:=I x.op) rfl
   have aE:=fun(K:bd)=>ga (T:=aF) (G:=G) (X:=X) (k:=K) B (o:=11) (c:=I x.nB) rfl
   have aG:∀K:bd,(aQ aF G X).aq e K (some 4) (.ref (.l S.own.length) 3)=K (pu x.g6 x.bP) e:=fun K=>qE G X (o:=3) (n:=4) B (show 3+4≤12 by omega)
   have aH:∀K:bd,(aQ aF G X).aq e K (some 4) (.ref (.l S.own.length) 7)=K (pu x.lF x.lb) e:=fun K=>qE G X (o:=7) (n:=4) B (show 7+4≤12 by omega)
   have aJ:∀K:bd,(aQ aF G X).aq e K none (.bk ((eT (a9 l) i x).enc.cells.drop 0))=K (.str x.name) e:=fun K=>rfl
   have px:∀K:bd,(aQ aF G X).aq e K none (.bk ((eT (a9 l) i x).enc.cells.drop 1))=K (I x.op) e:=fun K=>rfl
   have abQ:∀K:bd,(aQ aF G X).aq e K none (.bk ((eT (a9 l) i x).enc.cells.drop 11))=K (I x.nB) e:=fun K=>rfl
   have Cd:∀K:bd,(aQ aF G X).aq e K (some 4) (.bk ((eT (a9 l) i x).enc.cells.drop 3))=K (pu (cY x.g6) (cY x.bP)) e:=fun K=>bn 4 ((eT (a9 l) i x).enc.cells.drop 3) (show 4≤9 by omega)
   have agm:∀K:bd,(aQ aF G X).aq e K (some 4) (.bk ((eT (a9 l) i x).enc.cells.drop 7))=K (pu (cY x.lF) (cY x.lb)) e:=fun K=>bn 4 ((eT (a9 l) i x).enc.cells.drop 7) (show 4≤5 by omega)
   have ab:=Mn G X e (cY x.g6) (cY x.bP) x.g6 x.bP (fs u.g6) (fs u.bP) u.g6 u.bP;have ac:=Mn G X e (cY x.lF) (cY x.lb) x.lF x.lb (fs u.lF) (fs u.lb) u.lF u.lb;rw[FF] at ab ac;have F:∀(a b:fV) d,af.ao d (pu a b)=pu a b:=fun a b d=>rfl
   rw[M4,y,rJ,ip,av,cG,aw,show x.enc=.agg x.cs from rfl];refine(gE _).trans ?_;rw[A,dC,aJ,ay,bh,aB,aa5];simp -implicitDefEqProofs only[ee];rw[A,dC,px,ay,bh,aD,cf,b0 (by simp),ew];simp -implicitDefEqProofs only[ee];rw[A,dC,abQ,ay,bh,aE,cf,b0 (by simp),ew];simp -implicitDefEqProofs only[ee];rw[A,dC,Cd,ay,bh,aG,F,F,aZ ab,c4];show(aQ aF G X).bs e _ (.bool false) _ (.bool false)=_;rw[ew];simp -implicitDefEqProofs only[ee];rw[A,dC,agm,ay,bh,aH,F,F,aZ ac,c4];show(aQ aF G X).bs e _ (.bool false) _ (.bool false)=_;rw[ew,eg];exact aV e ax
  have aK:GF (aQ aF G X) (eB i) (bc l g) (iR (dW (a9 l) l.length i)) (la (eK l i l.length)) (iR (eV (a9 l) i l.length)) (eB k) S=BP (aQ aF G X) (eB i) (bc l g) (iR (dW (a9 l) l.length i)) (la (eK l i l.length)) (iR (eV (a9 l) i l.length)) (eB k) S:=by
   have O:=Ub G X (dW (a9 l) l.length i) o S (by omega);rw[b0 ap] at O;have tail:∀(K:ai),(aQ aF G X).aj S (fun aP s=>K) (al .gtr (eB k) (.int .i64 0))=K:=fun K=>by rw[b8]
   rw[M5,y,rJ,bl,b0 (by omega)];simp -implicitDefEqProofs only[ee];rw[y,rJ,aI,d0,cR,b0 (by omega),ew];simp -implicitDefEqProofs only[ee];rw[b8];by_cases eO:k=0
   ·subst eO;rw[b0 (by simp)];simp -implicitDefEqProofs only[gP,ew,ee];rw[y,rJ,bO,b0 (by omega)];simp -implicitDefEqProofs only[ee];rw[y,rJ,FA,aA,aZ O,ew,eg]
   ·obtain⟨q,rfl⟩:∃q,k=q+1:=⟨k-1,by omega⟩;have ad:q<(eV (a9 l) i l.length).length:=by omega
    have ez:=eb ad;have aR:(eV (a9 l) i l.length)[q]<o:=by have:=List.pairwise_iff_getElem.1 (Ob (a9 l) i l.length) q (q+1) ad Y (by omega);rw[(dy.1 J).2] at this;exact this
    have s1:=fun(S:ah) (K:bd)=>iK (T:=aF) (G:=G) (X:=X) (s:=S) (k:=K) (q+1) (by omega) (by omega)
    simp -implicitDefEqProofs only[Nat.add_sub_cancel] at s1;rw[dR (by omega)];simp -implicitDefEqProofs only[f5];rw[y,rJ,s1,kD G X _ _ _ ez,rJ,c6,b0 (by omega),fH,ew];simp -implicitDefEqProofs only[ee];rw[y,rJ,bO,b0 (by omega),ew];simp -implicitDefEqProofs only[ee];rw[y,rJ,FA,aA,aZ O,ew,eg]
  rw[zI,U,bl,dR (by omega),ek,aK];refine ar _ fun S' aL=>?_
  rw[Oi G X l g b2 g5 bU c0 i _ _ gH M Z,HQ,an];exact ae (k+1) (by omega) S' aL
end
section
variable(G:Nat→af)(X:Nat→List af→ah→ai)
theorem Ok(l:List az)(g:e0)(b2:∀a,g≠.cP a)(g5:f9 l=0)(bU:l.length≤12)(c0:∀o,o∈l→lc o)(tY:∀o,o∈l→Fh o)(n:Int)(cZ:vj n)(eO:l.length≠0)(s:ah):
  GG (aQ aF G X) (I n) (bc l g) s.ag=.ok (.bool true) s:=by
 have h:∀d,af.ao d (bc l g)=bc l g:=fun d=>hE l b2 d
 have tR:=fun S=>qB G X n (l.length:Int) (by omega) cZ S
 have cK:=lJ (x:=n) (n:=(l.length:Int)) (by omega);obtain⟨i,bZ⟩:∃i:Nat,gQ n (l.length:Int)=(i:Int):=⟨_,(Int.toNat_of_nonneg cK.1).symm⟩;rw[bZ] at tR cK;have e:i<l.length:=by omega
 obtain⟨g',dn,r⟩:=MH (eK l i l.length);have y:∀d,af.ao d (la (eK l i l.length))=bc (eK l i l.length) g':=fun d=>by rw[dn];exact hE _ r d
 have py:(eK l i l.length).length=eY (a9 l) i l.length:=mV l i l.length;have J:=tr (a9 l) i l.length;have AY:=fun S=>Ml G X (eK l i l.length) g' r S (by omega) (yd c0 i)
 rw[qm g5 i] at AY;have u:∀(S:ah) (K:bd),(aQ aF G X).cg S K false (la (eK l i l.length))=K (eB (eK l i l.length).length) S:=fun S K=>by unfold la;rw[aI,d0]
 have A:=u4 (nt g5) (i:=i) l.length;rw[if_pos e] at A;have M:=pj (a9 l) l.length i;have B:(eK l i l.length).length=(eV (a9 l) i l.length).length:=py;have F:=fun(S:ah) (K:bd)=>iv (T:=aF) (G:=G) (X:=X) (s:=S) (k:=K) (eK l i l.length).length (dW (a9 l) l.length i).length (by omega)
 have H:=fun(S:ah) (K:bd)=>ij (T:=aF) (G:=G) (X:=X) (s:=S) (k:=K) ((eK l i l.length).length+(dW (a9 l) l.length i).length) (by omega)
 rw[M7,aI,d0,aA,aA,aZ (tR _),h,aA,aZ (aaZ G X l g b2 g5 i c0 e _),nh,ni,h,aA,aZ (aa4 G X l g b2 g5 c0 tY i s.ag e),nh,ni,tO,cf,b0 (by simp)];simp -implicitDefEqProofs only[ee];rw[cf,b0 (by simp),ew];simp -implicitDefEqProofs only[ee];rw[u,kC,cf,b0 (by rw[B];simp),ew];simp -implicitDefEqProofs only[ee];rw[u,kC,F,H,aI,d0,cf,b0 (by omega),ew];simp -implicitDefEqProofs only[ee];rw[y,aZ (AY _),cf,b0 (by simp),ew,eg,M6];exact Oj G X l g b2 g5 bU c0 i s e (eK l i l.length).length 0 (by omega) s.ag (.ag s)
theorem aga(d8:G 0=.bk jO)(h:∃s',aB aF G X 9 [] {own:=[],up:=[],ro:=[]}=.ok (.bool true) s')(er:List xX)(e:e0)(y:∀a,e≠.cP a)(A:∀p,p∈er→p.aaP)(B:er.length≤131072)(n:Int)(cZ:vj n)(s:ah):
  aB aF G X 4 [u2 er e,I n] s=.ok (.bool true) s:=by
 obtain⟨M,h⟩:=h;obtain⟨L,u,g5,c0,F,H,tY,r⟩:=TT G X d8 er e A B 12 (by omega) s.ag;have J:af.ao s.ag.aa (u2 er e)=u2 er e:=by show af.bx 7 _ (e.ao _)=_;rw[nn y]
 have ah4:∀(S:ah) (K:bd),(aQ aF G X).gT S K 9 []=K (.bool true) S:=fun S K=>l3 rfl h rfl
 have r:aB aF G X 10 [u2 er e,.int .i64 12] s.ag=.ok (bc L u) s.ag:=r;rw[Tt,afV,ah4,c4];show(aQ aF G X).aO (.bool false) _ _=_;rw[eg,M8,J,aA,aZ r,aI,d0,bO];by_cases eO:(L.length:Int)=0
 ·rw[dR eO,ek];exact aG true
 ·rw[b0 eO,eg];exact Ok G X L u H g5 F c0 tY n cZ (by omega) s
end
end Go.gF
end
