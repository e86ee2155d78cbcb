/- A part of the proof: no condition. -/
import Derived.Test.YtgdnbfijkagodaaGreatDoorA2
import Derived.WideKeyArgs
import Derived.ChangeArms
import Derived.ChangeSame
import Derived.ChangeOld
import Derived.OpenShut
set_option linter.unusedSectionVars false
set_option linter.unusedSimpArgs false
section
namespace Go.Ab
variable{T:Nat→Option c8}{G:Nat→af}{X:Nat→List af→ah→ai}{s:ah}{k:bd}
theorem lD(q b:Nat)(at_:Option Loc)(x y:af):(aQ T G X).fm s k q b at_ x y=fN (gM G (aB T G X) bR) s k q b at_ x y:=rfl
theorem kn(sz:Nat)(es:List af)(ar:af.aX es=true)(aw:(es.all fun e=>e.e9&&Nat.beq e.cells.length sz)=true):(aQ T G X).bf s k sz es=k (.bx sz es .exact) s:=by show(bif af.aX es&&es.all (fun e=>e.e9&&Nat.beq e.cells.length sz) then _ else _)=_;rw[ar,aw];rfl
theorem zx(eG:IntKind)(n:Int):(aQ T G X).bf s k 1 [.int eG n]=k (.bx 1 [.int eG n] .exact) s:=rfl
inductive fj (S:ah):e0→Nat→Prop
 |nil:fj S .nil 0
 |cP (j n:Nat) (cZ:0<n) (h:S.own[j]? =some (.tok n)):fj S (.cP (.l j)) n
theorem fj.inv{S:ah}{g:e0}{n:Nat}(h:fj S g n):(g=.nil∧n=0)∨∃j,g=.cP (.l j)∧0<n∧S.own[j]? =some (.tok n):=by
 cases h with
 |nil=>exact .inl ⟨rfl,rfl⟩
 |cP j n cZ h=>exact .inr ⟨j,rfl,cZ,h⟩
theorem fj.new{S:ah}{g:e0}{n:Nat}(h:fj S g n)(o:b4):fj (S.new o) g n:=by
 cases h with
 |nil=>exact .nil
 |cP j n cZ h=>refine .cP j n cZ ?_;have cL:=(dy.1 h).1;simp only[ah.new];rw[fB cL];exact h
structure Grown (S S':ah) (g:e0):Prop where
 up:S'.up=S.up
 ro:S'.ro=S.ro
 len:S.own.length≤S'.own.length
 own:∀j o,S.own[j]? =some o→g≠.cP (.l j)→S'.own[j]? =some o
theorem Grown.child{s S S':ah}{g:e0}(h:Grown S S' g)(e:Child s S):Child s S':=⟨h.up.trans e.up,h.ro.trans e.ro⟩
theorem Grown.grow{S S':ah}{g g':e0}{n:Nat}(h:Grown S S' g)(b2:fj S g' n)(eu:∀j,g'=.cP (.l j)→g≠.cP (.l j)):fj S' g' n:=by
 cases b2 with
 |nil=>exact .nil
 |cP j n cZ e=>exact .cP j n cZ (h.own j _ e (eu j rfl))
theorem Grown.aa{S S':ah}{g:e0}(h:Grown S S' g):S'.aa=S.aa:=by simp [ah.aa,h.up,h.ro]
theorem zy{R:ai}{S:ah}{es new:List af}{g g2:e0}{q bytes:Nat}(b2:fj S g es.length)(cZ:new≠[])(r:(es.length+new.length)*bytes≤1099511627776)(a0:(new.flatMap af.cells).all af.en=true)
  (cK:∀g' S',fj S' g' (es.length+new.length)→g'≠.nil→(g≠.nil→g'=g)→(g=.nil→g'=.cP (.l S.own.length))→Grown S S' g→k (.bx q (es++new) g') S'=R)(u:∀a,g2≠.cP a:=by intro a h;cases h):
  (aQ T G X).fm S k q bytes (some (.l 0)) (.bx q es g) (.bx q new g2)=R:=by
 rw[lD];unfold fN;simp only;unfold hd;rw[show dw S (.bx q new g2)=some (q,new) from by cases g2<;> first|rfl |exact absurd rfl (u _)];simp only[e7,ey];rw[show Nat.ble ((es.length+new.length)*bytes) 1099511627776=true from ec r];simp only[bD];cases new with
 |nil=>exact absurd rfl cZ
 |cons c cs=>
  rcases b2.inv with⟨rfl,y⟩|⟨j,rfl,lh,h⟩
  ·simp only[ah.gU];refine cK _ _ (.cP _ _ (by simp;omega) ?_) (by simp) (fun h=>absurd rfl h) (fun _=>rfl) ⟨rfl,rfl,by simp [ah.new],fun j o h _=>?_⟩
   ·simp [ah.new]
   ·simp only[ah.new];rw[fB (dy.1 h).1];exact h
  ·have e:S.get (.l j)=some (.tok es.length):=h;simp only[e,e7,a0,bz,bD];show(match S.set (.l j) (.tok (es.length+(c::cs).length)) with |some s=>k (.bx q (es++c::cs) (.cP (.l j))) s|none=>.fail)=R;simp only[ah.set];refine cK _ _ (.cP _ _ (by simp;omega) ?_) (by simp) (fun _=>rfl) (fun h=>by simp at h) ⟨rfl,rfl,by simp,fun i o bZ eu=>?_⟩
   ·simp [(dy.1 h).1]
   ·have:j≠i:=fun e=>eu (by rw[e])
    simp only;rw[ix this];exact bZ
def gI{α:Type}(l:List α):e0:=if l.isEmpty then .nil else .any
theorem mE{S:ah}{sz:Nat}{es:List af}{g:e0}(b2:fj S g es.length)(aV:af.aX es=true:=by rfl):freeze S (.bx sz es g)=some (.bx sz es (gI es)):=by
 rcases b2.inv with⟨rfl,h⟩|⟨j,rfl,cZ,h⟩
 ·have:es=[]:=jj h;subst this;rfl
 ·cases es with
  |nil=>simp at cZ
  |cons e es=>show ib S sz (e::es)=_;unfold ib;rw[if_pos aV];rfl
theorem gY{S:ah}(a:Loc)(off len cap sz:Nat)(eG:IntKind)(i:Nat)(h:i<len):(aQ T G X).bV S k sz (.cH a off len cap sz) (.int eG (i:Int))=k (.ref a (off+i*sz)) S:=by show lf (gM G (aB T G X) bR) S k sz (.cH a off len cap sz) (.int eG (i:Int))=_;unfold lf;rw[gW];simp only[e7,show Nat.blt i len=true from by simp [Nat.blt_eq,h],bz,bD];rfl
theorem ga{S:ah}{j o:Nat}{cs:List af}{c:af}(h:S.own[j]? =some (.cells cs))(a0:cs[o]? =some c):(aQ T G X).aq S k none (.ref (.l j) o)=k c S:=by
 rw[hh];simp only[dZ];rw[show S.get (.l j)=some (.cells cs) from h];simp only[e3]
 have:cs.drop o=c::cs.drop (o+1):=by have e:=(dy.1 a0);rw[iy e.1,e.2]
 rw[this];rfl
theorem zz(z:af):∀c:Nat,(List.replicate c [z]).flatten=List.replicate c z
 |0=>rfl
 |c+1=>by simp [List.replicate_succ,zz z c]
theorem o5(z:af)(bytes l c:Nat)(ar:l≤c)(aw:c*bytes≤1099511627776):(aQ T G X).k4 s k [z] bytes (.int .i64 (l:Int)) (.int .i64 (c:Int))=k (.cH (.l s.own.length) 0 l c 1) (s.new (.cells (List.replicate c z))):=by show n5 (gM G (aB T G X) bR) s k [z] bytes (.int .i64 (l:Int)) (.int .i64 (c:Int))=_;unfold n5;rw[gW,gW];simp only[show Nat.ble l c=true from ec ar,show Nat.ble (c*bytes) 1099511627776=true from ec aw,bz,bD];show k _ (s.new (.cells (List.replicate c [z]).flatten))=_;rw[zz];rfl
theorem ry:∀(l:List af),(∀e,e∈l→e.cells=[e])→chunk 1 l.length l=l
 |[],_=>rfl
 |c::l,h=>by
  simp only[bT,chunk,mX,dO,bY];rw[ry l (fun e he=>h e (by simp [he]))]
  have:=h c (by simp);congr 1;show z9 c=c;cases c with
  |agg xs=>exfalso;have aw:xs=[af.agg xs]:=this;have bS:=congrArg (SizeOf.sizeOf:List af→Nat) aw;simp only[List.cons.sizeOf_spec,List.nil.sizeOf_spec,af.agg.sizeOf_spec] at bS;omega
  |_=>rfl
abbrev U(n:Nat):af:=.int .u32 (n:Int)
theorem ji(a:Int):IntKind.wrap .u64 a=a%18446744073709551616:=by unfold IntKind.wrap;simp [show IntKind.bits .u64=64 from rfl,show IntKind.signed .u64=false from rfl]
theorem wrap_u32(a:Int):IntKind.wrap .u32 a=a%4294967296:=by unfold IntKind.wrap;simp [show IntKind.bits .u32=32 from rfl,show IntKind.signed .u32=false from rfl]
theorem dI(a b:Nat):(aQ T G X).aj s k (al .add (.int .u64 (a:Int)) (.int .u64 (b:Int)))=k (.int .u64 (((a+b)%18446744073709551616:Nat):Int)) s:=by rw[fF,ji];congr 2
def sv(a b:Nat):Nat:=(((a:Int)-(b:Int))%18446744073709551616).toNat
theorem dJ(a b:Nat):(aQ T G X).aj s k (al .sub (.int .u64 (a:Int)) (.int .u64 (b:Int)))=k (.int .u64 ((sv a b:Nat):Int)) s:=by rw[f0,ji];congr 2;rw[sv,Int.toNat_of_nonneg (by omega)]
theorem ds(a:Nat):(aQ T G X).aj s k (al .sub (.int .u64 (a:Int)) (.int .u64 1))=k (.int .u64 ((sv a 1:Nat):Int)) s:=dJ a 1
theorem dS(a b:Nat):(aQ T G X).aj s k (al .mul (.int .u64 (a:Int)) (.int .u64 (b:Int)))=k (.int .u64 (((a*b)%18446744073709551616:Nat):Int)) s:=by rw[gq,ji];congr 2
theorem MR(a b:Nat):(aQ T G X).aj s k (al .add (.int .u32 (a:Int)) (.int .u32 (b:Int)))=k (.int .u32 (((a+b)%4294967296:Nat):Int)) s:=by rw[fF,wrap_u32];congr 2
theorem I5(a b:Nat)(h:b≠0)(e:a<18446744073709551616):(aQ T G X).aj s k (al .quo (.int .u64 (a:Int)) (.int .u64 (b:Int)))=k (.int .u64 ((a/b:Nat):Int)) s:=by
 rw[OD _ _ _ (by omega),ji];congr 2
 have:((a:Int)).tdiv (b:Int)=((a/b:Nat):Int):=by rw[Int.tdiv_eq_ediv_of_nonneg (by omega)];rfl
 rw[this];have aw:a/b≤a:=Nat.div_le_self _ _;generalize a/b=q at *;omega
theorem AP(a b:Nat)(h:b≠0):(aQ T G X).aj s k (al .rem (.int .u64 (a:Int)) (.int .u64 (b:Int)))=k (.int .u64 ((a%b:Nat):Int)) s:=by rw[OE _ _ _ (by omega)];congr 2
theorem AQ(eG:IntKind)(a c:Nat)(h:c≤64):(aQ T G X).aj s k (al .shl (.int .u64 (a:Int)) (.int eG (c:Int)))=k (.int .u64 ((a*2^c%18446744073709551616:Nat):Int)) s:=by
 have e:al .shl (.int .u64 (a:Int)) (.int eG (c:Int))=some (.int .u64 (IntKind.wrap .u64 ((a:Int)*2^(min (c:Int).toNat 64)))):=by
  have cZ:¬((c:Int)<0):=by omega
  simp [al,mn,cZ,show IntKind.bits .u64=64 from rfl]
 rw[e,cU,ji,Int.toNat_natCast,Nat.min_eq_left h];congr 2
theorem AR(eG:IntKind)(a c:Nat)(h:c≤64):(aQ T G X).aj s k (al .shr (.int .u64 (a:Int)) (.int eG (c:Int)))=k (.int .u64 ((a/2^c:Nat):Int)) s:=by
 have e:al .shr (.int .u64 (a:Int)) (.int eG (c:Int))=some (.int .u64 ((a:Int).fdiv (2^(min (c:Int).toNat 64)))):=by
  have cZ:¬((c:Int)<0):=by omega
  simp [al,mn,cZ,show IntKind.bits .u64=64 from rfl]
 rw[e,cU,Int.toNat_natCast,Nat.min_eq_left h];congr 2;rw[show((2:Int)^c)=((2^c:Nat):Int) from by simp,Int.fdiv_eq_ediv_of_nonneg _ (Int.natCast_nonneg _)];rfl
theorem wT(eG:IntKind)(a c:Nat)(h:c≤32):(aQ T G X).aj s k (al .shr (.int .u32 (a:Int)) (.int eG (c:Int)))=k (.int .u32 ((a/2^c:Nat):Int)) s:=by
 have e:al .shr (.int .u32 (a:Int)) (.int eG (c:Int))=some (.int .u32 ((a:Int).fdiv (2^(min (c:Int).toNat 32)))):=by
  have cZ:¬((c:Int)<0):=by omega
  simp [al,mn,cZ,show IntKind.bits .u32=32 from rfl]
 rw[e,cU,Int.toNat_natCast,Nat.min_eq_left h];congr 2;rw[show((2:Int)^c)=((2^c:Nat):Int) from by simp,Int.fdiv_eq_ediv_of_nonneg _ (Int.natCast_nonneg _)];rfl
theorem F6(eG:IntKind)(a c:Nat)(h:c≤32):(aQ T G X).aj s k (al .shl (.int .u32 (a:Int)) (.int eG (c:Int)))=k (.int .u32 ((a*2^c%4294967296:Nat):Int)) s:=by
 have e:al .shl (.int .u32 (a:Int)) (.int eG (c:Int))=some (.int .u32 (IntKind.wrap .u32 ((a:Int)*2^(min (c:Int).toNat 32)))):=by
  have cZ:¬((c:Int)<0):=by omega
  simp [al,mn,cZ,show IntKind.bits .u32=32 from rfl]
 rw[e,cU,wrap_u32,Int.toNat_natCast,Nat.min_eq_left h];congr 2
theorem cM(a:Nat):(aQ T G X).aj s k (al .shl (.int .u64 (a:Int)) (.int .u64 32))=k (.int .u64 ((a*4294967296%18446744073709551616:Nat):Int)) s:=AQ .u64 a 32 (by decide)
theorem cN(a:Nat):(aQ T G X).aj s k (al .shr (.int .u64 (a:Int)) (.int .u64 32))=k (.int .u64 ((a/4294967296:Nat):Int)) s:=AR .u64 a 32 (by decide)
theorem cV(a:Nat):(aQ T G X).aj s k (al .shr (.int .u64 (a:Int)) (.int .u64 63))=k (.int .u64 ((a/9223372036854775808:Nat):Int)) s:=AR .u64 a 63 (by decide)
theorem dt(eG:IntKind)(a:Nat):(aQ T G X).b6 s k .u32 (.int eG (a:Int))=k (.int .u32 ((a%4294967296:Nat):Int)) s:=by show k (.int .u32 (IntKind.wrap .u32 (a:Int))) s=_;rw[wrap_u32];congr 2
theorem ii(a:Nat)(h:a<4294967296):(aQ T G X).b6 s k .u64 (.int .u32 (a:Int))=k (.int .u64 (a:Int)) s:=by show k (.int .u64 (IntKind.wrap .u64 (a:Int))) s=_;rw[ji];congr 2;omega
theorem iv(a b:Nat)(h:a+b<9223372036854775808):(aQ T G X).aj s k (al .add (.int .i64 (a:Int)) (.int .i64 (b:Int)))=k (.int .i64 ((a+b:Nat):Int)) s:=by rw[fF,e4 _ (by omega) (by omega)];congr 2
theorem lR(a b:Nat)(h:b≤a)(aw:a<9223372036854775808):(aQ T G X).aj s k (al .sub (.int .i64 (a:Int)) (.int .i64 (b:Int)))=k (.int .i64 ((a-b:Nat):Int)) s:=by rw[f0,e4 _ (by omega) (by omega)];congr 2;omega
theorem ij(a:Nat)(h:a+1<9223372036854775808):(aQ T G X).aj s k (al .add (.int .i64 (a:Int)) (.int .i64 1))=k (.int .i64 ((a+1:Nat):Int)) s:=iv a 1 h
theorem iK(a:Nat)(h:1≤a)(aw:a<9223372036854775808):(aQ T G X).aj s k (al .sub (.int .i64 (a:Int)) (.int .i64 1))=k (.int .i64 ((a-1:Nat):Int)) s:=lR a 1 h aw
theorem CI(a:Nat)(h:2≤a)(aw:a<9223372036854775808):(aQ T G X).aj s k (al .sub (.int .i64 (a:Int)) (.int .i64 2))=k (.int .i64 ((a-2:Nat):Int)) s:=lR a 2 h aw
theorem tM(a:Nat)(aw:a<9223372036854775808):(aQ T G X).aj s k (al .quo (.int .i64 (a:Int)) (.int .i64 32))=k (.int .i64 ((a/32:Nat):Int)) s:=by
 rw[OD _ _ _ (by omega)]
 have:((a:Int)).tdiv 32=((a/32:Nat):Int):=by rw[Int.tdiv_eq_ediv_of_nonneg (by omega)];rfl
 rw[this,e4 _ (by omega) (by omega)]
theorem tN(a:Nat):(aQ T G X).aj s k (al .rem (.int .i64 (a:Int)) (.int .i64 32))=k (.int .i64 ((a%32:Nat):Int)) s:=by rw[OE _ _ _ (by omega)];congr 2
theorem Ut(a b:Nat)(e:a<18446744073709551616)(h:b<18446744073709551616):((BitVec.ofInt 64 (a:Int) &&& BitVec.ofInt 64 (b:Int)).toNat:Int)=((a &&& b:Nat):Int):=by
 rw[BitVec.toNat_and];simp -implicitDefEqProofs only[BitVec.toNat_ofInt];congr 1;have ar:(((a:Int)%((2^64:Nat):Int))).toNat=a:=by omega
 have aw:(((b:Int)%((2^64:Nat):Int))).toNat=b:=by omega
 rw[ar,aw]
theorem MS(a:Nat)(h:a<18446744073709551616):(aQ T G X).aj s k (al .and (.int .u64 (a:Int)) (.int .u64 4294967295))=k (.int .u64 ((a%4294967296:Nat):Int)) s:=by
 have e:al .and (.int .u64 (a:Int)) (.int .u64 ((4294967295:Nat):Int))=some (.int .u64 (IntKind.wrap .u64 ((BitVec.ofInt 64 (a:Int) &&& BitVec.ofInt 64 ((4294967295:Nat):Int)).toNat:Int))):=by simp -implicitDefEqProofs only[al,gS,↓reduceIte];rfl
 show(aQ T G X).aj s k (al .and (.int .u64 (a:Int)) (.int .u64 ((4294967295:Nat):Int)))=_;rw[e,Ut a _ h (by omega),cU,ji];congr 2
 have:a &&& 4294967295=a%4294967296:=Nat.and_two_pow_sub_one_eq_mod a 32;rw[this];omega
theorem F7(a b:Nat)(e:a<18446744073709551616)(h:b<18446744073709551616):((BitVec.ofInt 64 (a:Int) ||| BitVec.ofInt 64 (b:Int)).toNat:Int)=((a ||| b:Nat):Int):=by
 rw[BitVec.toNat_or];simp -implicitDefEqProofs only[BitVec.toNat_ofInt];congr 1;have ar:(((a:Int)%((2^64:Nat):Int))).toNat=a:=by omega
 have aw:(((b:Int)%((2^64:Nat):Int))).toNat=b:=by omega
 rw[ar,aw]
theorem abL(q b p:Nat)(h:b<2^p)(fz:q*2^p+b<18446744073709551616):(aQ T G X).aj s k (al .or (.int .u64 ((q*2^p:Nat):Int)) (.int .u64 (b:Int)))=k (.int .u64 ((q*2^p+b:Nat):Int)) s:=by
 have e:al .or (.int .u64 ((q*2^p:Nat):Int)) (.int .u64 (b:Int))=some (.int .u64 (IntKind.wrap .u64 ((BitVec.ofInt 64 ((q*2^p:Nat):Int) ||| BitVec.ofInt 64 (b:Int)).toNat:Int))):=by simp -implicitDefEqProofs only[al,gS,↓reduceIte];rfl
 rw[e,F7 _ _ (by omega) (by omega),cU,ji];congr 2
 have:q*2^p ||| b=q*2^p+b:=by rw[eM,←Nat.two_pow_add_eq_or_of_lt h]
 rw[this];omega
theorem wU(q b:Nat)(e:b<4294967296)(fz:q<4294967296):(aQ T G X).aj s k (al .or (.int .u64 ((q*4294967296:Nat):Int)) (.int .u64 (b:Int)))=k (.int .u64 ((q*4294967296+b:Nat):Int)) s:=abL q b 32 e (by omega)
theorem gJ(l:List Nat):af.aX (l.map U)=true:=by
 induction l with
 |nil=>rfl
 |cons x l e=>simp -implicitDefEqProofs only[fc,af.aX,e,Bool.and_true];rfl
def o6(d:Nat)(g:e0):Prop:=∀a,g=.cP a→∃e i,a=.g e i∧e≤d
theorem o6.not{g:e0}(h:∀a,g≠.cP a)(d:Nat):o6 d g:=fun a e=>absurd e (h a)
theorem o6.le{d e:Nat}{g:e0}(h:o6 d g)(cW:d≤e):o6 e g:=fun a r=>by obtain⟨x,i,ar,aw⟩:=h a r;exact⟨x,i,ar,Nat.le_trans aw cW⟩
inductive mF (s:ah):af→List Nat→Prop
 |bx (l:List Nat) (g:e0) (b2:o6 s.aa g):mF s (.bx 1 (l.map U) g) l
 |cH (d j off cap:Nat) (cs:List af) (l:List Nat) (cW:d≤s.aa) (b2:s.get (.g d j)=some (.cells cs)) (bU:(cs.drop off).take l.length=l.map U) (hle:off+l.length≤cs.length) (a0:l.length≤cap):mF s (.cH (.g d j) off l.length cap 1) l
def Ui(s S:ah):Prop:=s.aa≤S.aa∧∀d j o,d≤s.aa→s.get (.g d j)=some o→S.get (.g d j)=some o
theorem Ui.refl(s:ah):Ui s s:=⟨aC _,fun _ _ _ _ h=>h⟩
theorem Ui.trans{s S S':ah}(h:Ui s S)(k:Ui S S'):Ui s S':=⟨Nat.le_trans h.1 k.1,fun d j o cW e=>k.2 d j o (Nat.le_trans cW h.1) (h.2 d j o cW e)⟩
theorem Child.aa{s S:ah}(h:Child s S):S.aa=s.aa+1:=by simp [ah.aa,h.up,h.ro];omega
theorem Child.pA{s S:ah}(h:Child s S):Ui s S:=by
 refine⟨by rw[h.aa];omega,fun d j o cW e=>?_⟩;have ar:=h.aa;simp -implicitDefEqProofs only[ah.get] at e ⊢;rw[if_neg (by omega),if_pos (by omega),h.up,h.ro];by_cases dn:d=s.aa
 ·rw[if_pos dn] at e
  have:S.aa-1-d=0:=by omega
  rw[this];simpa using e
 ·rw[if_neg dn,if_pos (by omega)] at e
  have:S.aa-1-d=(s.aa-1-d)+1:=by omega
  rw[this];simpa using e
theorem Ui.new(s:ah)(o:b4):Ui s (s.new o):=by
 refine⟨aC _,fun d j x cW e=>?_⟩;simp -implicitDefEqProofs only[ah.get] at e ⊢
 have:(s.new o).aa=s.aa:=rfl;rw[this];split
 ·rename_i h;rw[if_pos h] at e;have cL:=(dy.1 e).1;simp -implicitDefEqProofs only[ah.new];rw[fB cL];exact e
 ·rename_i h;rw[if_neg h] at e;exact e
theorem mF.pA{s S:ah}{v:af}{l:List Nat}(h:mF s v l)(bX:Ui s S):mF S v l:=by
 cases h with
 |bx l g b2=>exact .bx l g (b2.le bX.1)
 |cH d j off cap cs l cW b2 bU hle a0=>exact .cH d j off cap cs l (Nat.le_trans cW bX.1) (bX.2 d j _ cW b2) bU hle a0
theorem mF.ao{s:ah}{v:af}{l:List Nat}(h:mF s v l)(d:Nat):v.ao d=v:=by
 cases h with
 |bx l g b2=>
  cases g with
  |cP a=>obtain⟨x,i,rfl,_⟩:=b2 a rfl;rfl
  |_=>rfl
 |cH=>rfl
theorem mF.len{S:ah}{v:af}{l:List Nat}(h:mF S v l)(k:bd)(S':ah):(aQ T G X).cg S' k false v=k (.int .i64 (l.length:Int)) S':=by
 cases h with
 |bx l g b2=>rw[aI,d0]
 |cH=>rfl
theorem mF.get{S:ah}{v:af}{l:List Nat}(h:mF S v l)(eG:IntKind)(i:Nat)(bZ:i<l.length)(k:bd):(aQ T G X).bV S (fun v S=>(aQ T G X).aq S k none v) 1 v (.int eG (i:Int))=k (U (l.getD i 0)) S:=by
 cases h with
 |bx l g b2=>rw[lC 1 _ g eG i (U (l.getD i 0)) (by simp [List.getD,bZ])];rfl
 |cH d j off cap cs l cW b2 bU hle a0=>
  rw[gY _ _ _ _ _ _ _ bZ,hh];simp -implicitDefEqProofs only[dZ,b2,e3,Nat.mul_one];have r:off+i<cs.length:=by omega
  rw[iy r];have e:cs[off+i]=U (l.getD i 0):=by
   have ar:((cs.drop off).take l.length)[i]? =(l.map U)[i]?:=by rw[bU]
   rw[List.getElem?_take,if_pos bZ,List.getElem?_drop,eb r] at ar;simp [bZ] at ar;rw[ar];simp [List.getD,bZ]
  rw[e];rfl
theorem mF.ptr{S:ah}{v:af}{l:List Nat}(h:mF S v l)(eG:IntKind)(i:Nat)(bZ:i<l.length):∃p,(∀(S':ah) (k:bd),(aQ T G X).bV S' k 1 v (.int eG (i:Int))=k p S')∧∀k:bd,(aQ T G X).aq S k none p=k (U (l.getD i 0)) S:=by
 have b2:=fun k=>h.get (T:=T) (G:=G) (X:=X) eG i bZ k
 cases h with
 |bx l g r=>
  have e:=fun(S':ah) (k:bd)=>lC (T:=T) (G:=G) (X:=X) (s:=S') (k:=k) 1 (l.map U) g eG i (U (l.getD i 0)) (by simp [List.getD,bZ])
  refine⟨_,e,fun k=>?_⟩
  have:=b2 k;rw[e] at this;exact this
 |cH d j off cap cs l cW r bU hle a0=>
  have e:=fun(S':ah) (k:bd)=>gY (T:=T) (G:=G) (X:=X) (S:=S') (k:=k) (.g d j) off l.length cap 1 eG i bZ
  refine⟨_,e,fun k=>?_⟩
  have:=b2 k;rw[e] at this;exact this
def p2(g:e0)(len n:Nat):e0:=
 match g with
 |.nil=>.nil
 |.exact=>if n=len then .exact else .any
 |.cP a=>if 0=0∧n=len then .cP a else .any
 |.any=>.any
def p3(v:af)(n:Nat):af:=
 match v with
 |.bx z es g=>.bx z (es.take n) (p2 g es.length n)
 |.cH a off _ cap z=>.cH a off n cap z
 |v=>v
theorem wV{g:e0}(b2:∀a,g≠.cP a)(len n:Nat):∀a,p2 g len n≠.cP a:=fun a=>by
 cases g with
 |cP b=>exact absurd rfl (b2 b)
 |nil=>intro e;cases e
 |exact=>intro e;simp -implicitDefEqProofs only[p2] at e;split at e<;> cases e
 |any=>intro e;cases e
theorem MT{d:Nat}{g:e0}(b2:o6 d g)(len n:Nat):o6 d (p2 g len n):=fun a e=>by
 cases g with
 |cP b=>
  simp -implicitDefEqProofs only[p2] at e;split at e
  ·exact b2 a e
  ·cases e
 |nil=>cases e
 |exact=>simp -implicitDefEqProofs only[p2] at e;split at e<;> cases e
 |any=>cases e
theorem mF.slice{S:ah}{v:af}{l:List Nat}(h:mF S v l)(n:Nat)(cZ:n≤l.length)(k:bd)(S':ah):(aQ T G X).l2 1 v none (some (.int .i64 (n:Int))) none S' k=k (p3 v n) S':=by
 cases h with
 |bx l g b2=>show nP 1 (.bx 1 (l.map U) g) none (some (.int .i64 (n:Int))) none S' k=_;unfold nP;simp -implicitDefEqProofs only[qH,gW,e7,Nat.zero_le,ec (Nat.zero_le n),show Nat.ble n (l.map U).length=true from ec (by simpa using cZ),show qs g 0 n (l.map U)=true from by cases g<;> first|rfl |(simp -implicitDefEqProofs only[qs,gJ,Bool.or_true]),bz,bD,bY,Nat.sub_zero,List.map_take];cases g<;> first|rfl |simp [p3,p2]
 |cH d j off cap cs l cW b2 bU hle a0=>show nP 1 (.cH (.g d j) off l.length cap 1) none (some (.int .i64 (n:Int))) none S' k=_;unfold nP;simp -implicitDefEqProofs only[qH,gW,e7,ec (Nat.zero_le n),show Nat.ble n cap=true from ec (by omega),show Nat.ble cap cap=true from ec (aC _),ec a0,bz,bD,Nat.sub_zero,Nat.zero_mul,Nat.add_zero,ite_self];rfl
theorem mF.cut{S:ah}{v:af}{l:List Nat}(h:mF S v l)(n:Nat)(cZ:n≤l.length):mF S (p3 v n) (l.take n):=by
 cases h with
 |bx l g b2=>show mF S (.bx 1 ((l.map U).take n) (p2 g (l.map U).length n)) (l.take n);rw[←List.map_take];exact .bx _ _ (MT b2 _ _)
 |cH d j off cap cs l cW b2 bU hle a0=>
  have e:(l.take n).length=n:=by simp;omega
  have:=mF.cH (s:=S) d j off cap cs (l.take n) cW b2 (by
   rw[e];have ar:((cs.drop off).take l.length).take n=(l.map U).take n:=by rw[bU]
   rw[List.take_take,Nat.min_eq_left cZ] at ar;rw[ar,List.map_take]) (by omega) (by omega)
  rwa [e] at this
theorem mG:∀(l:List Nat) (n:Nat) (cs:List af),n=l.length→cs.take n=l.map U→chunk 1 n cs=l.map U
 |[],n,cs,cZ,_=>by subst cZ;rfl
 |x::l,n,cs,cZ,h=>by
  subst cZ;cases cs with
  |nil=>simp at h
  |cons c cs=>simp -implicitDefEqProofs only[bT,c2,fc,List.cons.injEq] at h;simp -implicitDefEqProofs only[bT,chunk,dO,bY];rw[mG l l.length cs rfl h.2,fc,h.1];rfl
def j5(v:af)(l:List Nat):Prop:=∃g,v=.bx 1 (l.map U) g∧∀a,g≠.cP a
theorem j5.rd{v:af}{l:List Nat}(h:j5 v l)(s:ah):mF s v l:=by obtain⟨g,rfl,b2⟩:=h;exact .bx l g (o6.not b2 _)
theorem j5.nil:j5 (.bx 1 [] .nil) []:=⟨.nil,rfl,fun a e=>by cases e⟩
theorem mF.same{s S:ah}{v:af}{l:List Nat}(h:mF s v l)(e:Child s S):Ab.freeze S v=some v:=by
 have r:=e.aa;cases h with
 |bx l g b2=>
  show et S _=_;cases g with
  |cP a=>obtain⟨x,i,rfl,a1⟩:=b2 a rfl;simp -implicitDefEqProofs only[et,fv];rw[if_pos (by omega)]
  |_=>rfl
 |cH d j off cap cs l cW b2 bU hle a0=>show et S (.cH (.g d j) off l.length cap 1)=_;simp -implicitDefEqProofs only[et,fv];rw[if_neg (by omega),if_pos (by omega)]
theorem nR{S:ah}{j off n cap:Nat}{cs:List af}(l:List Nat)(cZ:n=l.length)(b2:S.own[j]? =some (.cells cs))(bU:(cs.drop off).take l.length=l.map U)(hle:off+l.length≤cs.length):∃f7,Ab.freeze S (.cH (.g S.aa j) off n cap 1)=some f7∧j5 f7 l:=by
 subst cZ;refine⟨.bx 1 (l.map U) (if l.length=cap then .exact else .any),?_,_,rfl,fun a=>?_⟩
 ·show et S (.cH (.g S.aa j) off l.length cap 1)=_;simp -implicitDefEqProofs only[et,fv,if_true,gp,b2];rw[mG l l.length (cs.drop off) rfl bU,gJ];rw[if_pos];simp -implicitDefEqProofs only[Nat.mul_one,ey,bo];exact⟨ec hle,rfl⟩
 ·split<;> (intro e;cases e)
theorem mF.freeze{s S:ah}{v:af}{l:List Nat}(h:mF S v l)(r:Child s S):∃f7,Ab.freeze S v=some f7∧mF s f7 l:=by
 have B:=r.aa;cases h with
 |bx l g b2=>
  cases g with
  |cP a=>
   obtain⟨x,i,rfl,a1⟩:=b2 a rfl;by_cases u:x<S.aa
   ·refine⟨.bx 1 (l.map U) (.cP (.g x i)),?_,.bx l _ (fun a e=>⟨x,i,by cases e;rfl,by omega⟩)⟩;show(if x<S.aa then some (af.bx 1 (l.map U) (.cP (.g x i))) else _)=_;rw[if_pos u]
   ·refine⟨.bx 1 (l.map U) .any,?_,.bx l _ (fun a e=>by cases e)⟩;show(if x<S.aa then _ else ib S 1 (l.map U))=_;unfold ib;rw[if_neg u,if_pos (gJ l)]
  |nil=>exact⟨_,rfl,.bx l _ (fun a e=>by cases e)⟩
  |exact=>exact⟨_,rfl,.bx l _ (fun a e=>by cases e)⟩
  |any=>exact⟨_,rfl,.bx l _ (fun a e=>by cases e)⟩
 |cH d j off cap cs l cW b2 bU hle a0=>
  by_cases e:d=S.aa
  ·subst e;have A:S.own[j]? =some (.cells cs):=by simpa [ah.get] using b2
   refine⟨.bx 1 (l.map U) (if l.length=cap then .exact else .any),?_,.bx l _ (fun a=>?_)⟩
   ·show et S (.cH (.g S.aa j) off l.length cap 1)=_;simp -implicitDefEqProofs only[et,fv,if_true,gp,A];rw[mG l l.length (cs.drop off) rfl bU,gJ];rw[if_pos];simp -implicitDefEqProofs only[Nat.mul_one,ey,bo];exact⟨ec hle,rfl⟩
   ·split<;> (intro e;cases e)
  ·have y:d<S.aa:=by omega
   refine⟨.cH (.g d j) off l.length cap 1,?_,.cH d j off cap cs l (by omega) ?_ bU hle a0⟩
   ·show et S (.cH (.g d j) off l.length cap 1)=_;simp -implicitDefEqProofs only[et,fv];rw[if_neg e,if_pos y]
   ·simp -implicitDefEqProofs only[ah.get] at b2 ⊢;rw[if_neg e,if_pos y,r.up,r.ro] at b2;by_cases dn:d=s.aa
    ·rw[if_pos dn]
     have:S.aa-1-d=0:=by omega
     rw[this] at b2;simpa using b2
    ·rw[if_neg dn,if_pos (by omega)]
     have:S.aa-1-d=(s.aa-1-d)+1:=by omega
     rw[this] at b2;simpa using b2
theorem mF.own{S:ah}{j off n cap:Nat}{cs:List af}(l:List Nat)(cZ:n=l.length)(b2:S.own[j]? =some (.cells cs))(bU:(cs.drop off).take l.length=l.map U)(hle:off+l.length≤cs.length)(a0:l.length≤cap):mF S (.cH (.g S.aa j) off n cap 1) l:=by subst cZ;exact .cH S.aa j off cap cs l (aC _) (by simpa [ah.get] using b2) bU hle a0
def hl(S:ah)(j:Nat)(l:List Nat):Prop:=S.own[j]? =some (.cells (l.map U))
def ah.put(S:ah)(j:Nat)(l:List Nat):ah:={S with own:=S.own.set j (.cells (l.map U))}
theorem hl.put{S:ah}{j:Nat}{l:List Nat}(h:hl S j l)(l':List Nat):hl (S.put j l') j l':=by have cL:=(dy.1 h).1;simp [hl,ah.put,cL]
theorem Child.put{s S:ah}(h:Child s S)(j:Nat)(l:List Nat):Child s (S.put j l):=⟨h.up,h.ro⟩
theorem hl.get{S:ah}{j:Nat}{l:List Nat}(h:hl S j l)(i n cap:Nat)(bZ:i<l.length)(cZ:i<n)(k:bd):(aQ T G X).bV S (fun v S=>(aQ T G X).aq S k none v) 1 (.cH (.l j) 0 n cap 1) (.int .i64 (i:Int))=k (U (l.getD i 0)) S:=by rw[gY _ _ _ _ _ _ _ cZ,ga h (c:=U (l.getD i 0)) (by simp [List.getD,bZ])]
theorem hl.gE{S:ah}{j:Nat}{l:List Nat}(h:hl S j l)(i n cap x:Nat)(bZ:i<l.length)(cZ:i<n)(k:bd):(aQ T G X).bV S (fun v S=>(aQ T G X).bm S k 1 v (U x)) 1 (.cH (.l j) 0 n cap 1) (.int .i64 (i:Int))=k .dead (S.put j (l.set i x)):=by rw[gY _ _ _ _ _ _ _ cZ,jZ];have e:(U x).e9=true:=rfl;simp -implicitDefEqProofs only[fh,e,af.cells,bT,ca,bh,e7,bz,bD];unfold h9;rw[show S.get (.l j)=some (.cells (l.map U)) from h];simp -implicitDefEqProofs only[Nat.mul_one,bT,ca,bh,show Nat.ble (i+1) (l.map U).length=true from ec (by simp;omega),show S.gL (.l j) [U x]=true from by simp [ah.gL,ah.oN],List.all_cons,show(U x).en=true from rfl,List.all_nil,bz,bD];show k .dead {S with own:=S.own.set j (.cells ((l.map U).set i (U x)))}=_;rw[ah.put,List.map_set]
theorem hl.make(S:ah)(n:Nat):hl (S.new (.cells (List.replicate n (U 0)))) S.own.length (List.replicate n 0):=by simp [hl,ah.new]
theorem hl.rd{S:ah}{j:Nat}{l:List Nat}(h:hl S j l)(n cap:Nat)(cZ:n≤l.length)(a0:n≤cap):mF S (.cH (.g S.aa j) 0 n cap 1) (l.take n):=by refine mF.own (l.take n) (by simp;omega) h ?_ (by simp;omega) (by simp;omega);simp [List.map_take]
theorem iY(d i o l c z:Nat):af.ao d (.cH (.l i) o l c z)=.cH (.g d i) o l c z:=rfl
theorem uB:∀l:List Nat,(l.map U).flatMap af.cells=l.map U
 |[]=>rfl
 |x::l=>by simp -implicitDefEqProofs only[fc,List.flatMap_cons,uB l];rfl
theorem uC:∀l:List Nat,(l.map U).all af.en=true
 |[]=>rfl
 |x::l=>by simp -implicitDefEqProofs only[fc,List.all_cons,uC l,Bool.and_true];rfl
theorem mF.mh{S:ah}{v:af}{l:List Nat}(h:mF S v l):dw S v=some (1,l.map U):=by
 cases h with
 |bx l g b2=>
  cases g with
  |cP a=>simp -implicitDefEqProofs only[dw,gJ,if_true]
  |_=>rfl
 |cH d j off cap cs l cW b2 bU hle a0=>simp -implicitDefEqProofs only[dw,b2];rw[mG l l.length (cs.drop off) rfl bU,gJ];rw[if_pos];simp -implicitDefEqProofs only[Nat.mul_one,ey,bo];exact⟨ec hle,rfl⟩
theorem CJ(vs cs:List af)(h:vs.length≤cs.length):dE cs 0 vs=vs++cs.drop vs.length:=by
 apply List.ext_getElem?;intro j;rw[hg _ _ _ (by omega)];by_cases cL:j<vs.length
 ·rw[if_pos (by omega),fB cL];rfl
 ·rw[if_neg (by omega),jt (by omega),List.getElem?_drop];congr 1;omega
theorem hl.copy{S:ah}{v:af}{l e:List Nat}{j n:Nat}(h:hl S j e)(bX:mF S v l)(bU:l.length≤e.length)(cZ:n=e.length)(k:bd):(aQ T G X).su S k 1 (.cH (.l j) 0 n n 1) v=k (.int .i64 (l.length:Int)) (S.put j (l++e.drop l.length)):=by subst cZ;show mq _ S k 1 (.cH (.l j) 0 e.length e.length 1) v=_;unfold mq;simp -implicitDefEqProofs only[e7,bD];unfold copyV;simp -implicitDefEqProofs only[bX.mh,show S.get (.l j)=some (.cells (e.map U)) from h,d0,Nat.min_eq_left bU,e7,ey,bh,Nat.mul_one,ec (aC _)];rw[show(l.map U).take l.length=l.map U from iV (by simp),uB,uC];simp -implicitDefEqProofs only[bD];rw[CJ _ _ (by simpa using bU)];simp -implicitDefEqProofs only[d0];show k _ {S with own:=S.own.set j (.cells (l.map U++(e.map U).drop l.length))}=_;rw[←List.map_drop,←List.map_append];rfl
theorem qw{S:ah}{j n:Nat}{cs vs:List af}(h:S.own[j]? =some (.cells cs))(ar:vs.length=n)(aw:cs.length=n)(bS:vs.all af.en=true):(aQ T G X).bm S k n (.ref (.l j) 0) (.agg vs)=k .dead {S with own:=S.own.set j (.cells vs)}:=by
 rw[jZ];unfold fh;simp -implicitDefEqProofs only[af.e9,af.cells,ar,e7,bz,bD];unfold h9;rw[show S.get (.l j)=some (.cells cs) from h];have e:dE cs 0 vs=vs:=uA _ _ (by omega);have dn:Nat.ble (0+vs.length) cs.length=true:=ec (by omega);have r:S.gL (.l j) vs=true:=by simp [ah.gL,ah.oN]
 simp -implicitDefEqProofs only[dn,r,bS,bz,bD,e];rfl
theorem rz{S:ah}{j n:Nat}{cs:List af}(h:S.own[j]? =some (.cells cs))(cZ:cs.length=n):k3 S (.ref (.l j) 0) (some n)=some (.agg cs):=by unfold k3;simp -implicitDefEqProofs only[show S.get (.l j)=some (.cells cs) from h,bh,bY];rw[if_pos (ec (by omega)),iV (by omega)]
theorem j5.freeze{v:af}{l:List Nat}(h:j5 v l)(S:ah):Ab.freeze S v=some v:=by obtain⟨g,rfl,b2⟩:=h;show et S _=_;cases g<;> first|rfl |exact absurd rfl (b2 _)
theorem j5.ao{v:af}{l:List Nat}(h:j5 v l)(d:Nat):v.ao d=v:=(h.rd default).ao d
theorem j5.et{v:af}{l:List Nat}(h:j5 v l)(S:ah):Ab.et S v=some v:=by obtain⟨g,rfl,b2⟩:=h;cases g<;> first|rfl |exact absurd rfl (b2 _)
theorem j5.bb{v:af}{l:List Nat}(h:j5 v l):v.bb=true:=by obtain⟨g,rfl,b2⟩:=h;cases g<;> first|rfl |exact absurd rfl (b2 _)
theorem j5.en{v:af}{l:List Nat}(h:j5 v l):v.en=true:=by obtain⟨g,rfl,b2⟩:=h;rfl
theorem j5.cut{v:af}{l:List Nat}(h:j5 v l)(n:Nat):j5 (p3 v n) (l.take n):=by obtain⟨g,rfl,b2⟩:=h;exact⟨p2 g (l.map U).length n,by simp [p3,List.map_take],wV b2 _ _⟩
theorem j5.fo(l:List Nat):j5 (.bx 1 (l.map U) .exact) l:=⟨.exact,rfl,fun a e=>by cases e⟩
theorem MU{S:ah}{j:Nat}{l:List Nat}(h:hl S j l):S.put j l=S:=by
 obtain⟨own,up,ro⟩:=S;simp -implicitDefEqProofs only[hl] at h;simp -implicitDefEqProofs only[ah.put];congr 1;apply List.ext_getElem?;intro i;by_cases e:j=i
 ·subst e;rw[List.getElem?_set_self (dy.1 h).1,h]
 ·rw[ix e]
theorem hl.I6{S:ah}{i j:Nat}{l:List Nat}(h:hl S j l)(eu:i≠j)(l':List Nat):hl (S.put i l') j l:=by simp -implicitDefEqProofs only[hl,ah.put] at h ⊢;rw[ix eu];exact h
theorem hl.new{S:ah}{j:Nat}{l:List Nat}(h:hl S j l)(o:b4):hl (S.new o) j l:=by simp -implicitDefEqProofs only[hl,ah.new] at h ⊢;rw[fB (dy.1 h).1];exact h
theorem hl.lt{S:ah}{j:Nat}{l:List Nat}(h:hl S j l):j<S.own.length:=(dy.1 h).1
theorem nh(a:af)(l:List af):(aQ T G X).b1 s k 0 (.ed (a::l))=k a s:=gX _ _ _ rfl
theorem ni(a b:af)(l:List af):(aQ T G X).b1 s k 1 (.ed (a::b::l))=k b s:=gX _ _ _ rfl
theorem tO(a b c:af)(l:List af):(aQ T G X).b1 s k 2 (.ed (a::b::c::l))=k c s:=gX _ _ _ rfl
theorem uD(l:List Nat):(aQ T G X).bf s k 1 (l.map U)=k (.bx 1 (l.map U) .exact) s:=by
 refine kn 1 _ (gJ l) ?_
 induction l with
 |nil=>rfl
 |cons x l e=>simp -implicitDefEqProofs only[fc,List.all_cons,e,Bool.and_true];rfl
end Go.Ab
end
section
namespace Go.Ab
def p4:ah:={own:=[],up:=[],ro:=[]}
def fU(w:World):bq:={F:=fun a=>if a.spot=none then w.cell? a else none,n:=fun _=>0,loc:=fun _ _=>0,mb:=fun _ _ _=>none}
theorem db.init(w:World):db (fU w) p4 w:=by
 have e:∀d i,p4.get (.g d i)=none:=by intro d i;simp [ah.get,p4]
 refine⟨fun a v h=>?_,fun d l h=>?_,fun d i o h=>?_,fun d i o gg hZ o' b h=>?_⟩
 ·simp only[fU] at h;split at h
  ·rename_i ba;exact⟨ba,h⟩
  ·cases h
 ·unfold ah.ap p4 at h;simp at h;simp [h,fU]
 ·rw[e] at h;cases h
 ·rw[e] at h;cases h
structure Left (w w':World):Prop where
 size:w.heap.size≤w'.heap.size
 os:w'.os=w.os
 tape:w'.tape=w.tape
 output:w'.output=w.output
 FR:∀b,b<w.heap.size→w'.heap[b]? =w.heap[b]?
theorem fP.left{w w':World}{κ':bq}{s':ah}(h:fP (fU w) p4 w κ' s' w'):Left w w':=
 ⟨h.size,h.os,h.tape,h.output,fun b e=>h.lq b e (fun⟨d,i,o,b2,_⟩=>by simp [ah.get,p4] at b2)⟩
section
variable{P:Program}(hm:P.follows .mixedOrders=true){T:lj}(e1:T.qv P){so:Nat→Option c8}(zl:F3 P T so){G:Nat→af}{X:Nat→List af→ah→ai}(lg:abx P so G X)
include hm e1 zl lg
theorem CK{n f:Nat}{args:List af}{s':ah}{w:World}{xs:List Value}(h:call .not so G X n f args p4=.ok (.bool true) s')(bA:so f≠none)(d8:kQ (fU w) G)(a1:eH (fU w) 1 args xs):
  Calls P f xs.toArray w fun e w'=>e=.returned (.bool true)∧Left w w':=by
 have y:∃fn,P.funcs[f]? =some fn∧fn.body.isSome=true∧(fn.name== "runtime.NumGoroutine")=false:=by
  cases eo:so f with
  |none=>exact absurd eo bA
  |some A=>
   obtain⟨fn,ar,aw⟩:=zl f A eo;unfold wI at aw;cases r:fn.body with
   |none=>rw[r] at aw;cases aw
   |some c=>rw[r] at aw;simp only[bo,Bool.not_eq_true'] at aw;exact⟨fn,ar,by simp [r],aw.1.1.1.1⟩
 have B:∀x w',nb (fU w) p4 w (.bool true) s' x w'→x=.bool true∧Left w w':=fun x w' ⟨κ',ar,_,bS⟩=>by exact⟨dK.ho (b:=true) bS,ar.left⟩
 rcases(wK hm e1 zl lg n 0).ok f args p4 _ s' (fU w) w xs h (db.init w) d8 a1 with⟨x,w',ar,aw⟩|⟨ar,aw⟩
 ·obtain⟨fn,F,u,H⟩:=y;exfalso;have I:¬fn.name= "runtime.NumGoroutine" :=by simpa using H
  cases r:fn.body with
  |none=>rw[r] at u;cases u
  |some c=>simp [callFunc,F,I,r] at ar
 ·exact aw.mono fun e w' ⟨x,he,hR⟩=>by obtain⟨dn,J⟩:=B x w' hR;exact⟨by rw[he,dn],J⟩
end
inductive qI where
 |bool|int (k:IntKind)|str|bx (e:qI)|gE (kb:List qI)
mutual
def qI.size:qI→Nat
 |.gE kb=>qI.p5 kb
 |_=>1
def qI.p5:List qI→Nat
 |[]=>0
 |s::ve=>s.size+qI.p5 ve
end
def elemV:List af→af
 |[c]=>c
 |cs=>.agg cs
section
variable{H:Type}
mutual
def iL:qI→DataW H→List af
 |.bool,d=>match d with |.lit (.bool b)=>[.bool b]|_=>[]
 |.int k,d=>match d with |.lit (.int _ n)=>[.int k n]|_=>[]
 |.str,d=>match d with |.lit (.string fo)=>[.str (fo.map UInt8.toNat)]|_=>[]
 |.bx e,d=>match d with |.slice es _=>[.bx e.size (es.map fun x=>elemV (iL e x)) .any]|_=>[.bx e.size [] .nil]
 |.gE kb,d=>match d with |.agg iE=>o7 kb iE|_=>[]
def o7:List qI→List (DataW H)→List af
 |[],_=>[]
 |s::ve,l=>match l with |d::iE=>iL s d++o7 ve iE|[]=>[]
end
mutual
def jq:qI→DataW H→Prop
 |.bool,d=>∃b,d=.lit (.bool b)
 |.int k,d=>∃n,d=.lit (.int k n)∧(Lit.int k n).wf=true
 |.str,d=>∃fo,d=.lit (.string fo)∧fo.length≤maxLen
 |.bx e,d=>d=.nil∨∃es rest,d=.slice es rest∧es.length+rest.length≤maxLen∧∀x,x∈es→jq e x
 |.gE kb,d=>∃iE,d=.agg iE∧lE kb iE
def lE:List qI→List (DataW H)→Prop
 |[],l=>l=[]
 |s::ve,l=>∃d iE,l=d::iE∧jq s d∧lE ve iE
end
mutual
def nj(P:Program):qI→TypeId→Bool
 |.bool,t=>match P.underlying t with |some .bool=>true|_=>false
 |.int k,t=>match P.underlying t with |some (.int l9)=>decide (l9=k)|_=>false
 |.str,t=>match P.underlying t with |some .string=>true|_=>false
 |.bx e,t=>match P.underlying t with |some (.slice u)=>nj P e u&&Nat.beq (P.cellsOf u) e.size&&Nat.blt 0 e.size|_=>false
 |.gE kb,t=>match P.underlying t with |some (.struct tz)=>tP P kb tz.toList 0&&Nat.beq (P.cellsOf t) (qI.p5 kb)|_=>false
def tP(P:Program):List qI→List Field→Nat→Bool
 |[],tz,_=>match tz with |[]=>true|_=>false
 |s::ve,tz,off=>match tz with |f::tz=>Nat.beq f.offset off&&Nat.beq (P.cellsOf f.type) s.size&&nj P s f.type&&tP P ve tz (off+s.size)|[]=>false
end
structure I7 (κ:bq) (D:Nat) (n:Nat) (as:List af) (cs:List Value):Prop where
 Uu:eH κ D as cs
 len:cs.length=n
 ref:af.aX as=true
 one:∀c,c∈as→c.cells=[c]
theorem I7.OF{κ:bq}{D n:Nat}{as:List af}{cs:List Value}(h:I7 κ D n as cs):as.length=n:=by rw[←h.Uu.1,h.len]
theorem I7.elem{κ:bq}{D n:Nat}{as:List af}{cs:List Value}(h:I7 κ D n as cs):(elemV as).cells=as∧(elemV as).bb=true:=by
 unfold elemV;split
 ·rename_i c
  have:=h.ref;simp only[af.aX,Bool.and_true] at this;exact⟨h.one c (by simp),this⟩
 ·exact⟨rfl,by simpa [af.bb] using h.ref⟩
theorem sw:∀{a b:List af},af.aX a=true→af.aX b=true→af.aX (a++b)=true
 |[],b,_,h=>h
 |x::a,b,h,k=>by simp only[af.aX,bo] at h;simp only[List.cons_append,af.aX,h.1,sw h.2 k,bz]
theorem I7.append{κ:bq}{D n m:Nat}{as fo:List af}{cs iE:List Value}(h:I7 κ D n as cs)(k:I7 κ D m fo iE):I7 κ D (n+m) (as++fo) (cs++iE):=
 ⟨h.Uu.append k.Uu,by simp [h.len,k.len],sw h.ref k.ref,fun c a0=>by
  rcases List.mem_append.1 a0 with ar|ar
  ·exact h.one c ar
  ·exact k.one c ar⟩
theorem I7.single{κ:bq}{D:Nat}{a:af}{v:Value}(h:dK κ D a v)(aV:a.bb=true)(ar:a.cells=[a]):I7 κ D 1 [a] [v]:=
 ⟨.cons h (.nil _ _),rfl,by simp [af.aX,aV],fun c a0=>by simp only[List.mem_singleton] at a0;subst a0;exact ar⟩
variable{enc:TypeId×Value→H}{P:Program}{w:World}
mutual
theorem p6(D:Nat):∀(F8:qI) (t:TypeId) (fuel:Nat) (cs:List Value) (d:DataW H) (er:List MemPlace),nj P F8 t=true→DataW.trod enc P w 0 (fun _=>true) true fuel t cs=some (d,er)→
  I7 (fU w) D F8.size (iL F8 d) cs∧jq F8 d
 |.bool,t,fuel,cs,d,er,ba,h=>by
  simp only[nj] at ba;split at ba<;> try cases ba
  rename_i hu;obtain⟨b,rfl,e⟩:=DataW.trod_bool hu h;cases e;exact⟨.single (.bool b) rfl rfl,by simp only[jq];exact⟨b,rfl⟩⟩
 |.int k,t,fuel,cs,d,er,ba,h=>by
  simp only[nj] at ba;split at ba<;> try cases ba
  rename_i l9 hu;have cK:l9=k:=of_decide_eq_true ba;subst cK;obtain⟨n,rfl,e,hw⟩:=DataW.trod_int hu h;cases e;exact⟨.single (.int l9 n) rfl rfl,by simp only[jq];exact⟨n,rfl,hw⟩⟩
 |.str,t,fuel,cs,d,er,ba,h=>by
  simp only[nj] at ba;split at ba<;> try cases ba
  rename_i hu;obtain⟨s,rfl,e,hw⟩:=DataW.trod_string hu h;cases e;exact⟨.single (.str _ s rfl) rfl rfl,by simp only[jq];exact⟨_,rfl,hw⟩⟩
 |.bx e,t,fuel,cs,d,er,ba,h=>by
  simp only[nj] at ba;split at ba<;> try cases ba
  rename_i u hu;simp only[bo] at ba;obtain⟨⟨ahV,fi⟩,lh⟩:=ba;have fi:=dq fi;have lh:0<e.size:=by simpa [Nat.blt_eq] using lh
  rcases DataW.trod_slice hu h with⟨rfl,dn⟩|⟨a,len,cap,mh,rest,n,rfl,rfl,dn,_,u6,pk,hlen,iQ,ahW,_⟩
  ·cases dn;exact⟨.single (.lo _) rfl rfl,by simp only[jq];exact .inl trivial⟩
  ·cases dn;have row:∀i,i<len→∃x r,mh[i]? =some x∧(∀j,j<e.size→w.cell? (a.add (i*e.size+j))=r[j]?)∧I7 (fU w) D e.size (iL e x.1) r∧jq e x.1:=fun i bZ=>by
    have ar:=iQ i bZ;obtain⟨x,a1⟩:∃x,mh[i]? =some x:=⟨_,eb (by omega)⟩;rw[a1] at ar;obtain⟨r,aV,aw⟩:=Option.bind_eq_some_iff.1 ar;obtain⟨_,py,wk⟩:=World.cells?_some aV;obtain⟨k1,pz⟩:=p6 D e u n r x.1 x.2 ahV aw;refine⟨x,r,a1,fun j cL=>?_,k1,pz⟩
    have:=wk j (by omega);rw[add_add,fi] at this;exact this
   have abM:=(ahW rfl).1;have kI:∀y,y∈mh→∃r,I7 (fU w) D e.size (iL e y.1) r∧jq e y.1:=fun y ez=>by
    obtain⟨i,bZ,ez⟩:=List.getElem_of_mem ez;obtain⟨x,r,a1,_,k1,pz⟩:=row i (by omega)
    have:x=y:=by rw[eb bZ,ez] at a1;exact(Option.some.inj a1).symm
    subst this;exact⟨r,k1,pz⟩
   have I8:∀y,y∈(mh.map (·.1)).map (fun x=>elemV (iL e x))→y.cells.length=e.size∧y.bb=true:=fun y ez=>by simp only[List.map_map,List.mem_map,Function.comp] at ez;obtain⟨z,gA,rfl⟩:=ez;obtain⟨r,k1,_⟩:=kI z gA;exact⟨by rw[k1.elem.1,k1.OF],k1.elem.2⟩
   have yF:((mh.map (·.1)).map (fun x=>elemV (iL e x))).length=len:=by simp [hlen]
   have OG:=fl ((mh.map (·.1)).map (fun x=>elemV (iL e x))) e.size (fun y ez=>(I8 y ez).1);rw[yF] at OG;have cell:∀j,j<len*e.size→∃c v,(((mh.map (·.1)).map (fun x=>elemV (iL e x))).flatMap af.cells)[j]? =some c∧w.cell? (a.add j)=some v∧dK (fU w) D c v:=fun j cL=>by
    have fz:j/e.size<len:=Nat.div_lt_of_lt_mul (by rw[eM];exact cL);have iP:j%e.size<e.size:=Nat.mod_lt _ lh;have vX:j/e.size*e.size+j%e.size=j:=by rw[eM];exact Nat.div_add_mod j e.size
    obtain⟨x,r,a1,a0,k1,_⟩:=row _ fz;have a0:=a0 _ iP;rw[vX] at a0;have dn:((mh.map (·.1)).map (fun x=>elemV (iL e x)))[j/e.size]? =some (elemV (iL e x.1)):=by simp [a1]
    have f1:=oq _ e.size _ _ (fun y ez=>(I8 y ez).1) dn _ iP;rw[vX,k1.elem.1] at f1;obtain⟨c,F9⟩:∃c,(iL e x.1)[j%e.size]? =some c:=⟨_,eb (by rw[k1.OF];exact iP)⟩;obtain⟨v,bX,abN⟩:=k1.Uu.get F9;exact⟨c,v,by rw[f1,F9],by rw[a0,bX],abN⟩
   have OH:0<len→a.spot=none:=fun eO=>by
    obtain⟨c,v,_,bX,_⟩:=cell 0 (Nat.mul_pos eO lh)
    have:a.add 0=a:=by simp [Addr.add]
    rw[this] at bX;exact World.cell?_spot bX
   refine⟨.single ?_ (by simp [af.bb]) rfl,?_⟩
   ·have key:dK (fU w) D (.bx e.size ((mh.map (·.1)).map (fun x=>elemV (iL e x))) .any) (.slice (some a) ((mh.map (·.1)).map (fun x=>elemV (iL e x))).length cap):=by
     refine .bx e.size _ .any a cap (fun j=>(w.cell? (a.add j)).getD undef) trivial (by rw[yF];exact u6) (fun eu=>OH ?_) (fun y ez=>(I8 y ez).1) (.inl fun y ez=>(I8 y ez).2) (fun j cL=>?_) (fun j c a0=>?_)
     ·rw[←yF];exact List.length_pos_iff.2 eu
     ·rw[OG] at cL;obtain⟨c,v,_,bX,_⟩:=cell j cL;have eO:0<len:=Nat.pos_of_ne_zero fun ml=>by rw[ml] at cL;simp at cL
      simp only[fU,m5 (OH eO),if_true,bX,Option.getD_some]
     ·have cL:j<len*e.size:=by rw[←OG];exact(dy.1 a0).1
      obtain⟨oK,v,lr,bX,abN⟩:=cell j cL;rw[a0] at lr;cases lr;simp only[bX,Option.getD_some];exact abN
    rw[yF] at key;exact key
   ·simp only[jq];refine .inr ⟨_,_,rfl,by simp [hlen,abM];omega,fun x a1=>?_⟩;simp only[List.mem_map] at a1;obtain⟨y,ez,rfl⟩:=a1;exact(kI y ez).choose_spec.2
 |.gE kb,t,fuel,cs,d,er,ba,h=>by
  simp only[nj] at ba;split at ba<;> try cases ba
  rename_i tz hu;simp only[bo] at ba;have fi:=dq ba.2;obtain⟨xs,n,rfl,dn,bU,gv,bA⟩:=DataW.trod_struct hu h;cases dn
  have:=sx D kb tz.toList 0 n cs xs ba.1 (by simpa using gv) (by rw[bU,fi];omega) (fun i f bZ=>by simpa using bA i f (by simpa using bZ));refine⟨?_,?_⟩
  ·simpa [iL,qI.size] using this.1
  ·simp only[jq];exact⟨_,rfl,this.2⟩
theorem sx(D:Nat):∀(ve:List qI) (tz:List Field) (off n:Nat) (cs:List Value) (xs:List (DataW H×List MemPlace)),tP P ve tz off=true→xs.length=tz.length→cs.length=off+qI.p5 ve→
  (∀(i:Nat) (f:Field),tz[i]? =some f→DataW.trod enc P w 0 (fun _=>true) true n f.type ((cs.drop f.offset).take (P.cellsOf f.type))=xs[i]?)→
  I7 (fU w) D (qI.p5 ve) (o7 ve (xs.map (·.1))) (cs.drop off)∧lE ve (xs.map (·.1))
 |[],tz,off,n,cs,xs,ba,a1,bU,bA=>by
  cases tz with
  |cons f tz=>simp [tP] at ba
  |nil=>obtain rfl:xs=[]:=jj (by simpa using a1);simp only[qI.p5,Nat.add_zero] at bU;rw[lm (by omega)];exact⟨⟨.nil _ _,rfl,rfl,fun c a0=>by simp [o7] at a0⟩,by simp [lE]⟩
 |s::ve,tz,off,n,cs,xs,ba,a1,bU,bA=>by
  cases tz with
  |nil=>simp [tP] at ba
  |cons f tz=>
   simp only[tP,bo] at ba;obtain⟨⟨⟨ar,aw⟩,bS⟩,dB⟩:=ba;have ar:=dq ar;have aw:=dq aw;cases xs with
   |nil=>simp at a1
   |cons x xs=>
    have tQ:=bA 0 f rfl;simp only[List.getElem?_cons_zero] at tQ;rw[ar,aw] at tQ;obtain⟨k1,pz⟩:=p6 D s f.type n _ x.1 x.2 bS tQ;simp only[qI.p5] at bU;obtain⟨zA,abO⟩:=sx D ve tz (off+s.size) n cs xs dB (by simpa using a1) (by omega) (fun i yp bZ=>by simpa using bA (i+1) yp (by simpa using bZ));refine⟨?_,?_⟩
    ·have dn:cs.drop off=(cs.drop off).take s.size++cs.drop (off+s.size):=by
      rw[←List.drop_drop];exact(List.take_append_drop _ _).symm
     rw[dn];simpa [o7,qI.p5] using k1.append zA
    ·simp only[fc,lE];exact⟨_,_,rfl,pz,abO⟩
end
end
end Go.Ab
end
section
namespace Go.Ab
open Go.ChangeShapes Go.WideShapes
section
variable{H:Type}{enc:TypeId×Value→H}{P:Program}
def wW:qI→DataW H→af
 |.gE kb,d=>.agg (iL (.gE kb) d)
 |F8,d=>(iL F8 d).headD .dead
theorem Ga{W:World}(D:Nat){F8:qI}{t:TypeId}{v:Value}{d:DataW H}{er:List MemPlace}{base:Nat}(ba:nj P F8 t=true)(bX:Value.okWide P W .any base t v)(h:DataW.Trod enc P W 0 (fun _=>true) true t v d er):
  dK (fU W) D (wW F8 d) v∧jq F8 d:=by
 obtain⟨fuel,h⟩:=h;obtain⟨ar,aw⟩:=p6 D F8 t fuel _ d er ba h;refine⟨?_,aw⟩;have single:F8.size=1→(∀cs,v≠.agg cs)→dK (fU W) D ((iL F8 d).headD .dead) v:=fun gA eu=>by
  have a0:v.cells.toList=[v]:=by
   cases v<;> try rfl
   exact absurd rfl (eu _)
  rw[a0] at ar;have r:=ar.OF;rw[gA] at r
  match fz:iL F8 d,r with
  |[c],_=>obtain⟨x,a1,aV⟩:=ar.Uu.get (j:=0) (c:=c) (by rw[fz];rfl);cases a1;exact aV
 cases F8 with
 |gE kb=>
  simp only[nj] at ba;split at ba<;> try cases ba
  rename_i tz hu;unfold Value.okWide at bX;rw[hu] at bX;obtain⟨cs,rfl,_,_⟩:=bX;exact .agg _ cs.toList ar.Uu.1 ar.Uu.2
 |bool=>
  refine single rfl fun cs e=>?_
  subst e;simp only[nj] at ba;split at ba<;> try cases ba
  rename_i hu;simp [Value.okWide,hu,Cell.okWide,Cell.ok] at bX
 |int k=>
  refine single rfl fun cs e=>?_
  subst e;simp only[nj] at ba;split at ba<;> try cases ba
  rename_i hu;simp [Value.okWide,hu,Cell.okWide,Cell.ok] at bX
 |str=>
  refine single rfl fun cs e=>?_
  subst e;simp only[nj] at ba;split at ba<;> try cases ba
  rename_i hu;simp [Value.okWide,hu,Cell.okWide,Cell.ok] at bX
 |bx e=>
  refine single rfl fun cs e=>?_
  subst e;simp only[nj] at ba;split at ba<;> try cases ba
  rename_i hu;simp [Value.okWide,hu,Cell.okWide,Cell.ok] at bX
def OI:List qI→List (DataW H)→List af
 |s::ve,d::iE=>wW s d::OI ve iE
 |_,_=>[]
def wX(P:Program):List qI→List TypeId→Bool
 |[],[]=>true
 |s::ve,t::e=>nj P s t&&wX P ve e
 |_,_=>false
theorem uE{W:World}(D:Nat){base:Nat}:∀(r:List qI) (e:List TypeId) (vs:List Value) (iE:List (DataW H)) (er:List MemPlace),wX P r e=true→(∀(j:Nat) t v,e[j]? =some t→vs[j]? =some v→Value.okWide P W .any base t v)→
  DataW.TrodAll enc P W 0 (fun _=>true) true e vs iE er→eH (fU W) D (OI r iE) vs∧lE r iE
 |[],[],vs,iE,er,_,_,h=>by
  cases vs with
  |cons v vs=>simp [DataW.TrodAll] at h
  |nil=>
   cases iE with
   |cons d iE=>simp [DataW.TrodAll] at h
   |nil=>exact⟨.nil _ _,by simp [lE]⟩
 |s::ve,[],_,_,_,ba,_,_=>by simp [wX] at ba
 |[],t::e,_,_,_,ba,_,_=>by simp [wX] at ba
 |s::ve,t::e,vs,iE,er,ba,bX,h=>by
  cases vs with
  |nil=>cases iE<;> simp [DataW.TrodAll] at h
  |cons v vs=>
   cases iE with
   |nil=>simp [DataW.TrodAll] at h
   |cons d iE=>simp only[DataW.TrodAll] at h;obtain⟨p,q,ar,aw,_⟩:=h;simp only[wX,bo] at ba;obtain⟨k1,pz⟩:=Ga D ba.1 (bX 0 t v rfl rfl) ar;obtain⟨zA,abO⟩:=uE D ve e vs iE q ba.2 (fun j Uh f7 eo u=>bX (j+1) Uh f7 (by simpa using eo) (by simpa using u)) aw;refine⟨.cons k1 zA,?_⟩;simp only[lE];exact⟨_,_,rfl,pz,abO⟩
theorem Left.sameAt{W e:World}(h:Left W e){p:MemPlace}(fS:p.block<W.heap.size):W.sameAt e p:=by
 cases p with
 |cell b off=>show e.cell? _=W.cell? _;unfold World.cell?;simp only[h.FR b fS]
 |map b=>exact h.FR b fS
theorem zB{W r:World}(bU:laidOutB P=true)(u:Left W r):∀(e:List TypeId) (vs:List Value) (iE:List (DataW H)) (er:List MemPlace),(∀t,t∈e→P.readableRec t=true∧t<P.types.size)→(∀p,p∈er→p.block<W.heap.size)→
  DataW.TrodAll enc P W 0 (fun _=>true) true e vs iE er→DataW.TrodAll enc P r 0 (fun b=>decide (b<W.heap.size)) true e vs iE er
 |[],vs,iE,er,_,_,h=>by cases vs<;> cases iE<;> simp only[DataW.TrodAll] at h ⊢;exact h
 |t::e,vs,iE,er,eo,fS,h=>by
  cases vs with
  |nil=>cases iE<;> simp [DataW.TrodAll] at h
  |cons v vs=>
   cases iE with
   |nil=>simp [DataW.TrodAll] at h
   |cons d iE=>
    simp only[DataW.TrodAll] at h ⊢;obtain⟨p,q,ar,aw,rfl⟩:=h;have aV:=eo t (by simp);exact⟨p,q,WideElems.Trod_stays bU aV.1 aV.2 ar (fun x a1=>u.sameAt (fS x (by simp [a1]))) (fun x a1=>by simpa using fS x (by simp [a1])),
     zB bU u e vs iE q (fun Uh y=>eo Uh (by simp [y])) (fun x a1=>fS x (by simp [a1])) aw,rfl⟩
theorem Left.keptBut{W e:World}(h:Left W e)(may:MemPlace→Prop):W.keptBut e may:=by
 refine⟨h.os,h.output,fun i bZ=>?_⟩;rw[h.FR i bZ]
 have:∃o,W.heap[i]? =some o:=⟨_,Array.getElem?_eq_getElem bZ⟩;obtain⟨o,r⟩:=this;rw[r];cases o<;> simp
theorem Gb{f:Func}{s:ChangeSpec}{W A:World}{args:Array Value}{iE gs:List (DataW H)}{before:List MemPlace}(r:DataW.Whole enc P f.params.toList s.vars false W args.toList iE gs before)(bX:s.vars=[])
  (bA:∀(l:List (DataW H)),l.length=f.params.size→s.fn H l= {results:=[.lit (.bool true)],args:=l,vars:=[]}){tb:TypeId}(I:f.resultTypes= #[tb])(J:P.underlying tb=some .bool)(bU:laidOutB P=true)
  (M:∀t,t∈f.params.toList→P.readableRec t=true∧t<P.types.size)(B:Left W A):s.post enc P f false true false false W args (.bool true) A:=by
 have N:=r;have F:=r.lt;obtain⟨p,q,hR,u,rfl,_,_⟩:=r;rw[bX] at u;have O:gs=[]∧q=[]:=by cases gs<;> simp [DataW.TrodVars] at u;exact⟨rfl,u⟩
 obtain⟨rfl,rfl⟩:=O;have hlen:∀(e:List TypeId) (vs:List Value) (iE:List (DataW H)) (er:List MemPlace),DataW.TrodAll enc P W 0 (fun _=>true) true e vs iE er→iE.length=e.length:=by
  intro e
  induction e with
  |nil=>intro vs iE er h;cases vs<;> cases iE<;> simp [DataW.TrodAll] at h ⊢
  |cons t e U=>intro vs iE er h;cases vs<;> cases iE<;> simp only[DataW.TrodAll] at h;obtain⟨_,_,_,aw,_⟩:=h;simp [U _ _ _ aw]
 have y:=bA (iE++[]) (by simpa using hlen _ _ _ _ hR);refine⟨iE,[],p++[],[],p,[],N,?_,?_,?_,B.keptBut _,fun h=>by cases h⟩
 ·rw[y,I];exact⟨[],[],⟨1,by simp [DataW.trod,Value.cells,J]⟩,rfl,rfl⟩
 ·rw[y];simp only[n1] at F ⊢;exact zB bU B _ _ _ _ M F hR
 ·rw[y,bX];rfl
end
end Go.Ab
end
section
namespace Go.Ab
def ago:Value→af
 |.bool b=>.bool b
 |.int k n=>.int k n
 |.string _=>.str []
 |.pointer _=>.h7
 |.slice _ _ _=>.bx 0 [] .nil
 |.map _=>.fy
 |.nilFunc=>.iq
 |.nilIface=>.h8
 |_=>.dead
noncomputable def OJ(P:Program):lj:={eh:=fun t=>P.underlying t,info:=fun t=>(P.info? t).bind fun i=>i.zero.map fun z=>(i.size,i.bytes,z),abw:=fun t=>match (P.info? t).bind (·.zero) with |some z=>z.cells.toList.map ago|none=>[],eqs:=fun t=> !P.stoodInHeld t&& !P.eqGuardType P.depth t}
theorem OK{o:Option TypeInfo}{n b:Nat}{z:Value}(h:(o.bind fun i=>i.zero.map fun z=>(i.size,i.bytes,z))=some (n,b,z)):∃i,o=some i∧i.size=n∧i.bytes=b∧i.zero=some z:=by obtain⟨i,bZ,h⟩:=Option.bind_eq_some_iff.1 h;obtain⟨abv,gA,h⟩:=Option.map_eq_some_iff.1 h;cases h;exact⟨i,bZ,rfl,rfl,gA⟩
theorem sy(P:Program):(OJ P).qv P where
 eh:=fun _ _ h=>h
 info:=fun t _ _ _ h=>OK (o:=P.info? t) h
 eqs:=fun t h=>by have e:(!P.stoodInHeld t&& !P.eqGuardType P.depth t)=true:=h;simpa using e
 FT:=fun _ _ h=>by cases h
noncomputable def agp(P:Program)(n:Nat):lj:={OJ P with FT:=fun f j=>Nat.beq f n&&Nat.beq j 0}
theorem Uv(P:Program)(n:Nat)(h:Co P n 0):(agp P n).qv P where
 eh:=(sy P).eh
 info:=(sy P).info
 eqs:=(sy P).eqs
 FT:=fun f j e=>by have e:(Nat.beq f n&&Nat.beq j 0)=true:=e;simp only[bo] at e;have ar:=dq e.1;have aw:=dq e.2;subst ar;subst aw;exact h
def ah.on(s:ah)(o:List b4):ah:={own:=o,up:=s.own::s.up,ro:=s.ro}
theorem ah.ht(s:ah)(o:List b4):(s.on o).aa=s.aa+1:=s.jB
theorem ah.Gc(s:ah)(o:List b4)(d:Nat):(s.on o).ap d=if d=s.aa+1 then some o else s.ap d:=by
 have h:=s.rV d;unfold ah.ap at h ⊢;rw[ah.ht];rw[ah.jB] at h;by_cases ar:d=s.aa+1
 ·simp [ar,ah.on]
 ·simp only[ar,↓reduceIte] at h ⊢;exact h
theorem ah.k6(s:ah)(o:List b4)(d i:Nat):(s.on o).get (.g d i)=if d=s.aa+1 then o[i]? else s.get (.g d i):=by rw[ah.m4,ah.m4,ah.Gc];split<;> rfl
theorem ah.I9(s:ah)(o:List b4){d i:Nat}{b:b4}(h:s.get (.g d i)=some b):(s.on o).get (.g d i)=some b:=by rw[ah.k6,if_neg (by have:=ah.gV h;omega)];exact h
theorem db.off{κ:bq}{s:ah}{o:List b4}{w:World}(h:db κ (s.on o) w):db κ s w:=h.pop (s:=s.on o) rfl
theorem Live.on{κ:bq}{s:ah}{o:List b4}{b:Nat}(h:Live κ (s.on o) b):Live κ s b∨∃i x,o[i]? =some x∧bp κ (s.aa+1) i x=some b:=by
 obtain⟨d,i,x,ar,aw⟩:=h;rw[ah.k6] at ar;split at ar
 ·rename_i cW;exact .inr ⟨i,x,ar,by rw[←cW];exact aw⟩
 ·exact .inl ⟨d,i,x,ar,aw⟩
theorem Live.up{κ:bq}{s:ah}{o:List b4}{b:Nat}(h:Live κ s b):Live κ (s.on o) b:=by obtain⟨d,i,x,ar,aw⟩:=h;exact⟨d,i,x,s.I9 o ar,aw⟩
theorem db.o8{κ:bq}{s:ah}{o:List b4}{w:World}(ba:db κ (s.on o) w){i:Nat}{x:b4}{b:Nat}(a1:o[i]? =some x)(e:bp κ (s.aa+1) i x=some b):¬Live κ s b:=fun⟨d,j,y,ar,aw⟩=>by have:=ba.inj (s.aa+1) i x d j y b (by rw[ah.k6,if_pos rfl];exact a1) (s.I9 o ar) e aw;have cW:=ah.gV ar;omega
def bq.back(κ κ':bq)(D:Nat):bq:=
 {F:=κ'.F,n:=fun d=>if d=D then κ.n d else κ'.n d,loc:=fun d i=>if d=D then κ.loc d i else κ'.loc d i,mb:=fun d i m=>if d=D then κ.mb d i m else κ'.mb d i m}
theorem db.lay{l:Nat}{κ κ':bq}{s s':ah}{o:List b4}{w w':World}(ba:db κ (s.on o) w)(he:hP l κ s w κ' s' w')(u:db κ' s' w')(bU:∀i x,o[i]? =some x→bp κ (s.aa+1) i x≠some l):
  ∃I,db I (s'.on o) w'∧hP l κ (s.on o) w I (s'.on o) w'∧(∀i,I.loc (s.aa+1) i=κ.loc (s.aa+1) i):=by
 have cW:s'.aa=s.aa:=he.aa;have O:hk κ' (κ.back κ' (s.aa+1)) (s'.aa+1):=by
  refine⟨fun _ _ h=>h,fun d A=>?_,fun d i A _=>?_,fun d i m x A _ h=>?_⟩
  ·simp only[bq.back];rw[if_neg (by omega)];exact aC _
  ·simp only[bq.back];rw[if_neg (by omega)]
  ·simp only[bq.back];rw[if_neg (by omega)];exact h
 have J:hk κ (κ.back κ' (s.aa+1)) (s.aa+1+1):=by
  refine⟨he.k.F,fun d A=>?_,fun d i A bZ=>?_,fun d i m x A bZ h=>?_⟩
  ·simp only[bq.back];split
   ·exact aC _
   ·exact he.k.n d (by omega)
  ·simp only[bq.back];split
   ·rfl
   ·exact he.k.loc d i (by omega) bZ
  ·simp only[bq.back];split
   ·exact h
   ·exact he.k.mb d i m x (by omega) bZ h
 have M:∀d i x,s'.get (.g d i)=some x→B7 (κ.back κ' (s.aa+1)) d i w' x∧bp (κ.back κ' (s.aa+1)) d i x=bp κ' d i x:=fun d i x h=>(u.obj d i x h).b3 (u.om h) (O.low (by have:=ah.gV h;omega)) (fun m=>by simp only[bq.back];rw[if_neg (by have:=ah.gV h;omega)]) (fun b _=>⟨rfl,fun _=>rfl⟩)
 have N:∀i x,o[i]? =some x→B7 (κ.back κ' (s.aa+1)) (s.aa+1) i w' x∧bp (κ.back κ' (s.aa+1)) (s.aa+1) i x=bp κ (s.aa+1) i x:=fun i x a1=>by
  have b2:(s.on o).get (.g (s.aa+1) i)=some x:=by rw[ah.k6,if_pos rfl];exact a1
  refine(ba.obj _ i x b2).b3 (ba.om b2) J (fun m=>by simp [bq.back]) (fun b r=>?_);have H:=ba.o8 a1 r;have U:b<w.heap.size:=by rcases ba.mP ⟨_,i,x,b2,r⟩ with⟨C,e,jA,B⟩|⟨fD,clock,B⟩<;> exact(Array.getElem?_eq_some_iff.1 B).1
  refine⟨he.lq b U (fun e=>bU i x a1 (e ▸ r)) H,fun y=>?_⟩;show κ'.F _=κ.F _;cases iC:κ.F ⟨b,y,none⟩ with
  |some v=>exact he.k.F _ _ iC
  |none=>
   cases V:κ'.F ⟨b,y,none⟩ with
   |none=>rfl
   |some v=>
    rcases he.pH ⟨b,y,none⟩ (by rw[V];simp) with ar|ar|ar
    ·exact absurd iC ar
    ·exact absurd ar (by simp only;omega)
    ·exact absurd ar H
 have get:∀d i x,(s'.on o).get (.g d i)=some x→(d=s.aa+1∧o[i]? =some x)∨(d≠s.aa+1∧s'.get (.g d i)=some x):=fun d i x h=>by
  rw[ah.k6,cW] at h;split at h
  ·rename_i ar;exact .inl ⟨ar,h⟩
  ·rename_i ar;exact .inr ⟨ar,h⟩
 have MV:∀d i x b,(s'.on o).get (.g d i)=some x→bp (κ.back κ' (s.aa+1)) d i x=some b→(d=s.aa+1∧o[i]? =some x∧bp κ (s.aa+1) i x=some b)∨(s'.get (.g d i)=some x∧bp κ' d i x=some b):=fun d i x b h r=>by
  rcases get d i x h with⟨rfl,ar⟩|⟨_,ar⟩
  ·exact .inl ⟨rfl,ar,(N i x ar).2 ▸ r⟩
  ·exact .inr ⟨ar,(M d i x ar).2 ▸ r⟩
 have Y:∀i x b,o[i]? =some x→bp κ (s.aa+1) i x=some b→b<w.heap.size:=fun i x b a1 r=>by
  have b2:(s.on o).get (.g (s.aa+1) i)=some x:=by rw[ah.k6,if_pos rfl];exact a1
  rcases ba.mP ⟨_,i,x,b2,r⟩ with⟨C,e,jA,B⟩|⟨fD,clock,B⟩<;> exact(Array.getElem?_eq_some_iff.1 B).1
 have apart:∀i x b d j y,o[i]? =some x→bp κ (s.aa+1) i x=some b→s'.get (.g d j)=some y→bp κ' d j y=some b→False:=fun i x b d j y a1 r ez Z=>ba.o8 a1 r (he.live b (Y i x b a1 r) ⟨d,j,y,ez,Z⟩)
 refine⟨κ.back κ' (s.aa+1),⟨u.jb,fun d l h=>?_,fun d i x h=>?_,fun d i x gg hZ kT b h ab e im=>?_⟩,⟨by rw[ah.ht];exact J,by rw[ah.ht,ah.ht,cW],he.size,he.os,he.tape,he.output,fun b r cZ H=>he.lq b r cZ (fun h=>H h.up),fun b r h=>?_,fun a ac=>?_⟩,fun i=>by simp [bq.back]⟩
 ·rw[ah.Gc,cW] at h;simp only[bq.back];split at h
  ·rename_i ar;simp only[bt] at h;rw[if_pos ar,ar];exact ba.len (s.aa+1) l (by rw[ah.Gc,if_pos rfl,h])
  ·rename_i ar;rw[if_neg ar];exact u.len d l h
 ·rcases get d i x h with⟨rfl,ar⟩|⟨_,ar⟩
  ·exact(N i x ar).1
  ·exact(M d i x ar).1
 ·rcases MV d i x b h e with⟨rfl,ar,aw⟩|⟨ar,aw⟩<;> rcases MV gg hZ kT b ab im with⟨rfl,bS,dB⟩|⟨bS,dB⟩
  ·have b2:∀i x,o[i]? =some x→(s.on o).get (.g (s.aa+1) i)=some x:=fun i x a1=>by rw[ah.k6,if_pos rfl];exact a1
   exact ba.inj _ i x _ hZ kT b (b2 i x ar) (b2 hZ kT bS) aw dB
  ·exact(apart i x b gg hZ kT ar aw bS dB).elim
  ·exact(apart hZ kT b d i x bS dB ar aw).elim
  ·exact u.inj d i x gg hZ kT b ar bS aw dB
 ·obtain⟨d,i,x,ar,aw⟩:=h;rcases MV d i x b ar aw with⟨rfl,bS,dB⟩|⟨bS,dB⟩
  ·exact⟨s.aa+1,i,x,by rw[ah.k6,if_pos rfl];exact bS,dB⟩
  ·exact(he.live b r ⟨d,i,x,bS,dB⟩).up
 ·rcases he.pH a ac with ar|ar|ar
  ·exact .inl ar
  ·exact .inr (.inl ar)
  ·exact .inr (.inr ar.up)
theorem hP.under{l:Nat}{A y H:bq}{B r F:ah}{o o':List b4}{u I J:World}(eO:hP l A B u y r I)(h:hP l y (r.on o) I H (F.on o') J)(nz:∀i x b,o[i]? =some x→bp y (r.aa+1) i x=some b→u.heap.size≤b):hP l A B u H F J:=by
 have cW:F.aa=r.aa:=by have:=h.aa;rw[ah.ht,ah.ht] at this;omega
 have h0:∀b,b<u.heap.size→Live y (r.on o) b→Live A B b:=fun b e bU=>by
  rcases bU.on with ar|⟨i,x,ar,aw⟩
  ·exact eO.live b e ar
  ·exact absurd (nz i x b ar aw) (by omega)
 refine⟨eO.k.trans (h.k.low (by rw[ah.ht,eO.aa];omega)),cW.trans eO.aa,Nat.le_trans eO.size h.size,h.os.trans eO.os,h.tape.trans eO.tape,h.output.trans eO.output,fun b e cZ M=>?_,fun b e bU=>?_,fun a N=>?_⟩
 ·rw[h.lq b (gy e eO.size) cZ (fun bU=>M (h0 b e bU)),eO.lq b e cZ M]
 ·exact h0 b e (h.live b (gy e eO.size) bU.up)
 ·rcases h.pH a N with ar|ar|ar
  ·exact eO.pH a ar
  ·exact .inr (.inl (Nat.le_trans eO.size ar))
  ·by_cases e:a.block<u.heap.size
   ·exact .inr (.inr (h0 _ e ar))
   ·exact .inr (.inl (by omega))
section
variable{T:lj}{gk:Nat}{rd:Bool}
theorem fG{a b:ad}{c:Code}(h:dv T gk rd (.seq a b) c=true):∃x y,c=.seq x y∧dv T gk rd a x=true∧dv T gk rd b y=true:=by cases c<;> simp only[dv,b5,bo] at h;exact⟨_,_,rfl,h.1,h.2⟩
theorem gK{os:List c3}{c:Code}(h:dv T gk rd (.region none os) c=true):∃id ops,c=.region id ops false∧jG T gk ops os ops.toList=true:=by
 cases c with
 |region id ops d=>
  cases d with
  |true=>simp [dv] at h
  |false=>exact⟨id,ops,rfl,by simpa only[dv] using h⟩
 |_=>simp [dv] at h
theorem mH{o:bN}{a b:ad}{c:Code}(h:dv T gk rd (.cond o a b) c=true):∃o' x y,c=.cond o' x y∧cQ o o'=true∧dv T gk rd a x=true∧dv T gk rd b y=true:=by cases c<;> simp only[dv,b5,bo] at h;exact⟨_,_,_,rfl,h.1.1,h.1.2,h.2⟩
theorem lS{i:Nat}{a:ad}{c:Code}(h:dv T gk rd (.block i a) c=true):∃x,c=.block i x∧dv T gk rd a x=true:=by cases c<;> simp only[dv,b5,bo] at h;have e:=dq h.1;subst e;exact⟨_,rfl,h.2⟩
theorem sA{m:gd}{a:ad}{c:Code}(h:dv T gk rd (.loop m a) c=true):∃x,c=.loop x∧dv T gk rd a x=true:=by cases c<;> simp only[dv,b5] at h;exact⟨_,rfl,h⟩
theorem o9{i:Nat}{c:Code}(h:dv T gk rd (.exit i) c=true):c=.exit i:=by cases c<;> simp only[dv,b5] at h;have e:=dq h;rw[e]
theorem CL{c:Code}(h:dv T gk rd .ret c=true):c=.ret:=by cases c<;> simp only[dv,b5] at h;rfl
theorem oC{ro:Option Nat}{P:Program}{Q:Exit→Act→World→Prop}{a:Act}{w:World}{c:Code}(h:dv T gk rd .skip c=true)(e:Q .normal a w):c.wpIn (yI ro) 0 P Q a w:=by
 cases c<;> simp only[dv,b5] at h
 ·exact wpIn_skip e
 ·exact wpIn_label e
end
def k7:Env:={F:=.not,ax:=fun _=>.dead,call:=fun _ _ _=>.fail,loop:=fun step b3 ap s k=>dX step b3 0 ap s k}
theorem OL(P:Program):nK P k7:=⟨⟨0,fun _ _ _ _ _=>rfl⟩,fun _ _ _ _ _ h=>(by cases h),fun _ _ _ _ _ _ _ _ h=>(by cases h)⟩
theorem abP(κ:bq):kQ κ k7.ax:=fun _=>⟨.dead _,rfl⟩
theorem CM{ty:TypeId}{ρ:Operand→Value}{c:Call}{l:Nat}(a0:∃y,c.callee=.value y∧ρ y=.func (.yield l) #[] #[]):∀dst pos after guard,execOp ρ ⟨dst,.call c,ty,pos,after,guard⟩=Instr.yield l (c.args.map ρ):=by
 intro dst pos after guard;obtain⟨y,ez,e⟩:=a0;have ar:resolve ρ c ty=(Pure.pure {target:=.fn (.yield l) #[],args:= #[]++c.args.map ρ}:Sem Deferred):=by simp only[resolve,ez,e,Deferred.ofValue]
 show(do let d←resolve ρ c ty;invoke d.target d.args)=_;rw[ar];simp [invoke]
section
variable{P:Program}{T:lj}(e1:T.qv P){κ:bq}{s:ah}{w:World}{g:Nat→af}{a:Act}{gk B:Nat}
include e1
theorem jc{os:List c3}{id:Nat}{ops:Array Oper}(c0:jG T gk ops os ops.toList=true)(h:fZ κ s w g a gk B k7.ax){g':Nat→af}{s':ah}(aV:hs k7 os g s=some (g',s')){Q:Exit→Act→World→Prop}
  (u:∀κ' w' f6,fP κ s w κ' s' w'→fZ κ' s' w' g' f6 gk B k7.ax→Q .normal f6 w'):(Code.region id ops false).wpIn (yI none) 0 P Q a w:=by
 obtain⟨hlen,y⟩:=iG c0;refine wpIn_region (rq e1 rfl (OL P) (List.range ops.size) os (by rw[hlen];simp) (fun j i A cL F=>?_) h aV u);obtain⟨H,e⟩:=dy.1 cL;rw[List.getElem_range] at e;subst e;have r:j<ops.size:=by simpa using H
 exact⟨ops[j],Array.getElem?_eq_getElem r,y j A _ F (by simp [r])⟩
omit e1 in
theorem j1{o:bN}{o':Operand}(e:cQ o o'=true)(h:fZ κ s w g a gk B k7.ax){b:Bool}(r:au k7.ax g o=.bool b):a.eval o'=.bool b:=by have:=bF h.ap h.ax e;rw[r] at this;exact dK.ho (b:=b) this
end
def ahX:List c3:=[⟨some 4,none,.alloc (List.replicate 40 (.bool false))⟩]
def agq:List c3:=[⟨some 8,none,.load none (.t 1)⟩,⟨some 9,none,.fM 1 40 (.t 4) (.t 8)⟩,⟨none,none,.store 1 (.t 9) (.c (.bool true))⟩]
def agr:List c3:=[⟨some 10,none,.load none (.t 1)⟩,⟨some 5,none,.move (.t 10)⟩]
def ags:List c3:=[⟨some 11,none,.move (.t 5)⟩,⟨some 12,none,.bin .geq (.t 11) (.c (.int .i64 0))⟩]
def agt:List c3:=[⟨some 13,none,.move (.t 5)⟩,⟨some 14,none,.bin .sub (.t 13) (.c (.int .i64 1))⟩,⟨some 5,none,.move (.t 14)⟩]
def agu:List c3:=[⟨some 15,none,.move (.t 5)⟩,⟨some 16,none,.fM 1 40 (.t 4) (.t 15)⟩,⟨some 17,none,.load none (.t 16)⟩,⟨some 18,none,.un .not (.t 17)⟩]
def OM:List c3:=[⟨some 19,none,.move (.t 5)⟩,⟨some 20,none,.load none (.t 1)⟩,⟨some 21,none,.bin .neq (.t 19) (.t 20)⟩,⟨some 22,none,.move (.t 21)⟩,⟨some 23,(some (22,true)),.move (.t 0)⟩,⟨some 24,(some (22,true)),.move (.t 5)⟩,
 ⟨some 25,(some (22,true)),.eN (.t 23) [.t 24]⟩,⟨some 26,(some (22,true)),.un .not (.t 25)⟩,⟨some 27,none,.pick (.t 22) (.t 26) (.c (.bool false))⟩]
def agv:List c3:=[⟨some 28,none,.load none (.t 2)⟩,⟨some 29,none,.move (.t 5)⟩,⟨some 30,none,.jw 12 (.t 28) (.t 29)⟩,⟨some 31,none,.fieldAddr 2 (.t 30)⟩,⟨some 32,none,.load none (.t 31)⟩,⟨some 33,none,.len false (.t 32)⟩,⟨some 34,none,.move (.c (.int .i64 0))⟩]
def agw:List c3:=[⟨some 35,none,.bin .lss (.t 34) (.t 33)⟩]
def agx:List c3:=[⟨some 36,none,.jw 1 (.t 32) (.t 34)⟩,⟨some 37,none,.load none (.t 36)⟩,⟨some 7,none,.move (.t 37)⟩]
def abd:List c3:=[⟨some 38,none,.move (.t 7)⟩,⟨some 39,none,.fM 1 40 (.t 4) (.t 38)⟩,⟨none,none,.store 1 (.t 39) (.c (.bool true))⟩]
def abe:List c3:=[⟨some 40,none,.bin .add (.t 34) (.c (.int .i64 1))⟩,⟨some 34,none,.move (.t 40)⟩]
def agy:ad:=.seq (.region none agw) (.seq (.cond (.t 35) .skip (.exit 2)) (.seq (.block 3 (.seq (.region none agx) (.region none abd))) (.region none abe)))
def abf:ad:=.seq (.region none agv) (.block 2 (.loop .e agy))
def abg:ad:=.seq (.seq (.region none OM) (.cond (.t 27) .ret .skip)) abf
def abh:ad:=.seq (.seq (.region none ags) (.cond (.t 12) .skip (.exit 0))) (.seq (.block 1 (.seq (.seq (.region none agu) (.cond (.t 18) (.exit 1) .skip)) abg)) (.region none agt))
def ahY:ad:=.seq (.region none ahX) (.seq (.region none agq) (.seq (.region none agr) (.block 0 (.loop .e abh))))
theorem ea{E:Env}{d:Option Nat}{op:gD}{os:List c3}{g:Nat→af}{s s':ah}{v:af}(h:aP E g s .ok .panic op=.ok v s'):hs E (⟨d,none,op⟩::os) g s=hs E os (cT g d v) s':=by simp only[hs,jW,gw,h,fp]
def iw(m:List Nat):List af:=(List.range 40).map fun j=>.bool (m.elem j)
theorem nS(m:List Nat):(iw m).length=40:=by simp [iw]
theorem nT(m:List Nat){x:Nat}(h:x<40):(iw m)[x]? =some (.bool (m.elem x)):=by simp [iw,List.getElem?_range h]
theorem CN(m:List Nat){x:Nat}(h:x<40):dE (iw m) x [.bool true]=iw (x::m):=by
 apply List.ext_getElem?;intro j;by_cases cL:j<40
 ·rw[hg _ _ _ (by rw[nS];simp;omega)];by_cases a1:j=x
  ·subst a1;rw[if_pos (by simp),nT _ cL];simp
  ·rw[if_neg (by simp;omega),nT _ cL,nT _ cL]
   have:(x::m).elem j=m.elem j:=by simp only[List.elem_cons];rw[show(j==x)=false from by simpa using a1]
   rw[this]
 ·rw[List.getElem?_eq_none (by rw[gh,nS];omega),List.getElem?_eq_none (by rw[nS];omega)]
structure yl (h0:af) (l i:Nat) (k:Int) (g:Nat→af):Prop where
 tQ:g 0=.kO l
 gZ:g 1=.bk [.int .i64 i]
 g2:g 2=.bk [h0]
 n9:g 4=.ref (.l 0) 0
 iO:g 5=.int .i64 k
structure rM (h0:af) (l i:Nat) (g:Nat→af):Prop where
 tQ:g 0=.kO l
 gZ:g 1=.bk [.int .i64 i]
 g2:g 2=.bk [h0]
 n9:g 4=.ref (.l 0) 0
abbrev ef(s:ah)(m:List Nat):ah:=s.on [.cells (iw m)]
theorem CO(s:ah)(m:List Nat){x:Nat}(h:x<40):fh k7 (ef s m) .ok 1 (.ref (.l 0) (0+x*1)) (.bool true)=.ok .dead (ef s (x::m)):=by have dn:(ef s m).get (.l 0)=some (.cells (iw m)):=rfl;simp only[fh,af.e9,af.cells,bT,ca,bh,e7,bz,bD,h9,dn,Nat.mul_one];have e:Nat.ble (x+1) (iw m).length=true:=ec (by rw[nS];omega);simp only[k7,a2.not,e,ah.gL,ah.oN,Bool.true_or,bz,List.all_cons,List.all_nil,af.en,bD,CN m h];rfl
theorem ON{n:Int}(ar: -2≤n)(aw:n≤100):IntKind.i64.wrap n=n:=by simp [IntKind.wrap,IntKind.bits,IntKind.signed];split<;> omega
theorem qx(n:Nat):ff (.int .i64 (n:Int))=some n:=by simp [ff]
section
variable{s:ah}{h0:af}{l i:Nat}{k:Int}{g:Nat→af}{m:List Nat}
theorem px(h:rM h0 l i g)(bZ:i<40):∃g',hs k7 agq g (ef s m)=some (g',ef s (i::m))∧rM h0 l i g':=by
 refine⟨_,(ea (v:=.int .i64 i) (s':=ef s m) ?_).trans ((ea (v:=.ref (.l 0) (0+i*1)) (s':=ef s m) ?_).trans ((ea (v:=.dead) (s':=ef s (i::m)) ?_).trans rfl)),?_⟩
 ·simp only[aP,au,h.gZ,dZ,e3];rfl
 ·simp only[aP,au,cT,h.n9,Nat.reduceEqDiff,if_false,if_true,hG,qx];rw[show Nat.blt i 40=true from by rw[Nat.blt_eq];exact bZ];rfl
 ·simp only[aP,au,cT,if_true,af.ao];exact CO s m bZ
 ·exact⟨by simp [cT,h.tQ],by simp [cT,h.gZ],by simp [cT,h.g2],by simp [cT,h.n9]⟩
theorem rk(h:rM h0 l i g):∃g',hs k7 agr g (ef s m)=some (g',ef s m)∧yl h0 l i i g':=by
 refine⟨_,(ea (v:=.int .i64 i) (s':=ef s m) ?_).trans ((ea (v:=.int .i64 i) (s':=ef s m) ?_).trans rfl),?_⟩
 ·simp only[aP,au,h.gZ,dZ,e3];rfl
 ·simp only[aP,au,cT,if_true];rfl
 ·exact⟨by simp [cT,h.tQ],by simp [cT,h.gZ],by simp [cT,h.g2],by simp [cT,h.n9],by simp [cT]⟩
theorem Cd(h:yl h0 l i k g):∃g',hs k7 ags g (ef s m)=some (g',ef s m)∧yl h0 l i k g'∧g' 12=.bool (decide (k≥0)):=by
 refine⟨_,(ea (v:=.int .i64 k) (s':=ef s m) ?_).trans ((ea (v:=.bool (decide (k≥0))) (s':=ef s m) ?_).trans rfl),?_,?_⟩
 ·simp only[aP,au,h.iO];rfl
 ·simp only[aP,au,cT,if_true];rfl
 ·exact⟨by simp [cT,h.tQ],by simp [cT,h.gZ],by simp [cT,h.g2],by simp [cT,h.n9],by simp [cT,h.iO]⟩
 ·simp [cT]
theorem ahQ(h:yl h0 l i k g)(ar:0≤k)(aw:k<40):∃g',hs k7 agt g (ef s m)=some (g',ef s m)∧yl h0 l i (k-1) g':=by
 refine⟨_,(ea (v:=.int .i64 k) (s':=ef s m) ?_).trans ((ea (v:=.int .i64 (k-1)) (s':=ef s m) ?_).trans ((ea (v:=.int .i64 (k-1)) (s':=ef s m) ?_).trans rfl)),?_⟩
 ·simp only[aP,au,h.iO];rfl
 ·simp only[aP,au,cT,if_true];show rL k7 _ _ (some (.int .i64 (IntKind.i64.wrap (k-1))))=_;rw[ON (by omega) (by omega)];rfl
 ·simp only[aP,au,cT,if_true];rfl
 ·exact⟨by simp [cT,h.tQ],by simp [cT,h.gZ],by simp [cT,h.g2],by simp [cT,h.n9],by simp [cT]⟩
theorem ahR(h:yl h0 l i k g){x:Nat}(cK:k=x)(a1:x<40):∃g',hs k7 agu g (ef s m)=some (g',ef s m)∧yl h0 l i k g'∧g' 18=.bool (!m.elem x):=by
 subst cK;refine⟨_,(ea (v:=.int .i64 (x:Nat)) (s':=ef s m) ?_).trans ((ea (v:=.ref (.l 0) (0+x*1)) (s':=ef s m) ?_).trans ((ea (v:=.bool (m.elem x)) (s':=ef s m) ?_).trans ((ea (v:=.bool (!m.elem x)) (s':=ef s m) ?_).trans rfl))),?_,?_⟩
 ·simp only[aP,au,h.iO];rfl
 ·simp only[aP,au,cT,h.n9,Nat.reduceEqDiff,if_false,if_true,hG,qx];rw[show Nat.blt x 40=true from by rw[Nat.blt_eq];exact a1];rfl
 ·simp only[aP,au,cT,if_true,dZ,show(ef s m).get (.l 0)=some (.cells (iw m)) from rfl,bh,Nat.mul_one];have ar:=nT m a1;obtain⟨e,he⟩:=dy.1 ar;rw[iy e,he];rfl
 ·simp only[aP,au,cT,if_true];rfl
 ·exact⟨by simp [cT,h.tQ],by simp [cT,h.gZ],by simp [cT,h.g2],by simp [cT,h.n9],by simp [cT,h.iO]⟩
 ·simp [cT]
end
theorem CP{es:List af}{hO:List Nat}(h:oQ es=some hO):es=hO.map fun n=>.int .i64 (n:Nat):=by
 induction es generalizing hO with
 |nil=>simp only[oQ,bt] at h;subst h;rfl
 |cons e es u=>
  unfold oQ at h;split at h
  ·rename_i r;cases r
  ·rename_i n l r;cases r;split at h
   ·rename_i cZ;obtain⟨l',ar,aw⟩:=Option.map_eq_some_iff.1 h;subst aw;rw[fc,←u ar];simp [Int.toNat_of_nonneg cZ]
   ·cases h
  ·cases h
theorem Gd{es:List af}{A:List (List Nat)}(h:pF es=some A):A.length=es.length∧∀(j:Nat) (e:af),es[j]? =some e→∃hO,A[j]? =some hO∧mr e=some hO:=by
 induction es generalizing A with
 |nil=>simp only[pF,bt] at h;subst h;exact⟨rfl,fun j e cL=>by simp at cL⟩
 |cons e es r=>
  simp only[pF] at h;obtain⟨hO,ar,aw⟩:=Option.bind_eq_some_iff.1 h;obtain⟨u,bS,dB⟩:=Option.map_eq_some_iff.1 aw;subst dB;obtain⟨i1,i2⟩:=r bS;refine⟨by simp [i1],fun j im cL=>?_⟩;cases j with
  |zero=>simp at cL;subst cL;exact⟨hO,rfl,ar⟩
  |succ j=>exact i2 j im (by simpa using cL)
theorem CQ{e:af}{hO:List Nat}(h:mr e=some hO):∃cs q4,e=.agg cs∧cs[2]? =some (.bx 1 (hO.map fun n=>.int .i64 (n:Nat)) q4):=by
 unfold mr at h;split at h
 ·rename_i cs;split at h
  ·rename_i es q4 a0;exact⟨cs,q4,rfl,by rw[a0,CP h]⟩
  ·cases h
 ·cases h
theorem zC{sz:Nat}:∀(n:Nat) (cs:List af) (j:Nat),j<n→(chunk sz n cs)[j]? =some (mX sz (cs.drop (j*sz)))
 |0,_,_,h=>absurd h (Nat.not_lt_zero _)
 |n+1,cs,0,_=>by simp [chunk]
 |n+1,cs,j+1,h=>by simp only[chunk,List.getElem?_cons_succ,zC n (cs.drop sz) j (by omega),List.drop_drop];rw[show sz+j*sz=(j+1)*sz by rw[fq];omega]
theorem OO{S:ah}{h0:af}{es:List af}{d:Nat}{κ:bq}{x:Value}(bX:dK κ d h0 x)(he:dw S h0=some (12,es)){k:Nat}{e:af}(cK:es[k]? =some e){hO:List Nat}(F:mr e=some hO):
  ∃p q q4,lf k7 S .ok 12 h0 (.int .i64 (k:Nat))=.ok p S∧hf k7 S .ok 2 p=.ok q S∧dZ k7 S .ok none q=.ok (.bx 1 (hO.map fun n=>.int .i64 (n:Nat)) q4) S:=by
 obtain⟨cs,q4,rfl,a0⟩:=CQ F;have y:=(dy.1 cK).1;have bx:∀z h g',h0=.bx z h g'→z=12→h=es→∃p q q4,lf k7 S .ok 12 h0 (.int .i64 (k:Nat))=.ok p S∧hf k7 S .ok 2 p=.ok q S∧dZ k7 S .ok none q=.ok (.bx 1 (hO.map fun n=>.int .i64 (n:Nat)) q4) S:=fun z h g' ar aw bS=>by
  subst ar aw bS;refine⟨.bk cs,.bk (cs.drop 2),q4,?_,rfl,?_⟩
  ·simp only[lf,qx,e7,bD,cK];rfl
  ·obtain⟨dB,r⟩:=dy.1 a0;simp only[dZ,iy dB,r];rfl
 unfold dw at he;split at he
 ·split at he
  ·simp only[bt,fb] at he;exact bx _ _ _ rfl he.1 he.2
  ·cases he
 ·simp only[bt,fb] at he;exact bx _ _ _ rfl he.1 he.2
 ·simp at he
 ·rename_i a off len cap sz;split at he
  ·rename_i H b2;simp only at he;split at he
   ·rename_i A;simp only[bt,fb] at he;obtain⟨rfl,he⟩:=he;simp only[bo] at A;have hle:=d9 A.1.2;have B:k<len:=by rw[←he,fK] at y;exact y
    have u:=cK;rw[←he,zC len _ k B] at u;have I:cs=((H.drop off).drop (k*12)).take 12:=by simp only[mX,bt,af.agg.injEq] at u;exact u.symm
    rw[I,List.getElem?_take,if_pos (by omega),List.getElem?_drop,List.getElem?_drop] at a0;refine⟨.ref a (off+k*12),.ref a (off+k*12+2),q4,?_,rfl,?_⟩
    ·simp only[lf,qx,e7,show Nat.blt k len=true from by rw[Nat.blt_eq];exact B,bz,bD];rfl
    ·rw[show off+(k*12+2)=off+k*12+2 by omega] at a0;obtain⟨dB,r⟩:=dy.1 a0;simp only[dZ,b2,iy dB,r];rfl
   ·cases he
  ·cases he
 ·cases he
section
variable{s:ah}{h0:af}{l i:Nat}{k:Int}{g:Nat→af}{m:List Nat}
structure OP (h0:af) (l i:Nat) (k:Int) (hO:List Nat) (q:Nat) (g:Nat→af):Prop extends yl h0 l i k g where
 Uw:∃q4,g 32=.bx 1 (hO.map fun n=>.int .i64 (n:Nat)) q4
 OQ:g 33=.int .i64 hO.length
 MW:g 34=.int .i64 q
theorem agm(h:yl h0 l i k g){x:Nat}(cK:k=x){es:List af}{d:Nat}{κ:bq}{v:Value}(bX:dK κ d h0 v)(he:dw (ef s m) h0=some (12,es)){e:af}(a1:es[x]? =some e){hO:List Nat}(r:mr e=some hO):∃g',hs k7 agv g (ef s m)=some (g',ef s m)∧OP h0 l i k hO 0 g':=by
 subst cK;obtain⟨p,q,q4,ar,aw,bS⟩:=OO bX he a1 r;refine⟨_,(ea (v:=h0) (s':=ef s m) ?_).trans ((ea (v:=.int .i64 (x:Nat)) (s':=ef s m) ?_).trans ((ea (v:=p) (s':=ef s m) ?_).trans ((ea (v:=q) (s':=ef s m) ?_).trans ((ea (v:=.bx 1 (hO.map fun n=>.int .i64 (n:Nat)) q4) (s':=ef s m) ?_).trans ((ea (v:=.int .i64 (hO.length:Nat)) (s':=ef s m) ?_).trans ((ea (v:=.int .i64 0) (s':=ef s m) ?_).trans rfl)))))),?_⟩
 ·simp only[aP,au,h.g2,dZ,e3];rfl
 ·simp only[aP,au,cT,h.iO,Nat.reduceEqDiff,if_false];rfl
 ·simp only[aP,au,cT,Nat.reduceEqDiff,if_false,if_true];exact ar
 ·simp only[aP,au,cT,if_true];exact aw
 ·simp only[aP,au,cT,if_true];exact bS
 ·simp only[aP,au,cT,if_true,qL,d0];rfl
 ·simp only[aP,au];rfl
 ·exact⟨⟨by simp [cT,h.tQ],by simp [cT,h.gZ],by simp [cT,h.g2],by simp [cT,h.n9],by simp [cT,h.iO]⟩,⟨q4,by simp [cT]⟩,by simp [cT],by simp [cT]⟩
theorem agn{hO:List Nat}{q:Nat}(h:OP h0 l i k hO q g):∃g',hs k7 agw g (ef s m)=some (g',ef s m)∧OP h0 l i k hO q g'∧g' 35=.bool (decide (q<hO.length)):=by
 refine⟨_,(ea (v:=.bool (decide ((q:Int)<hO.length))) (s':=ef s m) ?_).trans rfl,?_,?_⟩
 ·simp only[aP,au,h.OQ,h.MW];rfl
 ·obtain⟨q4,e⟩:=h.Uw;exact⟨⟨by simp [cT,h.tQ],by simp [cT,h.gZ],by simp [cT,h.g2],by simp [cT,h.n9],by simp [cT,h.iO]⟩,⟨q4,by simp [cT,e]⟩,by simp [cT,h.OQ],by simp [cT,h.MW]⟩
 ·simp [cT]
theorem ahZ{hO:List Nat}{q x:Nat}(h:OP h0 l i k hO q g)(a1:hO[q]? =some x):∃g',hs k7 agx g (ef s m)=some (g',ef s m)∧OP h0 l i k hO q g'∧g' 7=.int .i64 x:=by
 obtain⟨q4,e⟩:=h.Uw;refine⟨_,(ea (v:=.bk [.int .i64 x]) (s':=ef s m) ?_).trans ((ea (v:=.int .i64 x) (s':=ef s m) ?_).trans ((ea (v:=.int .i64 x) (s':=ef s m) ?_).trans rfl)),?_,?_⟩
 ·simp only[aP,au,e,h.MW,lf,qx,e7,bD,gb,a1,ep];rfl
 ·simp only[aP,au,cT,if_true,dZ,e3];rfl
 ·simp only[aP,au,cT,if_true];rfl
 ·exact⟨⟨by simp [cT,h.tQ],by simp [cT,h.gZ],by simp [cT,h.g2],by simp [cT,h.n9],by simp [cT,h.iO]⟩,⟨q4,by simp [cT,e]⟩,by simp [cT,h.OQ],by simp [cT,h.MW]⟩
 ·simp [cT]
theorem ah0{hO:List Nat}{q x:Nat}(h:OP h0 l i k hO q g)(e:g 7=.int .i64 x)(a1:x<40):∃g',hs k7 abd g (ef s m)=some (g',ef s (x::m))∧OP h0 l i k hO q g':=by
 obtain⟨q4,r⟩:=h.Uw;refine⟨_,(ea (v:=.int .i64 x) (s':=ef s m) ?_).trans ((ea (v:=.ref (.l 0) (0+x*1)) (s':=ef s m) ?_).trans ((ea (v:=.dead) (s':=ef s (x::m)) ?_).trans rfl)),?_⟩
 ·simp only[aP,au,e];rfl
 ·simp only[aP,au,cT,h.n9,Nat.reduceEqDiff,if_false,if_true,hG,qx];rw[show Nat.blt x 40=true from by rw[Nat.blt_eq];exact a1];rfl
 ·simp only[aP,au,cT,if_true,af.ao];exact CO s m a1
 ·exact⟨⟨by simp [cT,h.tQ],by simp [cT,h.gZ],by simp [cT,h.g2],by simp [cT,h.n9],by simp [cT,h.iO]⟩,⟨q4,by simp [cT,r]⟩,by simp [cT,h.OQ],by simp [cT,h.MW]⟩
theorem abQ{hO:List Nat}{q:Nat}(h:OP h0 l i k hO q g)(fz:(q:Int)+1≤9223372036854775807):∃g',hs k7 abe g (ef s m)=some (g',ef s m)∧OP h0 l i k hO (q+1) g':=by
 obtain⟨q4,e⟩:=h.Uw;have hw:IntKind.i64.wrap ((q:Int)+1)=((q+1:Nat):Int):=by simp [IntKind.wrap,IntKind.bits,IntKind.signed];split<;> omega
 refine⟨_,(ea (v:=.int .i64 ((q+1:Nat):Int)) (s':=ef s m) ?_).trans ((ea (v:=.int .i64 ((q+1:Nat):Int)) (s':=ef s m) ?_).trans rfl),?_⟩
 ·simp only[aP,au,h.MW];show rL k7 _ _ (some (.int .i64 (IntKind.i64.wrap ((q:Int)+1))))=_;rw[hw];rfl
 ·simp only[aP,au,cT,if_true];rfl
 ·exact⟨⟨by simp [cT,h.tQ],by simp [cT,h.gZ],by simp [cT,h.g2],by simp [cT,h.n9],by simp [cT,h.iO]⟩,⟨q4,by simp [cT,e]⟩,by simp [cT,h.OQ],by simp [cT]⟩
end
section
variable{P:Program}{T:lj}(e1:T.qv P){s:ah}{h0:af}{l i:Nat}{k:Int}{B:Nat}
include e1
theorem Ge{c:Code}(c0:dv T 41 false (.loop .e agy) c=true){hO:List Nat}(M:∀x,x∈hO→x<40)(hlen:hO.length<9223372036854775807){κ:bq}{w:World}{g:Nat→af}{a:Act}{m:List Nat}(h:fZ κ (ef s m) w g a 41 B k7.ax)(b2:OP h0 l i k hO 0 g):
  c.wpIn (yI none) 0 P (fun e f6 w'=>e=.exit 2∧∃κ' g' jU,fP κ (ef s m) w κ' (ef s jU) w'∧fZ κ' (ef s jU) w' g' f6 41 B k7.ax∧yl h0 l i k g'∧∀x,jU.elem x=(hO++m).elem x) a w:=by
 obtain⟨aE,rfl,ar⟩:=sA c0;obtain⟨aF,aG,rfl,N,aw⟩:=fG ar;obtain⟨aH,aI,rfl,O⟩:=gK N;obtain⟨aJ,aK,rfl,U,bS⟩:=fG aw;obtain⟨aL,aM,ce,rfl,F9,V,Y⟩:=mH U;obtain rfl:=o9 Y;obtain⟨aN,aO,rfl,y,Z⟩:=fG bS;obtain⟨aP,rfl,y⟩:=lS y;obtain⟨aQ,aR,rfl,aa,ab⟩:=fG y;obtain⟨aS,aT,rfl,ac⟩:=gK aa;obtain⟨aU,aV,rfl,ad⟩:=gK ab;obtain⟨aW,aX,rfl,ae⟩:=gK Z;refine pS (fun n f6 w'=>∃κ' g' q jU,n=hO.length-q∧q≤hO.length∧fP κ (ef s m) w κ' (ef s jU) w'∧fZ κ' (ef s jU) w' g' f6 41 B k7.ax∧OP h0 l i k hO q g'∧∀x,jU.elem x=(hO.take q++m).elem x) (fun n f6 w' ag=>?_) (n:=hO.length) ⟨κ,g,0,m,rfl,Nat.zero_le _,.refl _ _ _,h,b2,fun x=>rfl⟩;obtain⟨aY,gZ,q,zA,cZ,fz,A,ah,ai,F⟩:=ag;obtain⟨g2,aj,H,I⟩:=agn (s:=s) (m:=zA) ai;refine wpIn_seq (jc e1 O ah aj fun ak aZ a0 J u=>?_);refine wpIn_seq ?_;by_cases r:q<hO.length
 ·refine wpIn_cond_true (j1 F9 u (b:=true) (by show g2 35=_;rw[I];simp [r])) (oC V ?_);have a1:hO[q]? =some hO[q]:=eb r;obtain⟨a2,al,am,an⟩:=ahZ (s:=s) (m:=zA) H a1;refine wpIn_seq (wpIn_block (wpIn_seq (jc e1 ac u al fun a3 a4 a5 ao ap=>?_)));obtain⟨n9,aq,au⟩:=ah0 (s:=s) (m:=zA) am an (M _ (mW r));refine jc e1 ad ap aq fun a6 a7 a8 av ay=>?_
  obtain⟨iO,az,aA⟩:=abQ (s:=s) (m:=hO[q]::zA) au (by omega);refine jc e1 ae ay az fun aB a9 ba aC aD=>?_
  refine⟨hO.length-(q+1),by omega,aB,iO,q+1,hO[q]::zA,rfl,r,(((A.trans J).trans ao).trans av).trans aC,aD,aA,fun x=>?_⟩;rw[List.take_succ_eq_append_getElem r]
  have:=F x;simp only[List.elem_eq_mem,List.mem_cons,List.mem_append,rc,or_false,decide_eq_decide] at this ⊢;rw[this];constructor
  ·rintro (h|h|h)
   ·exact .inl (.inr h)
   ·exact .inl (.inl h)
   ·exact .inr h
  ·rintro ((h|h)|h)
   ·exact .inr (.inl h)
   ·exact .inl h
   ·exact .inr (.inr h)
 ·refine wpIn_cond_false (j1 F9 u (b:=false) (by show g2 35=_;rw[I];simp [r])) (wpIn_exit ?_);refine⟨rfl,ak,g2,zA,A.trans J,u,H.1,fun x=>?_⟩;rw[F x,iV (by omega)]
theorem OR{c:Code}(c0:dv T 41 false abf c=true){es:List af}{hO:List Nat}{x:Nat}{e:af}(cK:k=x)(r:∀x,x∈hO→x<40)(hlen:hO.length<9223372036854775807){κ:bq}{w:World}{g:Nat→af}{a:Act}{m:List Nat}(h:fZ κ (ef s m) w g a 41 B k7.ax)(b2:yl h0 l i k g)
  {d:Nat}{u:bq}{v:Value}(bX:dK u d h0 v)(he:dw (ef s m) h0=some (12,es))(a1:es[x]? =some e)(y:mr e=some hO):
  c.wpIn (yI none) 0 P (fun e f6 w'=>e=.normal∧∃κ' g' jU,fP κ (ef s m) w κ' (ef s jU) w'∧fZ κ' (ef s jU) w' g' f6 41 B k7.ax∧yl h0 l i k g'∧∀x,jU.elem x=(hO++m).elem x) a w:=by
 obtain⟨Y,Z,rfl,A,ar⟩:=fG c0;obtain⟨aa,ab,rfl,F⟩:=gK A;obtain⟨ac,rfl,aw⟩:=lS ar;obtain⟨g2,H,I⟩:=agm (s:=s) (m:=m) b2 cK bX he a1 y;refine wpIn_seq (jc e1 F h H fun ad ae ag J M=>?_);refine wpIn_block (wpIn_mono (Ge e1 aw r hlen M I) ?_)
 rintro e f6 w' ⟨rfl,κ',g',jU,N,O,U,V⟩
 exact⟨rfl,κ',g',jU,J.trans N,O,U,V⟩
end
theorem fZ.agz{κ κ':bq}{s s':ah}{w w':World}{g:Nat→af}{a:Act}{gk B l:Nat}{G:Nat→af}(h:fZ κ s w g a gk B G)(he:hP l κ s w κ' s' w')(bU:l<B)(ba:db κ' s' w'){v:af}{x:Value}(a1:dK κ' (s.aa+1) (v.ao s.aa) x){d gg:Option Nat}(cW:oc gk d gg=true):fZ κ' s' w' (cT g d v) (a.put gg x) gk B G:=by
 have cd:yk κ' s' g a:=fun t=>by have:=(h.ap t).mono he.k;rw[he.aa];exact this
 have u:Marks B w' a.defers:=by obtain⟨eO,pq,ar,aw,bS⟩:=h.defers;refine⟨Nat.le_trans eO he.size,pq,ar,aw,fun D r=>⟨(bS D r).1,?_⟩⟩;have dB:=(bS D r).2;rw[he.lq D (Array.getElem?_eq_some_iff.1 dB).1 (by have:=(bS D r).1;omega) (h.jl.zk dB)];exact dB
 cases d with
 |none=>
  cases gg with
  |none=>exact⟨ba,cd,u,h.size,h.ax.mono he.k⟩
  |some b=>simp [oc] at cW
 |some n=>
  cases gg with
  |none=>simp [oc] at cW
  |some b=>
   simp only[oc,bo] at cW;have e:=dq cW.1;subst e;have cZ:n<a.tmps.size:=by rw[h.size];have:=cW.2;rw[Nat.blt_eq] at this;exact this
   refine⟨ba,fun t=>?_,u,by simp [Act.put,h.size],h.ax.mono he.k⟩;simp only[cT];by_cases eo:t=n
   ·subst eo;rw[if_pos rfl,he.aa];simp only[Act.put,Array.getD_eq_getD_getElem?,Array.getElem?_setIfInBounds_self_of_lt cZ,Option.getD_some];exact a1
   ·rw[if_neg eo]
    have:=cd t;simp only[Act.put,Array.getD_eq_getD_getElem?,Array.getElem?_setIfInBounds_ne (Ne.symm eo)] at this ⊢;exact this
structure za (iZ:bq) (hN:ah) (jK:World) (κ:bq) (s:ah) (w:World):Prop where
 ext:fP iZ hN jK κ s w
 loc:jK.heap.size≤κ.loc (s.aa+1) 0
section
variable{iZ:bq}{hN:ah}{jK:World}{κ κ':bq}{s s':ah}{w w':World}{m jU:List Nat}{l:Nat}
theorem za.own(h:za iZ hN jK κ s w):∀i x b,([b4.cells (iw m)]:List b4)[i]? =some x→bp κ (s.aa+1) i x=some b→jK.heap.size≤b:=fun i x b a1 e=>by
 cases i with
 |zero=>simp only[List.getElem?_cons_zero,bt] at a1;subst a1;simp only[bp,bt] at e;exact e ▸ h.loc
 |succ i=>simp at a1
theorem za.agA(h:za iZ hN jK κ s w)(ba:db κ (ef s m) w)(he:hk κ κ' ((ef s m).aa+1))(cW:s'.aa=s.aa):jK.heap.size≤κ'.loc (s'.aa+1) 0:=by rw[cW,he.loc (s.aa+1) 0 (by rw[ah.ht];omega) (ba.om (d:=s.aa+1) (i:=0) (o:=.cells (iw m)) (by rw[ah.k6,if_pos rfl];rfl))];exact h.loc
theorem za.step(h:za iZ hN jK κ s w)(ba:db κ (ef s m) w)(he:fP κ (ef s m) w κ' (ef s' jU) w'):za iZ hN jK κ' s' w':=
 ⟨(hP.under (l:=jK.heap.size) h.ext.x he.x h.own).sm (aC _),h.agA ba he.k (by have:=he.aa;rw[ah.ht,ah.ht] at this;omega)⟩
theorem za.oy(h:za iZ hN jK κ s w)(bU:l<jK.heap.size)(cZ:¬Live iZ hN l):¬Live κ (ef s m) l:=fun e=>by
 rcases e.on with ar|⟨i,x,ar,aw⟩
 ·exact cZ (h.ext.live l bU ar)
 ·exact absurd (h.own (m:=m) i x l ar aw) (by omega)
end
theorem nk(A:Nat→List Nat)(i:Nat):∀(n:Nat) (m jU:List Nat),(∀x,m.elem x=jU.elem x)→eW A i n m=eW A i n jU
 |0,_,_,_=>rfl
 |n+1,m,jU,h=>by
  have aw:∀x,(A n++m).elem x=(A n++jU).elem x:=fun x=>by have:=h x;simp only[List.elem_eq_mem,List.mem_append,decide_eq_decide] at this ⊢;rw[this]
  simp only[eW,h n,nk A i n _ _ h,nk A i n _ _ aw]
theorem AS{cs e:List af}(h:af.ma cs e=true):cs=e:=(af.jS cs e).1 h
theorem CR{κ:bq}{hN s:ah}{h0:af}{D:Nat}{x:Value}(bX:dK κ D h0 x)(r:D≤s.aa+1)(h:fu hN s (.bk [h0])=true)(o:List b4)(he:(dw hN h0).isSome=true):dw (s.on o) h0=dw hN h0:=by
 cases h0<;> try rfl
 case bx sz es g=>cases g<;> rfl
 case cH a off len cap sz=>
  cases a with
  |l i=>cases bX
  |g d i=>
   obtain⟨mv,e,cW,bZ,_⟩:=dK.km bX;have ar:(s.on o).get (.g d i)=s.get (.g d i):=by rw[ah.k6,if_neg (by omega)]
   simp only[fu] at h;split at h
   ·rename_i cs u aw bS
    have:=AS h;subst this;simp only[dw,ar,aw,bS]
   ·cases h
theorem CS{s:ah}{dM xs:List af}(h:qt s 0 dM=some xs):∃(i:Nat) (h0:af) (es:List af) (A:List (List Nat)),dM=[.bk [.int .i64 i],.bk [h0]]∧dw s h0=some (12,es)∧pF es=some A∧i<es.length∧es.length≤40∧(∀hO,hO∈A→hO.length≤1000∧∀x,x∈hO→x<es.length)∧xs=(eW (A.getD · []) i (i+1) [i]).map fun k=>.int .i64 (k:Nat):=by
 unfold qt at h;split at h
 ·rename_i i h0 _;obtain⟨p,ar,aw⟩:=Option.bind_eq_some_iff.1 h;obtain⟨z,es⟩:=p;cases gA:Nat.beq z 12 with
  |false=>rw[gA] at aw;cases aw
  |true=>
   rw[gA] at aw;simp only[bD] at aw
   have:=dq gA;subst this;unfold pG at aw;split at aw
   ·rename_i A hR;cases e:(decide (0≤i)&&Nat.blt i.toNat es.length&&Nat.ble es.length 40&&A.all (fun l=>Nat.ble l.length 1000&&l.all (Nat.blt · es.length))) with
    |false=>rw[e] at aw;cases aw
    |true=>rw[e] at aw;simp only[bD,bt] at aw;simp only[bo,b9,List.all_eq_true,Nat.blt_eq] at e;refine⟨i.toNat,h0,es,A,by rw[Int.toNat_of_nonneg e.1.1.1],ar,hR,e.1.1.2,d9 e.1.2,fun hO r=>⟨d9 (e.2 hO r).1,(e.2 hO r).2⟩,aw.symm⟩
   ·cases aw
 ·cases h
theorem Live.mono{κ κ':bq}{s:ah}{w:World}(ba:db κ s w)(cK:hk κ κ' (s.aa+1)){b:Nat}(h:Live κ s b):Live κ' s b:=by
 obtain⟨d,i,o,ar,aw⟩:=h;have cW:d<s.aa+1:=by have:=ah.gV ar;omega
 have bZ:=ba.om ar;refine⟨d,i,o,ar,?_⟩;cases o with
 |cells cs=>simp only[bp] at aw ⊢;rw[cK.loc d i cW bZ];exact aw
 |map es=>simp only[bp] at aw ⊢;rw[cK.loc d i cW bZ];exact aw
 |gone=>cases aw
 |tok n=>simp only[bp] at aw ⊢;obtain⟨x,bS,dB⟩:=Option.map_eq_some_iff.1 aw;rw[cK.mb d i n x cW bZ bS];simp [dB]
theorem db.MX{κ:bq}{s:ah}{w:World}(ba:db κ s w):∃κ',db κ' s.push w∧hk κ κ' (s.aa+1)∧fP κ s w κ' s w:=by obtain⟨κ',ar,aw,bS,dB⟩:=ba.push;refine⟨κ',ar,aw,aw,rfl,aC _,rfl,rfl,rfl,fun _ _ _=>rfl,fun b _ ⟨d,i,o,gZ,g2⟩=>⟨d,i,o,gZ,by rw[←dB d i o gZ];exact g2⟩,fun a e=>.inl (by rw[bS] at e;exact e)⟩
def sB(J:Nat→ah→Prop)(e:ah→Option Obj→Prop)(N l:Nat)(iZ:bq)(hN:ah)(jK w':World):Prop:=(∃κ' s',fP iZ hN jK κ' s' w'∧db κ' s' w'∧J N s')∨∃κ' s',hP l iZ hN jK κ' s' w'∧db κ' s' w'∧e s' w'.heap[l]?
theorem sB.shut{J:Nat→ah→Prop}{y:ah→Option Obj→Prop}{N l:Nat}{iZ:bq}{hN:ah}{jK w' r:World}{pq:List Nat}(h:sB J y N l iZ hN jK w')(bU:l<jK.heap.size)(u:∀D,D∈pq→jK.heap.size≤D)(cW:∀D,D∈pq→w'.heap[D]? =some (.deferred (some [])))(hw:I0 pq w' r):sB J y N l iZ hN jK r:=by
 have jl:∀{κ s},db κ s w'→db κ s r:=fun ba=>ba.heap fun b o ar aw=>by rw[hw.same b,ar];intro hm;rw[cW b hm] at ar;cases ar;rcases aw with⟨C,e,jA,aw⟩|⟨fD,clock,aw⟩<;> cases aw
 rcases h with⟨κ',s',ar,aw,bS⟩|⟨κ',s',ar,aw,bS⟩
 ·exact .inl ⟨κ',s',ar.shut u hw,jl aw,bS⟩
 ·refine .inr ⟨κ',s',⟨ar.k,ar.aa,by rw[hw.size];exact ar.size,hw.os.trans ar.os,hw.tape.trans ar.tape,hw.output.trans ar.output,fun b A cZ bU=>?_,ar.live,ar.pH⟩,jl aw,?_⟩
  ·rw[hw.same b (fun hm=>by have:=u b hm;omega)];exact ar.lq b A cZ bU
  ·rw[hw.same l (fun hm=>by have:=u l hm;omega)];exact bS
section
variable{P:Program}{T:lj}(e1:T.qv P)
include e1
theorem Gf{id:Nat}{A:Array Oper}(c0:jG T 41 A OM A.toList=true){iZ:bq}{hN:ah}{jK:World}{l:Nat}(bU:l<jK.heap.size)(aI:¬Live iZ hN l){h0:af}{i x:Nat}(bB:x≠i)
  {κ:bq}{s:ah}{w:World}{m:List Nat}{g:Nat→af}{a:Act}(aU:za iZ hN jK κ s w)(h:fZ κ (ef s m) w g a 41 jK.heap.size k7.ax)(b2:yl h0 l i x g)
  {Rt:ah→Prop}{Rf:ah→Option Obj→Prop}
  (aW:∀(κ':bq) (w':World) (B:Value),za iZ hN jK κ' s w'→db κ' s w'→dK κ' (s.aa+1) (.int .i64 x) B→YieldAt Fence.wide 0 P l #[B] w' fun e ad=>(e=.returned (.bool true)∧∃ae U,fP κ' s w' ae U ad∧db ae U ad∧Rt U)∨(e=.returned (.bool false)∧∃ae U,hP l κ' s w' ae U ad∧db ae U ad∧Rf U ad.heap[l]?))
  {Q:Exit→Act→World→Prop}
  (aX:∀κ' s' w' g' f6,za iZ hN jK κ' s' w'→fZ κ' (ef s' m) w' g' f6 41 jK.heap.size k7.ax→yl h0 l i x g'→g' 27=.bool false→Rt s'→Q .normal f6 w')
  (aY:∀κ' s' w' g' f6,hP l iZ hN jK κ' s' w'→fZ κ' (ef s' m) w' g' f6 41 jK.heap.size k7.ax→g' 27=.bool true→Rf s' w'.heap[l]?→Q .normal f6 w'):
  (Code.region id A false).wpIn (yI none) 0 P Q a w:=by
 obtain⟨hlen,aZ⟩:=iG c0;have fi:A.size=9:=by rw[←Array.length_toList,←hlen];rfl
 have op:∀j F,OM[j]? =some F→∃o,A[j]? =some o∧oZ T 41 A F o=true:=fun j F cL=>by
  have aJ:j<A.size:=by rw[fi];exact(dy.1 cL).1
  exact⟨A[j],Array.getElem?_eq_getElem aJ,aZ j F _ cL (by simp [aJ])⟩
 have one:∀{j:Nat} {F:c3} {κ:bq} {S S':ah} {w:World} {g:Nat→af} {a:Act} {v:af} {K:Act→World→Prop},OM[j]? =some F→fZ κ S w g a 41 jK.heap.size k7.ax→jW k7 F g S=some (v,S')→
   (∀κ' w' f6,fP κ S w κ' S' w'→fZ κ' S' w' (cT g F.dst v) f6 41 jK.heap.size k7.ax→K f6 w')→wpOpIn (yI none) 0 P A Q j K a w:=fun {j F κ S S' w g a v K} cL aV he ay=>by
  obtain⟨o,ar,aw⟩:=op j F cL;exact pR e1 rfl (OL P) aV ar aw he ay
 have ml:∀{d:Option Nat} {o:gD} {g:Nat→af} {S S':ah} {v:af},aP k7 g S .ok .panic o=.ok v S'→jW k7 ⟨d,none,o⟩ g S=some (v,S'):=fun h=>by simp only[jW,gw,h]
 have dn:∀{d:Option Nat} {o:gD} {g:Nat→af} {S S':ah} {v:af},g 22=.bool true→aP k7 g S .ok .panic o=.ok v S'→jW k7 ⟨d,some (22,true),o⟩ g S=some (v,S'):=fun a1 h=>by simp only[jW,gw,a1,beq_self_eq_true,h]
 refine wpIn_region ?_;rw[fi,show List.range 9=[0,1,2,3,4,5,6,7,8] from rfl];rw[wpOpsIn_cons];refine one rfl h (ml (v:=.int .i64 x) (S':=ef s m) (by simp only[aP,au,b2.iO];rfl)) fun bC bE bG a2 a3=>?_
 rw[wpOpsIn_cons];refine one rfl a3 (ml (v:=.int .i64 i) (S':=ef s m) (by simp only[aP,au,cT,b2.gZ,Nat.reduceEqDiff,if_false,dZ,e3];rfl)) fun bH bI bJ a4 a5=>?_
 rw[wpOpsIn_cons];refine one rfl a5 (ml (v:=.bool true) (S':=ef s m) (by simp only[aP,au,cT,Nat.reduceEqDiff,if_false,if_true];show rL k7 _ _ (some (.bool ((x:Int) != i)))=_;rw[show((x:Int) != i)=true from by simp;omega];rfl)) fun bK bL bM a6 a7=>?_
 rw[wpOpsIn_cons];refine one rfl a7 (ml (v:=.bool true) (S':=ef s m) (by simp only[aP,au,cT,if_true];rfl)) fun bN bO bP a8 a9=>?_
 rw[wpOpsIn_cons];refine one rfl a9 (dn (v:=.kO l) (S':=ef s m) (by simp [cT]) (by simp only[aP,au,cT,b2.tQ,Nat.reduceEqDiff,if_false];rfl)) fun bQ bR bS ba bb=>?_
 rw[wpOpsIn_cons];refine one rfl bb (dn (v:=.int .i64 x) (S':=ef s m) (by simp [cT]) (by simp only[aP,au,cT,b2.iO,Nat.reduceEqDiff,if_false];rfl)) fun V ag J bc u=>?_
 rw[wpOpsIn_cons];have he:=(((((a2.trans a4).trans a6).trans a8).trans ba).trans bc);have M:za iZ hN jK V s ag:=aU.step h.jl he;obtain⟨H,Y⟩:∃H,H=cT (cT (cT (cT (cT (cT g (some 19) (.int .i64 x)) (some 20) (.int .i64 i)) (some 21) (.bool true)) (some 22) (.bool true)) (some 23) (.kO l)) (some 24) (.int .i64 x):=⟨_,rfl⟩;have u:fZ V (ef s m) ag H J 41 jK.heap.size k7.ax:=by rw[Y];exact u
 have ai:yl h0 l i x H:=by rw[Y];exact⟨by simp [cT,b2.tQ],by simp [cT,b2.gZ],by simp [cT,b2.g2],by simp [cT,b2.n9],by simp [cT,b2.iO]⟩
 have az:H 22=.bool true:=by rw[Y];simp [cT]
 have bd:H 23=.kO l:=by rw[Y];simp [cT]
 have be:H 24=.int .i64 x:=by rw[Y];simp [cT]
 clear Y;obtain⟨o,bf,aK⟩:=op 6 _ rfl;simp only[oZ,bo] at aK;obtain⟨⟨aL,bg⟩,N⟩:=aK;unfold wpOpIn;simp only[bf];rw[u.wanted bg (b:=true) (by simp only[gw,az,beq_self_eq_true])];simp only[↓reduceIte];refine⟨fun _ _=>trivial,?_⟩;simp only[eU] at N;split at N
 ·rename_i aA bh;split at N
  ·rename_i y ez;simp only[bo] at N;have aB:=bF u.ap u.ax N.1;have aC:=iX u.ap u.ax _ _ N.2;rw[show au k7.ax H (.t 23)=.kO l from bd] at aB;simp only[fc,List.map_nil,show au k7.ax H (.t 24)=.int .i64 x from be] at aC;have bi:J.eval y=.func (.yield l) #[] #[]:=by
    generalize J.eval y=z at aB;cases aB;rfl
   obtain⟨B,aM⟩:∃B,aA.args.toList.map J.eval=[B]:=List.length_eq_one_iff.1 (by rw[aC.1];rfl);have bj:dK V (s.aa+1) (.int .i64 x) B:=by have:=aC.2 0 _ B rfl (by rw[aM];rfl);rw[dK.eP (k:=.i64) (n:=x) this];exact .int _ _
   have bk:aA.args.map J.eval= #[B]:=by apply Array.ext';rw[Array.toList_map,aM]
   have hex:execOp J.eval o=Instr.yield l #[B]:=by have:=CM (ty:=o.type) (ρ:=J.eval) (c:=aA) (l:=l) ⟨y,ez,bi⟩ o.dst o.pos o.after o.guard;rw[bk] at this;rw[←this,←bh]
   obtain⟨fn,tmps,assign,body,bl,aN⟩:=aW V ag B M u.jl.off bj;show o.uponIn (yI none) 0 P J _ Q ((execOp J.eval o).run P ag);rw[hex,bl,Oper.uponIn_round];refine⟨fun aj=>(by cases aj),?_⟩;have rest:∀(b:Bool) (ak:bq) (r:ah) (I:World) (aD:Act),fZ ak (ef r m) I (cT H (some 25) (.bool b)) aD 41 jK.heap.size k7.ax→
     (∀κ' w' g' f6,fP ak (ef r m) I κ' (ef r m) w'→fZ κ' (ef r m) w' g' f6 41 jK.heap.size k7.ax→yl h0 l i x g'→g' 27=.bool (!b)→Q .normal f6 w')→wpOpsIn (yI none) 0 P A Q [7,8] aD I:=fun b ak r I aD bm ay=>by
    rw[wpOpsIn_cons];refine one rfl bm (dn (v:=.bool (!b)) (S':=ef r m) (by simp [cT,az]) (by simp only[aP,au,cT,if_true];rfl)) fun O bT bV bn br=>?_
    rw[wpOpsIn_cons];refine one rfl br (ml (v:=.bool (!b)) (S':=ef r m) (by simp only[aP,au,cT,az,Nat.reduceEqDiff,if_false,if_true,n6,bD];rfl)) fun Z ab al ac am=>?_
    exact ay Z ab _ al (bn.trans ac) am ⟨by simp [cT,ai.tQ],by simp [cT,ai.gZ],by simp [cT,ai.g2],by simp [cT,ai.n9],by simp [cT,ai.iO]⟩ (by simp [cT])
   have aO:∀(hZ:Nat) (z:b4),([b4.cells (iw m)]:List b4)[hZ]? =some z→bp V (s.aa+1) hZ z≠some l:=fun hZ z gA ao=>by have:=M.own hZ z l gA ao;omega
   refine⟨aN.1,fun c cs bs=>?_⟩;obtain⟨e,I,bu,a0⟩:=aN.2 c cs bs;refine⟨e,I,?_,a0⟩;rcases bu with⟨rfl,ak,r,aq,aE,bv⟩|⟨rfl,ak,r,aq,aE,bw⟩
   ·obtain⟨O,av,an,aQ⟩:=u.jl.lay aq.x aE aO;have aR:fP V (ef s m) ag O (ef r m) I:=an.ext (aq.lq l (gy bU M.ext.size) fun aj=>aI (M.ext.live l bU aj));refine rest true O r I _ (u.put aR av (.bool true) aL) fun Z ab aF al ac am aS aG=>?_
    exact aX Z r ab aF al ((M.step u.jl aR).step av ac) am aS aG bv
   ·obtain⟨O,av,an,aQ⟩:=u.jl.lay aq aE aO;refine rest false O r I _ (u.agz an bU av (.bool false) aL) fun Z ab aF al ac am aS aG=>?_
    have aH:hP l iZ hN jK O r I:=hP.under M.ext.x an M.own;have bx:r.aa=s.aa:=by have:=an.aa;rw[ah.ht,ah.ht] at this;omega
    have aT:∀hZ z b,([b4.cells (iw m)]:List b4)[hZ]? =some z→bp O (r.aa+1) hZ z=some b→jK.heap.size≤b:=fun hZ z b gA ao=>by
     cases hZ with
     |zero=>simp only[List.getElem?_cons_zero,bt] at gA;subst gA;simp only[bp,bt] at ao;rw[←ao,bx,aQ 0];exact M.loc
     |succ hZ=>simp at gA
    have bz:hP l iZ hN jK Z r ab:=hP.under aH ac.x aT;refine aY Z r ab aF al bz am aG ?_;have bA:¬Live O (ef r m) l:=fun aj=>by
     rcases aj.on with ar|⟨hZ,z,ar,aw⟩
     ·exact aI (aH.live l bU ar)
     ·have:=aT hZ z l ar aw;omega
    rw[ac.lq l (gy bU aH.size) bA];exact bw
  ·cases N
 ·cases N
end
theorem agB(a b c:Value)(X:Array Value):((#[a]++[b,c].toArray)++X).getD 0 undef=a∧((#[a]++[b,c].toArray)++X).getD 1 undef=b∧((#[a]++[b,c].toArray)++X).getD 2 undef=c:=by refine⟨?_,?_,?_⟩<;> (rw[Array.getD_eq_getD_getElem?,Array.getElem?_append_left (by simp)];rfl)
theorem MY{P:Program}{T:lj}(e1:T.qv P){f:Nat}{fn:Func}{c:Code}(bA:P.funcs[f]? =some fn)(aO:fn.body=some c)(bj:(fn.name== "runtime.NumGoroutine")=false)(bl:fn.results= #[])(bm:fn.ntmps=41)(c0:dv T 41 false ahY c=true):Co P f 0:=by
 refine⟨⟨fn,bA,by simp [aO],bj⟩,?_⟩;intro dM xs iZ hN jK dz l bn bp aB bU br dg J Z bs bt;obtain⟨i,h0,es,A,rfl,iQ,hR,bZ,dh,aQ,gv⟩:=CS bn;obtain⟨di,bu⟩:=Gd hR;unfold ahY at c0;obtain⟨g6,lF,rfl,bv,ar⟩:=fG c0;obtain⟨dj,CT,rfl,bw⟩:=gK bv;obtain⟨bP,lb,rfl,bx,aw⟩:=fG ar;obtain⟨dk,gH,rfl,bz⟩:=gK bx;obtain⟨dl,dm,rfl,bB,bS⟩:=fG aw;obtain⟨dn,dp,rfl,bC⟩:=gK bB;obtain⟨dr,rfl,dB⟩:=lS bS;obtain⟨ds,rfl,aR⟩:=sA dB;unfold abh at aR;obtain⟨dt,du,rfl,bE,bF⟩:=fG aR;obtain⟨dx,dA,rfl,bG,bH⟩:=fG bE;obtain⟨dC,dD,rfl,bI⟩:=gK bG;obtain⟨dE,t3,dF,rfl,aS,bJ,bK⟩:=mH bH;obtain rfl:=o9 bK;obtain⟨dG,dH,rfl,bL,bM⟩:=fG bF;obtain⟨aT,aU,rfl,bN⟩:=gK bM;obtain⟨j2,rfl,bO⟩:=lS bL;obtain⟨dI,dJ,rfl,bQ,aV⟩:=fG bO;obtain⟨dL,dN,rfl,bR,bT⟩:=fG bQ;obtain⟨dO,dP,rfl,bV⟩:=gK bR;obtain⟨dQ,t5,dR,rfl,aW,bW,b0⟩:=mH bT;obtain rfl:=o9 bW;unfold abg at aV;obtain⟨dS,b1,rfl,b3,b4⟩:=fG aV;obtain⟨dT,dU,rfl,b5,b6⟩:=fG b3;obtain⟨dV,dW,rfl,aX⟩:=gK b5;obtain⟨dX,t6,dY,rfl,aD,b7,aY⟩:=mH b6;obtain rfl:=CL b7;refine CallsIn.mono (R:=fun e w'=>(∃v,e=.returned v)∧sB J Z xs.length l iZ hN jK w') ?_ (fun e w' h=>h);refine callsIn_of_wp_marks bA aO trivial (wpIn_mono (Q:=fun e f6 w'=>(e=.normal∨e=.ret)∧Marks jK.heap.size w' f6.defers∧sB J Z xs.length l iZ hN jK w') ?_ ?_) rfl
 rotate_left
 ·rintro e f6 w' ⟨he,⟨d0,pq,b8,b9,ae⟩,iC⟩
  have key:LeavesInM Fence.wide 0 P fn f6.tmps (fun e w'=>(∃v,e=.returned v)∧sB J Z xs.length l iZ hN jK w') f6.defers .returning w':=by
   rw[b8];refine lB pq w' b9 (fun D V=>(ae D V).2) fun d3 hw=>⟨.tuple #[],?_,⟨_,rfl⟩,iC.shut bU (fun D V=>(ae D V).1) (fun D V=>(ae D V).2) hw⟩
   simp [results,bl]
  rcases he with rfl |rfl <;> exact key
 obtain⟨v1,v2,rfl⟩:∃v1 v2,dz=[v1,v2]:=by
  match dz,aB.1 with
  |[v1,v2],_=>exact⟨v1,v2,rfl⟩
 have cb:=aB.2 0 _ v1 rfl rfl;have aE:=aB.2 1 _ v2 rfl rfl;obtain⟨d4,aZ⟩:∃x,dK iZ (hN.aa+1) h0 x:=by generalize v2=z at aE;cases aE;rename_i a vs ba iC bX;exact⟨_,bX 0 h0 rfl⟩
 obtain⟨ag,ap,a0,cc⟩:=bp.MX;have ap:db ag (hN.on []) jK:=ap;have cd:fZ ag (hN.on []) jK (fun t=>if t=0 then .kO l else if t=1 then .bk [.int .i64 i] else if t=2 then .bk [h0] else .dead) {tmps:=(#[Value.func (.yield l) #[] #[]]++[v1,v2].toArray)++Array.replicate (fn.ntmps-(#[Value.func (.yield l) #[] #[]]++[v1,v2].toArray).size) undef,defers:=[]} 41 jK.heap.size k7.ax:=by
  refine⟨ap,fun t=>?_,Marks.nil (aC _),by simp [bm],abP _⟩;obtain⟨ce,cf,a1⟩:=agB (.func (.yield l) #[] #[]) v1 v2 (Array.replicate (fn.ntmps-(#[Value.func (.yield l) #[] #[]]++[v1,v2].toArray).size) undef);have V:hN.aa+1≤(hN.on []).aa+1:=by rw[ah.ht];omega
  by_cases a2:t=0
  ·subst a2;show dK ag _ (.kO l) _;rw[ce];exact .kO l
  ·by_cases a3:t=1
   ·subst a3;show dK ag _ (.bk [.int .i64 i]) _;rw[cf];exact(cb.mono a0).up V
   ·by_cases mx:t=2
    ·subst mx;show dK ag _ (.bk [h0]) _;rw[a1];exact(aE.mono a0).up V
    ·simp only[a2,a3,mx,if_false];exact .dead _
 refine wpIn_seq (jc e1 bw cd ((ea (v:=.ref (.l 0) 0) (s':=ef hN []) rfl).trans rfl) fun aF cg a1 aG aH=>?_);have ch:za iZ hN jK aF hN cg:=by
  refine⟨(hP.under (l:=jK.heap.size) cc.x aG.x (fun i x b h=>by simp at h)).sm (aC _),?_⟩;refine Nat.le_of_not_lt fun ci=>?_
  have b2:(ef hN []).get (.g (hN.aa+1) 0)=some (.cells (iw [])):=by rw[ah.k6,if_pos rfl];rfl
  have cj:Live aF (ef hN []) (aF.loc (hN.aa+1) 0):=⟨_,0,_,b2,rfl⟩;have ar:=aG.live _ ci cj;rcases ar.on with ar|⟨hZ,z,ar,_⟩
  ·exact aH.jl.o8 (i:=0) (x:=.cells (iw [])) rfl rfl (Live.mono ap.off (aG.k.low (by rw[ah.ht];omega)) ar)
  ·simp at ar
 have ck:rM h0 l i (cT (fun t=>if t=0 then .kO l else if t=1 then .bk [.int .i64 i] else if t=2 then .bk [h0] else .dead) (some 4) (.ref (.l 0) 0)):=⟨by simp [cT],by simp [cT],by simp [cT],by simp [cT]⟩;obtain⟨d5,ae,cl⟩:=px (s:=hN) (m:=[]) ck (by omega);refine wpIn_seq (jc e1 bz aH ae fun d6 d7 d8 cm a4=>?_);obtain⟨n9,cn,co⟩:=rk (s:=hN) (m:=[i]) cl;refine wpIn_seq (jc e1 bC a4 cn fun a5 cp d9 cq cr=>?_);have ct:za iZ hN jK a5 hN cp:=(ch.step aH.jl cm).step a4.jl cq;have cv:([.bk [.int .i64 i],.bk [h0]]:List af).all (fu hN hN)=true:=by
  simp only[List.all_cons,List.all_nil,Bool.and_true,show fu hN hN (.bk [.int .i64 i])=true from rfl,ey];cases h0<;> try rfl
  rename_i a off len cap sz;simp only[fu];unfold dw at iQ;simp only at iQ;split at iQ
  ·rename_i cs cw;rw[cw];exact(af.jS cs cs).2 rfl
  ·cases iQ
 refine wpIn_block (pS (fun n f6 w'=>∃κ' s' g' jU j,za iZ hN jK κ' s' w'∧fZ κ' (ef s' jU) w' g' f6 41 jK.heap.size k7.ax∧yl h0 l i ((n:Int)-1) g'∧n≤i+1∧J j s'∧j≤xs.length∧([.bk [.int .i64 i],.bk [h0]]:List af).all (fu hN s')=true∧xs.drop j=(eW (A.getD · []) i n jU).map fun k=>.int .i64 (k:Nat)) (fun n f6 w' cx=>?_) (n:=i+1)
  ⟨a5,hN,n9,[i],0,ct,cr,by rw[show(((i+1:Nat):Int)-1)=(i:Int) by omega];exact co,aC _,bs,Nat.zero_le _,cv,by rw[bY,gv]⟩)
 obtain⟨ec,B,iO,r,j,cy,a6,cz,ee,aq,a7,aI,av⟩:=cx;obtain⟨a8,cA,a9,aJ⟩:=Cd (s:=B) (m:=r) cz;refine wpIn_seq (wpIn_seq (jc e1 bI a6 cA fun cB eg eh cC ac=>?_));have bb:=cy.step a6.jl cC;cases n with
 |zero=>
  refine wpIn_cond_false (j1 aS ac (b:=false) (by show a8 12=_;rw[aJ];simp)) (wpIn_exit ?_);refine⟨.inl rfl,ac.defers,.inl ⟨cB,B,bb.ext,ac.jl.off,?_⟩⟩
  have:xs.length=j:=by have:=congrArg List.length av;simp only[List.length_drop,eW,List.map_nil,ca] at this;omega
  rw[this];exact aq
 |succ x=>
  have cD:((x+1:Nat):Int)-1=(x:Int):=by omega
  rw[cD] at a9 aJ;refine wpIn_cond_true (j1 aS ac (b:=true) (by show a8 12=_;rw[aJ];simp)) (oC bJ ?_);have next:∀(ai:bq) (ab:ah) (aj:List Nat) (ad:World) (N:Nat→af) (ak:Act) (al:Nat),za iZ hN jK ai ab ad→fZ ai (ef ab aj) ad N ak 41 jK.heap.size k7.ax→yl h0 l i x N→J al ab→al≤xs.length→([.bk [.int .i64 i],.bk [h0]]:List af).all (fu hN ab)=true→xs.drop al=(eW (A.getD · []) i x aj).map (fun k=>.int .i64 (k:Nat))→
    (Code.region aT aU false).wpIn (yI none) 0 P (Exit.then (fun f6 w'=>∃m,m<x+1∧∃κ' s' g' jU j,za iZ hN jK κ' s' w'∧fZ κ' (ef s' jU) w' g' f6 41 jK.heap.size k7.ax∧yl h0 l i ((m:Int)-1) g'∧m≤i+1∧J j s'∧j≤xs.length∧([.bk [.int .i64 i],.bk [h0]]:List af).all (fu hN s')=true∧xs.drop j=(eW (A.getD · []) i m jU).map fun k=>.int .i64 (k:Nat)) (Exit.inBlock 0 fun e f6 w'=>(e=.normal∨e=.ret)∧Marks jK.heap.size w' f6.defers∧sB J Z xs.length l iZ hN jK w')) ak ad:=fun ai ab aj ad N ak al am O F cE cF cG cH=>by
   obtain⟨Y,cI,an⟩:=ahQ (s:=ab) (m:=aj) F (by omega) (by omega);exact jc e1 bN O cI fun H M U aK u=>⟨x,Nat.lt_succ_self x,H,ab,Y,aj,al,am.step O.jl aK,u,an,by omega,cE,cF,cG,cH⟩
  refine wpIn_seq (wpIn_block ?_);obtain⟨N,cJ,F,bc⟩:=ahR (s:=B) (m:=r) (x:=x) a9 rfl (by omega);refine wpIn_seq (wpIn_seq (jc e1 bV ac cJ fun ai ad ak cL O=>?_));have am:=bb.step ac.jl cL;cases ao:r.elem x with
  |false=>refine wpIn_cond_true (j1 aW O (b:=true) (by show N 18=_;rw[bc,ao];rfl)) (wpIn_exit ?_);refine next ai B r ad N ak j am O F aq a7 aI ?_;rw[av];simp only[eW,ao,cond_false]
  |true=>
   refine wpIn_cond_false (j1 aW O (b:=false) (by show N 18=_;rw[bc,ao];rfl)) (oC b0 ?_);have hex:es[x]? =some es[x]:=eb (by omega);obtain⟨hO,aL,cM⟩:=bu x _ hex;have bd:A.getD x []=hO:=by simp [List.getD_eq_getElem?_getD,aL]
   have cN:∀y,y∈hO→y<40:=fun y ez=>by have:=(aQ hO (List.mem_of_getElem? aL)).2 y ez;omega
   have cO:∀s':ah,s'.aa=hN.aa→([.bk [.int .i64 i],.bk [h0]]:List af).all (fu hN s')=true→∀o,dw (s'.on o) h0=some (12,es):=fun s' cW cK o=>by rw[CR aZ (by omega) (by simp only[List.all_cons,List.all_nil,Bool.and_true,bo] at cK;exact cK.2) o (by rw[iQ];rfl)];exact iQ
   have cP:hO.length<9223372036854775807:=by have:=(aQ hO (List.mem_of_getElem? aL)).1;omega
   have be:∀(H:bq) (I:ah) (M:World) (Y:Nat→af) (U:Act) (qy:Nat),za iZ hN jK H I M→fZ H (ef I r) M Y U 41 jK.heap.size k7.ax→yl h0 l i x Y→J qy I→qy≤xs.length→([.bk [.int .i64 i],.bk [h0]]:List af).all (fu hN I)=true→xs.drop qy=(eW (A.getD · []) i x (hO++r)).map (fun k=>.int .i64 (k:Nat))→
     b1.wpIn (yI none) 0 P (Exit.inBlock 1 (Exit.then ((Code.region aT aU false).wpIn (yI none) 0 P (Exit.then (fun f6 w'=>∃m,m<x+1∧∃κ' s' g' jU j,za iZ hN jK κ' s' w'∧fZ κ' (ef s' jU) w' g' f6 41 jK.heap.size k7.ax∧yl h0 l i ((m:Int)-1) g'∧m≤i+1∧J j s'∧j≤xs.length∧([.bk [.int .i64 i],.bk [h0]]:List af).all (fu hN s')=true∧xs.drop j=(eW (A.getD · []) i m jU).map fun k=>.int .i64 (k:Nat)) (Exit.inBlock 0 fun e f6 w'=>(e=.normal∨e=.ret)∧Marks jK.heap.size w' f6.defers∧sB J Z xs.length l iZ hN jK w'))) (Exit.then (fun f6 w'=>∃m,m<x+1∧∃κ' s' g' jU j,za iZ hN jK κ' s' w'∧fZ κ' (ef s' jU) w' g' f6 41 jK.heap.size k7.ax∧yl h0 l i ((m:Int)-1) g'∧m≤i+1∧J j s'∧j≤xs.length∧([.bk [.int .i64 i],.bk [h0]]:List af).all (fu hN s')=true∧xs.drop j=(eW (A.getD · []) i m jU).map fun k=>.int .i64 (k:Nat)) (Exit.inBlock 0 fun e f6 w'=>(e=.normal∨e=.ret)∧Marks jK.heap.size w' f6.defers∧sB J Z xs.length l iZ hN jK w')))) U M:=fun H I M Y U qy ay u an cQ cR bf cS=>by
    refine wpIn_mono (OR e1 b4 rfl cN cP u an aZ (cO I ay.ext.aa bf _) hex cM) ?_
    rintro e cU cV ⟨rfl,cX,cY,cZ,c1,c2,c4,c5⟩
    refine next cX I cZ cV cY cU qy (ay.step u.jl c1) c2 c4 cQ cR bf ?_;rw[cS,nk _ _ _ _ _ c5]
   refine wpIn_seq (wpIn_seq ?_);by_cases aM:x=i
   ·
    subst aM;have c6:hs k7 OM N (ef B r)=some (cT (cT (cT (cT (cT (cT (cT (cT (cT N (some 19) (.int .i64 x)) (some 20) (.int .i64 x)) (some 21) (.bool false)) (some 22) (.bool false)) (some 23) (.ed [])) (some 24) (.ed [])) (some 25) (.ed [])) (some 26) (.ed [])) (some 27) (.bool false),ef B r):=by
     have az:∀{d:Option Nat} {op:gD} {os:List c3} {g:Nat→af} {s:ah},g 22=.bool false→hs k7 (⟨d,some (22,true),op⟩::os) g s=hs k7 os (cT g d (.ed [])) s:=fun h=>by simp only[hs,jW,gw,h,show(false==true)=false from rfl,fp]
     refine(ea (v:=.int .i64 x) (s':=ef B r) (by simp only[aP,au,F.iO];rfl)).trans ?_;refine(ea (v:=.int .i64 x) (s':=ef B r) (by simp only[aP,au,cT,F.gZ,Nat.reduceEqDiff,if_false,dZ,e3];rfl)).trans ?_;refine(ea (v:=.bool false) (s':=ef B r) (by simp only[aP,au,cT,Nat.reduceEqDiff,if_false,if_true];show rL k7 _ _ (some (.bool ((x:Int) != x)))=_;rw[show((x:Int) != x)=false from by simp];rfl)).trans ?_
     refine(ea (v:=.bool false) (s':=ef B r) (by simp only[aP,au,cT,if_true];rfl)).trans ?_;refine(az (by simp [cT])).trans ((az (by simp [cT])).trans ((az (by simp [cT])).trans ((az (by simp [cT])).trans ?_)));exact(ea (v:=.bool false) (s':=ef B r) (by simp only[aP,au,cT,Nat.reduceEqDiff,if_false,if_true,n6,cond_false];rfl)).trans rfl
    refine jc e1 aX O c6 fun H M U aK u=>?_
    refine wpIn_cond_false (j1 aD u (b:=false) (by simp [au,cT])) (oC aY ?_);refine be H B M _ U j (am.step O.jl aK) u ⟨by simp [cT,F.tQ],by simp [cT,F.gZ],by simp [cT,F.g2],by simp [cT,F.n9],by simp [cT,F.iO]⟩ aq a7 aI ?_;rw[av];simp only[eW,ao,bD,e7,bd]
   ·have eu:Nat.beq x i=false:=by
     cases c7:Nat.beq x i with
     |false=>rfl
     |true=>exact absurd (dq c7) aM
    have bg:xs.drop j=.int .i64 (x:Nat)::(eW (A.getD · []) i x (hO++r)).map (fun k=>.int .i64 (k:Nat)):=by rw[av];simp only[eW,ao,bD,eu,cond_false,bd,fc]
    have bh:xs[j]? =some (.int .i64 (x:Nat)):=by have:=congrArg (fun l:List af=>l[0]?) bg;simpa using this
    have c8:j<xs.length:=(dy.1 bh).1;have c9:xs.drop (j+1)=(eW (A.getD · []) i x (hO++r)).map (fun k=>.int .i64 (k:Nat)):=by rw[←List.tail_drop,bg];rfl
    refine Gf e1 aX bU br aM am O F (Rt:=fun bi=>J (j+1) bi∧([.bk [.int .i64 i],.bk [h0]]:List af).all (fu hN bi)=true) (Rf:=Z) (fun κ' w' da dc dd de=>?_) (fun H I M Y U ay u an aN aA=>?_) (fun H I M Y U df u aN aA=>?_)
    ·have:=bt j _ da κ' B w' bh dc.ext dd aq aI de;exact this
    ·refine wpIn_cond_false (j1 aD u (b:=false) aN) (oC aY ?_);exact be H I M Y U (j+1) ay u an aA.1 c8 aA.2 c9
    ·refine wpIn_cond_true (j1 aD u (b:=true) aN) (wpIn_ret ?_);exact⟨.inr rfl,u.defers,.inr ⟨H,I,df,u.jl.off,aA⟩⟩
end Go.Ab
end
