/- A part of the proof: no condition. -/
import Derived.Test.YtgdnbfijkagodaaGreatDoorA2
import Derived.WideKeyArgs
import Derived.ChangeArms
import Derived.ChangeSame
import Derived.ChangeOld
import Derived.OpenShut
set_option linter.unusedSectionVars false
set_option linter.unusedSimpArgs false
section
namespace Go.Ab
variable{T:Nat→Option c0}{G:Nat→af}{X:Nat→List af→ag→ah}{s:ag}{k:bf}
theorem qq(q b:Nat)(at_:Option Loc)(x y:af):(aU T G X).gd s k q b at_ x y=gX (gH G (aL T G X) bQ) s k q b at_ x y:=rfl
theorem iM(sz:Nat)(es:List af)(au:af.aY es=true)(az:(es.all fun e=>e.fh&&Nat.beq e.cells.length sz)=true):(aU T G X).be s k sz es=k (.bG sz es .exact) s:=by show(bif af.aY es&&es.all (fun e=>e.fh&&Nat.beq e.cells.length sz) then _ else _)=_;rw[au,az];rfl
theorem xN(eu:IntKind)(n:Int):(aU T G X).be s k 1 [.int eu n]=k (.bG 1 [.int eu n] .exact) s:=rfl
inductive gq (S:ag):fi→Nat→Prop
 |nil:gq S .nil 0
 |dB (j n:Nat) (dp:0<n) (h:S.own[j]? =some (.tok n)):gq S (.dB (.l j)) n
theorem gq.inv{S:ag}{g:fi}{n:Nat}(h:gq S g n):(g=.nil∧n=0)∨∃j,g=.dB (.l j)∧0<n∧S.own[j]? =some (.tok n):=by
 cases h with
 |nil=>exact .inl ⟨rfl,rfl⟩
 |dB j n dp h=>exact .inr ⟨j,rfl,dp,h⟩
theorem gq.new{S:ag}{g:fi}{n:Nat}(h:gq S g n)(o:du):gq (S.new o) g n:=by
 cases h with
 |nil=>exact .nil
 |dB j n dp h=>refine .dB j n dp ?_;have df:=(ey.1 h).1;simp only[ag.new];rw[hn df];exact h
structure Grown (S S':ag) (g:fi):Prop where
 up:S'.up=S.up
 ro:S'.ro=S.ro
 len:S.own.length≤S'.own.length
 own:∀j o,S.own[j]? =some o→g≠.dB (.l j)→S'.own[j]? =some o
theorem Grown.child{s S S':ag}{g:fi}(h:Grown S S' g)(e:Child s S):Child s S':=⟨h.up.trans e.up,h.ro.trans e.ro⟩
theorem Grown.grow{S S':ag}{g g':fi}{n:Nat}(h:Grown S S' g)(cC:gq S g' n)(fe:∀j,g'=.dB (.l j)→g≠.dB (.l j)):gq S' g' n:=by
 cases cC with
 |nil=>exact .nil
 |dB j n dp e=>exact .dB j n dp (h.own j _ e (fe j rfl))
theorem Grown.aa{S S':ag}{g:fi}(h:Grown S S' g):S'.aa=S.aa:=by simp [ag.aa,h.up,h.ro]
theorem pz{R:ah}{S:ag}{es new:List af}{g gF:fi}{q bytes:Nat}(cC:gq S g es.length)(dp:new≠[])(r:(es.length+new.length)*bytes≤1099511627776)(a3:(new.flatMap af.cells).all af.eO=true)
  (dl:∀g' S',gq S' g' (es.length+new.length)→g'≠.nil→(g≠.nil→g'=g)→(g=.nil→g'=.dB (.l S.own.length))→Grown S S' g→k (.bG q (es++new) g') S'=R)(u:∀a,gF≠.dB a:=by intro a h;cases h):
  (aU T G X).gd S k q bytes (some (.l 0)) (.bG q es g) (.bG q new gF)=R:=by
 rw[qq];unfold gX;simp only;unfold h7;rw[show dL S (.bG q new gF)=some (q,new) from by cases gF<;> first|rfl |exact absurd rfl (u _)];simp only[gM,eM];rw[show Nat.ble ((es.length+new.length)*bytes) 1099511627776=true from eQ r];simp only[b2];cases new with
 |nil=>exact absurd rfl dp
 |cons c cs=>
  rcases cC.inv with⟨rfl,y⟩|⟨j,rfl,lL,h⟩
  ·simp only[ag.hi];refine dl _ _ (.dB _ _ (by simp;omega) ?_) (by simp) (fun h=>absurd rfl h) (fun _=>rfl) ⟨rfl,rfl,by simp [ag.new],fun j o h _=>?_⟩
   ·simp [ag.new]
   ·simp only[ag.new];rw[hn (ey.1 h).1];exact h
  ·have e:S.get (.l j)=some (.tok es.length):=h;simp only[e,gM,a3,bD,b2];show(match S.set (.l j) (.tok (es.length+(c::cs).length)) with |some s=>k (.bG q (es++c::cs) (.dB (.l j))) s|none=>.fail)=R;simp only[ag.set];refine dl _ _ (.dB _ _ (by simp;omega) ?_) (by simp) (fun _=>rfl) (fun h=>by simp at h) ⟨rfl,rfl,by simp,fun i o bX fe=>?_⟩
   ·simp [(ey.1 h).1]
   ·have:j≠i:=fun e=>fe (by rw[e])
    simp only;rw[ns this];exact bX
def ft{α:Type}(l:List α):fi:=if l.isEmpty then .nil else .any
theorem kA{S:ag}{sz:Nat}{es:List af}{g:fi}(cC:gq S g es.length)(aT:af.aY es=true:=by rfl):freeze S (.bG sz es g)=some (.bG sz es (ft es)):=by
 rcases cC.inv with⟨rfl,h⟩|⟨j,rfl,dp,h⟩
 ·have:es=[]:=kQ h;subst this;rfl
 ·cases es with
  |nil=>simp at dp
  |cons e es=>show jR S sz (e::es)=_;unfold jR;rw[if_pos aT];rfl
theorem jh{S:ag}(a:Loc)(off len cap sz:Nat)(eu:IntKind)(i:Nat)(h:i<len):(aU T G X).bT S k sz (.cZ a off len cap sz) (.int eu (i:Int))=k (.ref a (off+i*sz)) S:=by show kL (gH G (aL T G X) bQ) S k sz (.cZ a off len cap sz) (.int eu (i:Int))=_;unfold kL;rw[g6];simp only[gM,show Nat.blt i len=true from by simp [Nat.blt_eq,h],bD,b2];rfl
theorem iN{S:ag}{j o:Nat}{cs:List af}{c:af}(h:S.own[j]? =some (.cells cs))(a3:cs[o]? =some c):(aU T G X).ar S k none (.ref (.l j) o)=k c S:=by
 rw[hD];simp only[d8];rw[show S.get (.l j)=some (.cells cs) from h];simp only[eV]
 have:cs.drop o=c::cs.drop (o+1):=by have e:=(ey.1 a3);rw[iW e.1,e.2]
 rw[this];rfl
theorem xO(z:af):∀c:Nat,(List.replicate c [z]).flatten=List.replicate c z
 |0=>rfl
 |c+1=>by simp [List.replicate_succ,xO z c]
theorem oc(z:af)(bytes l c:Nat)(au:l≤c)(az:c*bytes≤1099511627776):(aU T G X).kz s k [z] bytes (.int .i64 (l:Int)) (.int .i64 (c:Int))=k (.cZ (.l s.own.length) 0 l c 1) (s.new (.cells (List.replicate c z))):=by show nd (gH G (aL T G X) bQ) s k [z] bytes (.int .i64 (l:Int)) (.int .i64 (c:Int))=_;unfold nd;rw[g6,g6];simp only[show Nat.ble l c=true from eQ au,show Nat.ble (c*bytes) 1099511627776=true from eQ az,bD,b2];show k _ (s.new (.cells (List.replicate c [z]).flatten))=_;rw[xO];rfl
theorem vj:∀(l:List af),(∀e,e∈l→e.cells=[e])→chunk 1 l.length l=l
 |[],_=>rfl
 |c::l,h=>by
  simp only[bP,chunk,mj,dK,bL];rw[vj l (fun e he=>h e (by simp [he]))]
  have:=h c (by simp);congr 1;show x8 c=c;cases c with
  |agg xs=>exfalso;have az:xs=[af.agg xs]:=this;have b3:=congrArg (SizeOf.sizeOf:List af→Nat) az;simp only[List.cons.sizeOf_spec,List.nil.sizeOf_spec,af.agg.sizeOf_spec] at b3;omega
  |_=>rfl
theorem Ao{S:ag}{j n:Nat}{cs:List af}(h:S.own[j]? =some (.cells cs))(a3:cs.length=n)(aT:af.aY cs=true)(au:∀e,e∈cs→e.cells=[e]):freeze S (.cZ (.l j) 0 n n 1)=some (.bG 1 cs .exact):=by show gr S j 0 n n 1=_;unfold gr;rw[h];subst a3;simp only[bL,vj cs au,aT,bg,Nat.mul_one,show Nat.ble cs.length cs.length=true from eQ (aC _),eM,if_pos rfl];rfl
abbrev U(n:Nat):af:=.int .u32 (n:Int)
theorem iO(a:Int):IntKind.wrap .u64 a=a%18446744073709551616:=by unfold IntKind.wrap;simp [show IntKind.bits .u64=64 from rfl,show IntKind.signed .u64=false from rfl]
theorem wrap_u32(a:Int):IntKind.wrap .u32 a=a%4294967296:=by unfold IntKind.wrap;simp [show IntKind.bits .u32=32 from rfl,show IntKind.signed .u32=false from rfl]
theorem dD(a b:Nat):(aU T G X).ai s k (an .add (.int .u64 (a:Int)) (.int .u64 (b:Int)))=k (.int .u64 (((a+b)%18446744073709551616:Nat):Int)) s:=by rw[fp,iO];congr 2
def ru(a b:Nat):Nat:=(((a:Int)-(b:Int))%18446744073709551616).toNat
theorem dE(a b:Nat):(aU T G X).ai s k (an .sub (.int .u64 (a:Int)) (.int .u64 (b:Int)))=k (.int .u64 ((ru a b:Nat):Int)) s:=by rw[fz,iO];congr 2;rw[ru,Int.toNat_of_nonneg (by omega)]
theorem di(a:Nat):(aU T G X).ai s k (an .sub (.int .u64 (a:Int)) (.int .u64 1))=k (.int .u64 ((ru a 1:Nat):Int)) s:=dE a 1
theorem dO(a b:Nat):(aU T G X).ai s k (an .mul (.int .u64 (a:Int)) (.int .u64 (b:Int)))=k (.int .u64 (((a*b)%18446744073709551616:Nat):Int)) s:=by rw[fO,iO];congr 2
theorem IX(a b:Nat):(aU T G X).ai s k (an .add (.int .u32 (a:Int)) (.int .u32 (b:Int)))=k (.int .u32 (((a+b)%4294967296:Nat):Int)) s:=by rw[fp,wrap_u32];congr 2
theorem FM(a b:Nat)(h:b≠0)(e:a<18446744073709551616):(aU T G X).ai s k (an .quo (.int .u64 (a:Int)) (.int .u64 (b:Int)))=k (.int .u64 ((a/b:Nat):Int)) s:=by
 rw[Kn _ _ _ (by omega),iO];congr 2
 have:((a:Int)).tdiv (b:Int)=((a/b:Nat):Int):=by rw[Int.tdiv_eq_ediv_of_nonneg (by omega)];rfl
 rw[this];have az:a/b≤a:=Nat.div_le_self _ _;generalize a/b=q at *;omega
theorem yP(a b:Nat)(h:b≠0):(aU T G X).ai s k (an .rem (.int .u64 (a:Int)) (.int .u64 (b:Int)))=k (.int .u64 ((a%b:Nat):Int)) s:=by rw[Ko _ _ _ (by omega)];congr 2
theorem yQ(eu:IntKind)(a c:Nat)(h:c≤64):(aU T G X).ai s k (an .shl (.int .u64 (a:Int)) (.int eu (c:Int)))=k (.int .u64 ((a*2^c%18446744073709551616:Nat):Int)) s:=by
 have e:an .shl (.int .u64 (a:Int)) (.int eu (c:Int))=some (.int .u64 (IntKind.wrap .u64 ((a:Int)*2^(min (c:Int).toNat 64)))):=by
  have dp:¬((c:Int)<0):=by omega
  simp [an,lO,dp,show IntKind.bits .u64=64 from rfl]
 rw[e,cK,iO,Int.toNat_natCast,Nat.min_eq_left h];congr 2
theorem yR(eu:IntKind)(a c:Nat)(h:c≤64):(aU T G X).ai s k (an .shr (.int .u64 (a:Int)) (.int eu (c:Int)))=k (.int .u64 ((a/2^c:Nat):Int)) s:=by
 have e:an .shr (.int .u64 (a:Int)) (.int eu (c:Int))=some (.int .u64 ((a:Int).fdiv (2^(min (c:Int).toNat 64)))):=by
  have dp:¬((c:Int)<0):=by omega
  simp [an,lO,dp,show IntKind.bits .u64=64 from rfl]
 rw[e,cK,Int.toNat_natCast,Nat.min_eq_left h];congr 2;rw[show((2:Int)^c)=((2^c:Nat):Int) from by simp,Int.fdiv_eq_ediv_of_nonneg _ (Int.natCast_nonneg _)];rfl
theorem vk(eu:IntKind)(a c:Nat)(h:c≤32):(aU T G X).ai s k (an .shr (.int .u32 (a:Int)) (.int eu (c:Int)))=k (.int .u32 ((a/2^c:Nat):Int)) s:=by
 have e:an .shr (.int .u32 (a:Int)) (.int eu (c:Int))=some (.int .u32 ((a:Int).fdiv (2^(min (c:Int).toNat 32)))):=by
  have dp:¬((c:Int)<0):=by omega
  simp [an,lO,dp,show IntKind.bits .u32=32 from rfl]
 rw[e,cK,Int.toNat_natCast,Nat.min_eq_left h];congr 2;rw[show((2:Int)^c)=((2^c:Nat):Int) from by simp,Int.fdiv_eq_ediv_of_nonneg _ (Int.natCast_nonneg _)];rfl
theorem Dp(eu:IntKind)(a c:Nat)(h:c≤32):(aU T G X).ai s k (an .shl (.int .u32 (a:Int)) (.int eu (c:Int)))=k (.int .u32 ((a*2^c%4294967296:Nat):Int)) s:=by
 have e:an .shl (.int .u32 (a:Int)) (.int eu (c:Int))=some (.int .u32 (IntKind.wrap .u32 ((a:Int)*2^(min (c:Int).toNat 32)))):=by
  have dp:¬((c:Int)<0):=by omega
  simp [an,lO,dp,show IntKind.bits .u32=32 from rfl]
 rw[e,cK,wrap_u32,Int.toNat_natCast,Nat.min_eq_left h];congr 2
theorem cD(a:Nat):(aU T G X).ai s k (an .shl (.int .u64 (a:Int)) (.int .u64 32))=k (.int .u64 ((a*4294967296%18446744073709551616:Nat):Int)) s:=yQ .u64 a 32 (by decide)
theorem cE(a:Nat):(aU T G X).ai s k (an .shr (.int .u64 (a:Int)) (.int .u64 32))=k (.int .u64 ((a/4294967296:Nat):Int)) s:=yR .u64 a 32 (by decide)
theorem cO(a:Nat):(aU T G X).ai s k (an .shr (.int .u64 (a:Int)) (.int .u64 63))=k (.int .u64 ((a/9223372036854775808:Nat):Int)) s:=yR .u64 a 63 (by decide)
theorem dn(eu:IntKind)(a:Nat):(aU T G X).b9 s k .u32 (.int eu (a:Int))=k (.int .u32 ((a%4294967296:Nat):Int)) s:=by show k (.int .u32 (IntKind.wrap .u32 (a:Int))) s=_;rw[wrap_u32];congr 2
theorem hX(a:Nat)(h:a<4294967296):(aU T G X).b9 s k .u64 (.int .u32 (a:Int))=k (.int .u64 (a:Int)) s:=by show k (.int .u64 (IntKind.wrap .u64 (a:Int))) s=_;rw[iO];congr 2;omega
theorem iy(a b:Nat)(h:a+b<9223372036854775808):(aU T G X).ai s k (an .add (.int .i64 (a:Int)) (.int .i64 (b:Int)))=k (.int .i64 ((a+b:Nat):Int)) s:=by rw[fp,eD _ (by omega) (by omega)];congr 2
theorem m2(a b:Nat)(h:b≤a)(az:a<9223372036854775808):(aU T G X).ai s k (an .sub (.int .i64 (a:Int)) (.int .i64 (b:Int)))=k (.int .i64 ((a-b:Nat):Int)) s:=by rw[fz,eD _ (by omega) (by omega)];congr 2;omega
theorem ji(a:Nat)(h:a+1<9223372036854775808):(aU T G X).ai s k (an .add (.int .i64 (a:Int)) (.int .i64 1))=k (.int .i64 ((a+1:Nat):Int)) s:=iy a 1 h
theorem jV(a:Nat)(h:1≤a)(az:a<9223372036854775808):(aU T G X).ai s k (an .sub (.int .i64 (a:Int)) (.int .i64 1))=k (.int .i64 ((a-1:Nat):Int)) s:=m2 a 1 h az
theorem Ap(a:Nat)(h:2≤a)(az:a<9223372036854775808):(aU T G X).ai s k (an .sub (.int .i64 (a:Int)) (.int .i64 2))=k (.int .i64 ((a-2:Nat):Int)) s:=m2 a 2 h az
theorem sy(a:Nat)(az:a<9223372036854775808):(aU T G X).ai s k (an .quo (.int .i64 (a:Int)) (.int .i64 32))=k (.int .i64 ((a/32:Nat):Int)) s:=by
 rw[Kn _ _ _ (by omega)]
 have:((a:Int)).tdiv 32=((a/32:Nat):Int):=by rw[Int.tdiv_eq_ediv_of_nonneg (by omega)];rfl
 rw[this,eD _ (by omega) (by omega)]
theorem sA(a:Nat):(aU T G X).ai s k (an .rem (.int .i64 (a:Int)) (.int .i64 32))=k (.int .i64 ((a%32:Nat):Int)) s:=by rw[Ko _ _ _ (by omega)];congr 2
theorem PI(a b:Nat)(e:a<18446744073709551616)(h:b<18446744073709551616):((BitVec.ofInt 64 (a:Int) &&& BitVec.ofInt 64 (b:Int)).toNat:Int)=((a &&& b:Nat):Int):=by
 rw[BitVec.toNat_and];simp -implicitDefEqProofs only[BitVec.toNat_ofInt];congr 1;have au:(((a:Int)%((2^64:Nat):Int))).toNat=a:=by omega
 have az:(((b:Int)%((2^64:Nat):Int))).toNat=b:=by omega
 rw[au,az]
theorem IY(a:Nat)(h:a<18446744073709551616):(aU T G X).ai s k (an .and (.int .u64 (a:Int)) (.int .u64 4294967295))=k (.int .u64 ((a%4294967296:Nat):Int)) s:=by
 have e:an .and (.int .u64 (a:Int)) (.int .u64 ((4294967295:Nat):Int))=some (.int .u64 (IntKind.wrap .u64 ((BitVec.ofInt 64 (a:Int) &&& BitVec.ofInt 64 ((4294967295:Nat):Int)).toNat:Int))):=by simp -implicitDefEqProofs only[an,gm,↓reduceIte];rfl
 show(aU T G X).ai s k (an .and (.int .u64 (a:Int)) (.int .u64 ((4294967295:Nat):Int)))=_;rw[e,PI a _ h (by omega),cK,iO];congr 2
 have:a &&& 4294967295=a%4294967296:=Nat.and_two_pow_sub_one_eq_mod a 32;rw[this];omega
theorem Dq(a b:Nat)(e:a<18446744073709551616)(h:b<18446744073709551616):((BitVec.ofInt 64 (a:Int) ||| BitVec.ofInt 64 (b:Int)).toNat:Int)=((a ||| b:Nat):Int):=by
 rw[BitVec.toNat_or];simp -implicitDefEqProofs only[BitVec.toNat_ofInt];congr 1;have au:(((a:Int)%((2^64:Nat):Int))).toNat=a:=by omega
 have az:(((b:Int)%((2^64:Nat):Int))).toNat=b:=by omega
 rw[au,az]
theorem WW(q b p:Nat)(h:b<2^p)(gh:q*2^p+b<18446744073709551616):(aU T G X).ai s k (an .or (.int .u64 ((q*2^p:Nat):Int)) (.int .u64 (b:Int)))=k (.int .u64 ((q*2^p+b:Nat):Int)) s:=by
 have e:an .or (.int .u64 ((q*2^p:Nat):Int)) (.int .u64 (b:Int))=some (.int .u64 (IntKind.wrap .u64 ((BitVec.ofInt 64 ((q*2^p:Nat):Int) ||| BitVec.ofInt 64 (b:Int)).toNat:Int))):=by simp -implicitDefEqProofs only[an,gm,↓reduceIte];rfl
 rw[e,Dq _ _ (by omega) (by omega),cK,iO];congr 2
 have:q*2^p ||| b=q*2^p+b:=by rw[ez,←Nat.two_pow_add_eq_or_of_lt h]
 rw[this];omega
theorem vl(q b:Nat)(e:b<4294967296)(gh:q<4294967296):(aU T G X).ai s k (an .or (.int .u64 ((q*4294967296:Nat):Int)) (.int .u64 (b:Int)))=k (.int .u64 ((q*4294967296+b:Nat):Int)) s:=WW q b 32 e (by omega)
theorem gj(l:List Nat):af.aY (l.map U)=true:=by
 induction l with
 |nil=>rfl
 |cons x l e=>simp -implicitDefEqProofs only[fK,af.aY,e,Bool.and_true];rfl
def od(d:Nat)(g:fi):Prop:=∀a,g=.dB a→∃e i,a=.g e i∧e≤d
theorem od.not{g:fi}(h:∀a,g≠.dB a)(d:Nat):od d g:=fun a e=>absurd e (h a)
theorem od.le{d e:Nat}{g:fi}(h:od d g)(cS:d≤e):od e g:=fun a q=>by obtain⟨x,i,au,az⟩:=h a q;exact⟨x,i,au,Nat.le_trans az cS⟩
inductive l1 (s:ag):af→List Nat→Prop
 |bG (l:List Nat) (g:fi) (cC:od s.aa g):l1 s (.bG 1 (l.map U) g) l
 |cZ (d j off cap:Nat) (cs:List af) (l:List Nat) (cS:d≤s.aa) (cC:s.get (.g d j)=some (.cells cs)) (bK:(cs.drop off).take l.length=l.map U) (hle:off+l.length≤cs.length) (a3:l.length≤cap):l1 s (.cZ (.g d j) off l.length cap 1) l
def Px(s S:ag):Prop:=s.aa≤S.aa∧∀d j o,d≤s.aa→s.get (.g d j)=some o→S.get (.g d j)=some o
theorem Px.refl(s:ag):Px s s:=⟨aC _,fun _ _ _ _ h=>h⟩
theorem Px.trans{s S S':ag}(h:Px s S)(k:Px S S'):Px s S':=⟨Nat.le_trans h.1 k.1,fun d j o cS e=>k.2 d j o (Nat.le_trans cS h.1) (h.2 d j o cS e)⟩
theorem Child.aa{s S:ag}(h:Child s S):S.aa=s.aa+1:=by simp [ag.aa,h.up,h.ro];omega
theorem Child.oH{s S:ag}(h:Child s S):Px s S:=by
 refine⟨by rw[h.aa];omega,fun d j o cS e=>?_⟩;have au:=h.aa;simp -implicitDefEqProofs only[ag.get] at e ⊢;rw[if_neg (by omega),if_pos (by omega),h.up,h.ro];by_cases dU:d=s.aa
 ·rw[if_pos dU] at e
  have:S.aa-1-d=0:=by omega
  rw[this];simpa using e
 ·rw[if_neg dU,if_pos (by omega)] at e
  have:S.aa-1-d=(s.aa-1-d)+1:=by omega
  rw[this];simpa using e
theorem Px.new(s:ag)(o:du):Px s (s.new o):=by
 refine⟨aC _,fun d j x cS e=>?_⟩;simp -implicitDefEqProofs only[ag.get] at e ⊢
 have:(s.new o).aa=s.aa:=rfl;rw[this];split
 ·rename_i h;rw[if_pos h] at e;have df:=(ey.1 e).1;simp -implicitDefEqProofs only[ag.new];rw[hn df];exact e
 ·rename_i h;rw[if_neg h] at e;exact e
theorem l1.oH{s S:ag}{v:af}{l:List Nat}(h:l1 s v l)(bO:Px s S):l1 S v l:=by
 cases h with
 |bG l g cC=>exact .bG l g (cC.le bO.1)
 |cZ d j off cap cs l cS cC bK hle a3=>exact .cZ d j off cap cs l (Nat.le_trans cS bO.1) (bO.2 d j _ cS cC) bK hle a3
theorem l1.ap{s:ag}{v:af}{l:List Nat}(h:l1 s v l)(d:Nat):v.ap d=v:=by
 cases h with
 |bG l g cC=>
  cases g with
  |dB a=>obtain⟨x,i,rfl,_⟩:=cC a rfl;rfl
  |_=>rfl
 |cZ=>rfl
theorem l1.len{S:ag}{v:af}{l:List Nat}(h:l1 S v l)(k:bf)(S':ag):(aU T G X).cI S' k false v=k (.int .i64 (l.length:Int)) S':=by
 cases h with
 |bG l g cC=>rw[aE,eG]
 |cZ=>rfl
theorem l1.get{S:ag}{v:af}{l:List Nat}(h:l1 S v l)(eu:IntKind)(i:Nat)(bX:i<l.length)(k:bf):(aU T G X).bT S (fun v S=>(aU T G X).ar S k none v) 1 v (.int eu (i:Int))=k (U (l.getD i 0)) S:=by
 cases h with
 |bG l g cC=>rw[jF 1 _ g eu i (U (l.getD i 0)) (by simp [List.getD,bX])];rfl
 |cZ d j off cap cs l cS cC bK hle a3=>
  rw[jh _ _ _ _ _ _ _ bX,hD];simp -implicitDefEqProofs only[d8,cC,eV,Nat.mul_one];have q:off+i<cs.length:=by omega
  rw[iW q];have e:cs[off+i]=U (l.getD i 0):=by
   have au:((cs.drop off).take l.length)[i]? =(l.map U)[i]?:=by rw[bK]
   rw[List.getElem?_take,if_pos bX,List.getElem?_drop,eP q] at au;simp [bX] at au;rw[au];simp [List.getD,bX]
  rw[e];rfl
theorem l1.ptr{S:ag}{v:af}{l:List Nat}(h:l1 S v l)(eu:IntKind)(i:Nat)(bX:i<l.length):∃p,(∀(S':ag) (k:bf),(aU T G X).bT S' k 1 v (.int eu (i:Int))=k p S')∧∀k:bf,(aU T G X).ar S k none p=k (U (l.getD i 0)) S:=by
 have cC:=fun k=>h.get (T:=T) (G:=G) (X:=X) eu i bX k
 cases h with
 |bG l g q=>
  have e:=fun(S':ag) (k:bf)=>jF (T:=T) (G:=G) (X:=X) (s:=S') (k:=k) 1 (l.map U) g eu i (U (l.getD i 0)) (by simp [List.getD,bX])
  refine⟨_,e,fun k=>?_⟩
  have:=cC k;rw[e] at this;exact this
 |cZ d j off cap cs l cS q bK hle a3=>
  have e:=fun(S':ag) (k:bf)=>jh (T:=T) (G:=G) (X:=X) (S:=S') (k:=k) (.g d j) off l.length cap 1 eu i bX
  refine⟨_,e,fun k=>?_⟩
  have:=cC k;rw[e] at this;exact this
def o9(g:fi)(len n:Nat):fi:=
 match g with
 |.nil=>.nil
 |.exact=>if n=len then .exact else .any
 |.dB a=>if 0=0∧n=len then .dB a else .any
 |.any=>.any
def pa(v:af)(n:Nat):af:=
 match v with
 |.bG z es g=>.bG z (es.take n) (o9 g es.length n)
 |.cZ a off _ cap z=>.cZ a off n cap z
 |v=>v
theorem vm{g:fi}(cC:∀a,g≠.dB a)(len n:Nat):∀a,o9 g len n≠.dB a:=fun a=>by
 cases g with
 |dB b=>exact absurd rfl (cC b)
 |nil=>intro e;cases e
 |exact=>intro e;simp -implicitDefEqProofs only[o9] at e;split at e<;> cases e
 |any=>intro e;cases e
theorem IZ{d:Nat}{g:fi}(cC:od d g)(len n:Nat):od d (o9 g len n):=fun a e=>by
 cases g with
 |dB b=>
  simp -implicitDefEqProofs only[o9] at e;split at e
  ·exact cC a e
  ·cases e
 |nil=>cases e
 |exact=>simp -implicitDefEqProofs only[o9] at e;split at e<;> cases e
 |any=>cases e
theorem l1.slice{S:ag}{v:af}{l:List Nat}(h:l1 S v l)(n:Nat)(dp:n≤l.length)(k:bf)(S':ag):(aU T G X).lr 1 v none (some (.int .i64 (n:Int))) none S' k=k (pa v n) S':=by
 cases h with
 |bG l g cC=>show m1 1 (.bG 1 (l.map U) g) none (some (.int .i64 (n:Int))) none S' k=_;unfold m1;simp -implicitDefEqProofs only[pH,g6,gM,Nat.zero_le,eQ (Nat.zero_le n),show Nat.ble n (l.map U).length=true from eQ (by simpa using dp),show pu g 0 n (l.map U)=true from by cases g<;> first|rfl |(simp -implicitDefEqProofs only[pu,gj,Bool.or_true]),bD,b2,bL,Nat.sub_zero,List.map_take];cases g<;> first|rfl |simp [pa,o9]
 |cZ d j off cap cs l cS cC bK hle a3=>show m1 1 (.cZ (.g d j) off l.length cap 1) none (some (.int .i64 (n:Int))) none S' k=_;unfold m1;simp -implicitDefEqProofs only[pH,g6,gM,eQ (Nat.zero_le n),show Nat.ble n cap=true from eQ (by omega),show Nat.ble cap cap=true from eQ (aC _),eQ a3,bD,b2,Nat.sub_zero,Nat.zero_mul,Nat.add_zero,ite_self];rfl
theorem l1.cut{S:ag}{v:af}{l:List Nat}(h:l1 S v l)(n:Nat)(dp:n≤l.length):l1 S (pa v n) (l.take n):=by
 cases h with
 |bG l g cC=>show l1 S (.bG 1 ((l.map U).take n) (o9 g (l.map U).length n)) (l.take n);rw[←List.map_take];exact .bG _ _ (IZ cC _ _)
 |cZ d j off cap cs l cS cC bK hle a3=>
  have e:(l.take n).length=n:=by simp;omega
  have:=l1.cZ (s:=S) d j off cap cs (l.take n) cS cC (by
   rw[e];have au:((cs.drop off).take l.length).take n=(l.map U).take n:=by rw[bK]
   rw[List.take_take,Nat.min_eq_left dp] at au;rw[au,List.map_take]) (by omega) (by omega)
  rwa [e] at this
theorem l2:∀(l:List Nat) (n:Nat) (cs:List af),n=l.length→cs.take n=l.map U→chunk 1 n cs=l.map U
 |[],n,cs,dp,_=>by subst dp;rfl
 |x::l,n,cs,dp,h=>by
  subst dp;cases cs with
  |nil=>simp at h
  |cons c cs=>simp -implicitDefEqProofs only[bP,cV,fK,List.cons.injEq] at h;simp -implicitDefEqProofs only[bP,chunk,dK,bL];rw[l2 l l.length cs rfl h.2,fK,h.1];rfl
def jB(v:af)(l:List Nat):Prop:=∃g,v=.bG 1 (l.map U) g∧∀a,g≠.dB a
theorem jB.rd{v:af}{l:List Nat}(h:jB v l)(s:ag):l1 s v l:=by obtain⟨g,rfl,cC⟩:=h;exact .bG l g (od.not cC _)
theorem jB.nil:jB (.bG 1 [] .nil) []:=⟨.nil,rfl,fun a e=>by cases e⟩
theorem l1.same{s S:ag}{v:af}{l:List Nat}(h:l1 s v l)(e:Child s S):Ab.freeze S v=some v:=by
 have q:=e.aa;cases h with
 |bG l g cC=>
  show ef S _=_;cases g with
  |dB a=>obtain⟨x,i,rfl,a8⟩:=cC a rfl;simp -implicitDefEqProofs only[ef,gp];rw[if_pos (by omega)]
  |_=>rfl
 |cZ d j off cap cs l cS cC bK hle a3=>show ef S (.cZ (.g d j) off l.length cap 1)=_;simp -implicitDefEqProofs only[ef,gp];rw[if_neg (by omega),if_pos (by omega)]
theorem m3{S:ag}{j off n cap:Nat}{cs:List af}(l:List Nat)(dp:n=l.length)(cC:S.own[j]? =some (.cells cs))(bK:(cs.drop off).take l.length=l.map U)(hle:off+l.length≤cs.length):∃fG,Ab.freeze S (.cZ (.g S.aa j) off n cap 1)=some fG∧jB fG l:=by
 subst dp;refine⟨.bG 1 (l.map U) (if l.length=cap then .exact else .any),?_,_,rfl,fun a=>?_⟩
 ·show ef S (.cZ (.g S.aa j) off l.length cap 1)=_;simp -implicitDefEqProofs only[ef,gp,if_true,gr,cC];rw[l2 l l.length (cs.drop off) rfl bK,gj];rw[if_pos];simp -implicitDefEqProofs only[Nat.mul_one,eM,bn];exact⟨eQ hle,rfl⟩
 ·split<;> (intro e;cases e)
theorem l1.freeze{s S:ag}{v:af}{l:List Nat}(h:l1 S v l)(q:Child s S):∃fG,Ab.freeze S v=some fG∧l1 s fG l:=by
 have A:=q.aa;cases h with
 |bG l g cC=>
  cases g with
  |dB a=>
   obtain⟨x,i,rfl,a8⟩:=cC a rfl;by_cases r:x<S.aa
   ·refine⟨.bG 1 (l.map U) (.dB (.g x i)),?_,.bG l _ (fun a e=>⟨x,i,by cases e;rfl,by omega⟩)⟩;show(if x<S.aa then some (af.bG 1 (l.map U) (.dB (.g x i))) else _)=_;rw[if_pos r]
   ·refine⟨.bG 1 (l.map U) .any,?_,.bG l _ (fun a e=>by cases e)⟩;show(if x<S.aa then _ else jR S 1 (l.map U))=_;unfold jR;rw[if_neg r,if_pos (gj l)]
  |nil=>exact⟨_,rfl,.bG l _ (fun a e=>by cases e)⟩
  |exact=>exact⟨_,rfl,.bG l _ (fun a e=>by cases e)⟩
  |any=>exact⟨_,rfl,.bG l _ (fun a e=>by cases e)⟩
 |cZ d j off cap cs l cS cC bK hle a3=>
  by_cases e:d=S.aa
  ·subst e;have y:S.own[j]? =some (.cells cs):=by simpa [ag.get] using cC
   refine⟨.bG 1 (l.map U) (if l.length=cap then .exact else .any),?_,.bG l _ (fun a=>?_)⟩
   ·show ef S (.cZ (.g S.aa j) off l.length cap 1)=_;simp -implicitDefEqProofs only[ef,gp,if_true,gr,y];rw[l2 l l.length (cs.drop off) rfl bK,gj];rw[if_pos];simp -implicitDefEqProofs only[Nat.mul_one,eM,bn];exact⟨eQ hle,rfl⟩
   ·split<;> (intro e;cases e)
  ·have u:d<S.aa:=by omega
   refine⟨.cZ (.g d j) off l.length cap 1,?_,.cZ d j off cap cs l (by omega) ?_ bK hle a3⟩
   ·show ef S (.cZ (.g d j) off l.length cap 1)=_;simp -implicitDefEqProofs only[ef,gp];rw[if_neg e,if_pos u]
   ·simp -implicitDefEqProofs only[ag.get] at cC ⊢;rw[if_neg e,if_pos u,q.up,q.ro] at cC;by_cases dU:d=s.aa
    ·rw[if_pos dU]
     have:S.aa-1-d=0:=by omega
     rw[this] at cC;simpa using cC
    ·rw[if_neg dU,if_pos (by omega)]
     have:S.aa-1-d=(s.aa-1-d)+1:=by omega
     rw[this] at cC;simpa using cC
theorem l1.own{S:ag}{j off n cap:Nat}{cs:List af}(l:List Nat)(dp:n=l.length)(cC:S.own[j]? =some (.cells cs))(bK:(cs.drop off).take l.length=l.map U)(hle:off+l.length≤cs.length)(a3:l.length≤cap):l1 S (.cZ (.g S.aa j) off n cap 1) l:=by subst dp;exact .cZ S.aa j off cap cs l (aC _) (by simpa [ag.get] using cC) bK hle a3
def gU(S:ag)(j:Nat)(l:List Nat):Prop:=S.own[j]? =some (.cells (l.map U))
def ag.put(S:ag)(j:Nat)(l:List Nat):ag:={S with own:=S.own.set j (.cells (l.map U))}
theorem gU.put{S:ag}{j:Nat}{l:List Nat}(h:gU S j l)(l':List Nat):gU (S.put j l') j l':=by have df:=(ey.1 h).1;simp [gU,ag.put,df]
theorem Child.put{s S:ag}(h:Child s S)(j:Nat)(l:List Nat):Child s (S.put j l):=⟨h.up,h.ro⟩
theorem gU.get{S:ag}{j:Nat}{l:List Nat}(h:gU S j l)(i n cap:Nat)(bX:i<l.length)(dp:i<n)(k:bf):(aU T G X).bT S (fun v S=>(aU T G X).ar S k none v) 1 (.cZ (.l j) 0 n cap 1) (.int .i64 (i:Int))=k (U (l.getD i 0)) S:=by rw[jh _ _ _ _ _ _ _ dp,iN h (c:=U (l.getD i 0)) (by simp [List.getD,bX])]
theorem gU.gT{S:ag}{j:Nat}{l:List Nat}(h:gU S j l)(i n cap x:Nat)(bX:i<l.length)(dp:i<n)(k:bf):(aU T G X).bT S (fun v S=>(aU T G X).b8 S k 1 v (U x)) 1 (.cZ (.l j) 0 n cap 1) (.int .i64 (i:Int))=k .dead (S.put j (l.set i x)):=by rw[jh _ _ _ _ _ _ _ dp,k4];have e:(U x).fh=true:=rfl;simp -implicitDefEqProofs only[fl,e,af.cells,bP,cy,bg,gM,bD,b2];unfold iu;rw[show S.get (.l j)=some (.cells (l.map U)) from h];simp -implicitDefEqProofs only[Nat.mul_one,bP,cy,bg,show Nat.ble (i+1) (l.map U).length=true from eQ (by simp;omega),show S.hB (.l j) [U x]=true from by simp [ag.hB,ag.oL],List.all_cons,show(U x).eO=true from rfl,List.all_nil,bD,b2];show k .dead {S with own:=S.own.set j (.cells ((l.map U).set i (U x)))}=_;rw[ag.put,List.map_set]
theorem gU.make(S:ag)(n:Nat):gU (S.new (.cells (List.replicate n (U 0)))) S.own.length (List.replicate n 0):=by simp [gU,ag.new]
theorem gU.rd{S:ag}{j:Nat}{l:List Nat}(h:gU S j l)(n cap:Nat)(dp:n≤l.length)(a3:n≤cap):l1 S (.cZ (.g S.aa j) 0 n cap 1) (l.take n):=by refine l1.own (l.take n) (by simp;omega) h ?_ (by simp;omega) (by simp;omega);simp [List.map_take]
theorem iz(d i o l c z:Nat):af.ap d (.cZ (.l i) o l c z)=.cZ (.g d i) o l c z:=rfl
theorem s9:∀l:List Nat,(l.map U).flatMap af.cells=l.map U
 |[]=>rfl
 |x::l=>by simp -implicitDefEqProofs only[fK,List.flatMap_cons,s9 l];rfl
theorem ta:∀l:List Nat,(l.map U).all af.eO=true
 |[]=>rfl
 |x::l=>by simp -implicitDefEqProofs only[fK,List.all_cons,ta l,Bool.and_true];rfl
theorem l1.lH{S:ag}{v:af}{l:List Nat}(h:l1 S v l):dL S v=some (1,l.map U):=by
 cases h with
 |bG l g cC=>
  cases g with
  |dB a=>simp -implicitDefEqProofs only[dL,gj,if_true]
  |_=>rfl
 |cZ d j off cap cs l cS cC bK hle a3=>simp -implicitDefEqProofs only[dL,cC];rw[l2 l l.length (cs.drop off) rfl bK,gj];rw[if_pos];simp -implicitDefEqProofs only[Nat.mul_one,eM,bn];exact⟨eQ hle,rfl⟩
theorem Aq(vs cs:List af)(h:vs.length≤cs.length):dS cs 0 vs=vs++cs.drop vs.length:=by
 apply List.ext_getElem?;intro j;rw[gP _ _ _ (by omega)];by_cases df:j<vs.length
 ·rw[if_pos (by omega),hn df];rfl
 ·rw[if_neg (by omega),j5 (by omega),List.getElem?_drop];congr 1;omega
theorem gU.copy{S:ag}{v:af}{l e:List Nat}{j n:Nat}(h:gU S j e)(bO:l1 S v l)(bK:l.length≤e.length)(dp:n=e.length)(k:bf):(aU T G X).rs S k 1 (.cZ (.l j) 0 n n 1) v=k (.int .i64 (l.length:Int)) (S.put j (l++e.drop l.length)):=by subst dp;show lQ _ S k 1 (.cZ (.l j) 0 e.length e.length 1) v=_;unfold lQ;simp -implicitDefEqProofs only[gM,b2];unfold copyV;simp -implicitDefEqProofs only[bO.lH,show S.get (.l j)=some (.cells (e.map U)) from h,eG,Nat.min_eq_left bK,gM,eM,bg,Nat.mul_one,eQ (aC _)];rw[show(l.map U).take l.length=l.map U from iP (by simp),s9,ta];simp -implicitDefEqProofs only[b2];rw[Aq _ _ (by simpa using bK)];simp -implicitDefEqProofs only[eG];show k _ {S with own:=S.own.set j (.cells (l.map U++(e.map U).drop l.length))}=_;rw[←List.map_drop,←List.map_append];rfl
theorem pA{S:ag}{j n:Nat}{cs vs:List af}(h:S.own[j]? =some (.cells cs))(au:vs.length=n)(az:cs.length=n)(b3:vs.all af.eO=true):(aU T G X).b8 S k n (.ref (.l j) 0) (.agg vs)=k .dead {S with own:=S.own.set j (.cells vs)}:=by
 rw[k4];unfold fl;simp -implicitDefEqProofs only[af.fh,af.cells,au,gM,bD,b2];unfold iu;rw[show S.get (.l j)=some (.cells cs) from h];have e:dS cs 0 vs=vs:=s8 _ _ (by omega);have dU:Nat.ble (0+vs.length) cs.length=true:=eQ (by omega);have q:S.hB (.l j) vs=true:=by simp [ag.hB,ag.oL]
 simp -implicitDefEqProofs only[dU,q,b3,bD,b2,e];rfl
theorem qs{S:ag}{j n:Nat}{cs:List af}(h:S.own[j]? =some (.cells cs))(dp:cs.length=n):ky S (.ref (.l j) 0) (some n)=some (.agg cs):=by unfold ky;simp -implicitDefEqProofs only[show S.get (.l j)=some (.cells cs) from h,bg,bL];rw[if_pos (eQ (by omega)),iP (by omega)]
theorem jB.freeze{v:af}{l:List Nat}(h:jB v l)(S:ag):Ab.freeze S v=some v:=by obtain⟨g,rfl,cC⟩:=h;show ef S _=_;cases g<;> first|rfl |exact absurd rfl (cC _)
theorem jB.ap{v:af}{l:List Nat}(h:jB v l)(d:Nat):v.ap d=v:=(h.rd default).ap d
theorem jB.ef{v:af}{l:List Nat}(h:jB v l)(S:ag):Ab.ef S v=some v:=by obtain⟨g,rfl,cC⟩:=h;cases g<;> first|rfl |exact absurd rfl (cC _)
theorem jB.bd{v:af}{l:List Nat}(h:jB v l):v.bd=true:=by obtain⟨g,rfl,cC⟩:=h;cases g<;> first|rfl |exact absurd rfl (cC _)
theorem jB.eO{v:af}{l:List Nat}(h:jB v l):v.eO=true:=by obtain⟨g,rfl,cC⟩:=h;rfl
theorem jB.cut{v:af}{l:List Nat}(h:jB v l)(n:Nat):jB (pa v n) (l.take n):=by obtain⟨g,rfl,cC⟩:=h;exact⟨o9 g (l.map U).length n,by simp [pa,List.map_take],vm cC _ _⟩
theorem jB.fc(l:List Nat):jB (.bG 1 (l.map U) .exact) l:=⟨.exact,rfl,fun a e=>by cases e⟩
theorem I0{S:ag}{j:Nat}{l:List Nat}(h:gU S j l):S.put j l=S:=by
 obtain⟨own,up,ro⟩:=S;simp -implicitDefEqProofs only[gU] at h;simp -implicitDefEqProofs only[ag.put];congr 1;apply List.ext_getElem?;intro i;by_cases e:j=i
 ·subst e;rw[List.getElem?_set_self (ey.1 h).1,h]
 ·rw[ns e]
theorem gU.FN{S:ag}{i j:Nat}{l:List Nat}(h:gU S j l)(fe:i≠j)(l':List Nat):gU (S.put i l') j l:=by simp -implicitDefEqProofs only[gU,ag.put] at h ⊢;rw[ns fe];exact h
theorem gU.new{S:ag}{j:Nat}{l:List Nat}(h:gU S j l)(o:du):gU (S.new o) j l:=by simp -implicitDefEqProofs only[gU,ag.new] at h ⊢;rw[hn (ey.1 h).1];exact h
theorem gU.lt{S:ag}{j:Nat}{l:List Nat}(h:gU S j l):j<S.own.length:=(ey.1 h).1
theorem k5(a:af)(l:List af):(aU T G X).bJ s k 0 (.ea (a::l))=k a s:=gv _ _ _ rfl
theorem k6(a b:af)(l:List af):(aU T G X).bJ s k 1 (.ea (a::b::l))=k b s:=gv _ _ _ rfl
theorem vn(a b c:af)(l:List af):(aU T G X).bJ s k 2 (.ea (a::b::c::l))=k c s:=gv _ _ _ rfl
theorem tc(l:List Nat):(aU T G X).be s k 1 (l.map U)=k (.bG 1 (l.map U) .exact) s:=by
 refine iM 1 _ (gj l) ?_
 induction l with
 |nil=>rfl
 |cons x l e=>simp -implicitDefEqProofs only[fK,List.all_cons,e,Bool.and_true];rfl
end Go.Ab
end
section
namespace Go.Ab
def pb:ag:={own:=[],up:=[],ro:=[]}
def fA(w:World):bi:={F:=fun a=>if a.spot=none then w.cell? a else none,n:=fun _=>0,loc:=fun _ _=>0,lD:=fun _ _ _=>none}
theorem c3.init(w:World):c3 (fA w) pb w:=by
 have e:∀d i,pb.get (.g d i)=none:=by intro d i;simp [ag.get,pb]
 refine⟨fun a v h=>?_,fun d l h=>?_,fun d i o h=>?_,fun d i o fL hI o' b h=>?_⟩
 ·simp only[fA] at h;split at h
  ·rename_i a6;exact⟨a6,h⟩
  ·cases h
 ·unfold ag.ao pb at h;simp at h;simp [h,fA]
 ·rw[e] at h;cases h
 ·rw[e] at h;cases h
structure Left (w w':World):Prop where
 size:w.heap.size≤w'.heap.size
 os:w'.os=w.os
 tape:w'.tape=w.tape
 output:w'.output=w.output
 C9:∀b,b<w.heap.size→w'.heap[b]? =w.heap[b]?
theorem fx.left{w w':World}{κ':bi}{s':ag}(h:fx (fA w) pb w κ' s' w'):Left w w':=
 ⟨h.size,h.os,h.tape,h.output,fun b e=>h.kU b e (fun⟨d,i,o,cC,_⟩=>by simp [ag.get,pb] at cC)⟩
section
variable{P:Program}(hm:P.follows .mixedOrders=true){T:kO}(eR:T.pw P){rk:Nat→Option c0}(xD:Dk P T rk){G:Nat→af}{X:Nat→List af→ag→ah}(kM:WH P rk G X)
include hm eR xD kM
theorem Ar{n f:Nat}{args:List af}{s':ag}{w:World}{xs:List Value}(h:call .not rk G X n f args pb=.ok (.bool true) s')(bB:rk f≠none)(dX:km (fA w) G)(a8:er (fA w) 1 args xs):
  Calls P f xs.toArray w fun e w'=>e=.returned (.bool true)∧Left w w':=by
 have u:∃fn,P.funcs[f]? =some fn∧fn.body.isSome=true∧(fn.name== "runtime.NumGoroutine")=false:=by
  cases eh:rk f with
  |none=>exact absurd eh bB
  |some y=>
   obtain⟨fn,au,az⟩:=xD f y eh;unfold u5 at az;cases q:fn.body with
   |none=>rw[q] at az;cases az
   |some c=>rw[q] at az;simp only[bn,Bool.not_eq_true'] at az;exact⟨fn,au,by simp [q],az.1.1.1.1⟩
 have A:∀x w',mA (fA w) pb w (.bool true) s' x w'→x=.bool true∧Left w w':=fun x w' ⟨κ',au,_,b3⟩=>by exact⟨dF.gY (b:=true) b3,au.left⟩
 rcases(u7 hm eR xD kM n 0).ok f args pb _ s' (fA w) w xs h (c3.init w) dX a8 with⟨x,w',au,az⟩|⟨au,az⟩
 ·obtain⟨fn,B,r,F⟩:=u;exfalso;have H:¬fn.name= "runtime.NumGoroutine" :=by simpa using F
  cases q:fn.body with
  |none=>rw[q] at r;cases r
  |some c=>simp [callFunc,B,H,q] at au
 ·exact az.mono fun e w' ⟨x,he,I⟩=>by obtain⟨dU,J⟩:=A x w' I;exact⟨by rw[he,dU],J⟩
end
inductive pI where
 |bool|int (k:IntKind)|str|bG (e:pI)|gT (jH:List pI)
mutual
def pI.size:pI→Nat
 |.gT jH=>pI.pc jH
 |_=>1
def pI.pc:List pI→Nat
 |[]=>0
 |s::tK=>s.size+pI.pc tK
end
def elemV:List af→af
 |[c]=>c
 |cs=>.agg cs
section
variable{H:Type}
mutual
def ij:pI→DataW H→List af
 |.bool,d=>match d with |.lit (.bool b)=>[.bool b]|_=>[]
 |.int k,d=>match d with |.lit (.int _ n)=>[.int k n]|_=>[]
 |.str,d=>match d with |.lit (.string fc)=>[.str (fc.map UInt8.toNat)]|_=>[]
 |.bG e,d=>match d with |.slice es _=>[.bG e.size (es.map fun x=>elemV (ij e x)) .any]|_=>[.bG e.size [] .nil]
 |.gT jH,d=>match d with |.agg ib=>oe jH ib|_=>[]
def oe:List pI→List (DataW H)→List af
 |[],_=>[]
 |s::tK,l=>match l with |d::ib=>ij s d++oe tK ib|[]=>[]
end
mutual
def jW:pI→DataW H→Prop
 |.bool,d=>∃b,d=.lit (.bool b)
 |.int k,d=>∃n,d=.lit (.int k n)∧(Lit.int k n).wf=true
 |.str,d=>∃fc,d=.lit (.string fc)∧fc.length≤maxLen
 |.bG e,d=>d=.nil∨∃es rest,d=.slice es rest∧es.length+rest.length≤maxLen∧∀x,x∈es→jW e x
 |.gT jH,d=>∃ib,d=.agg ib∧lI jH ib
def lI:List pI→List (DataW H)→Prop
 |[],l=>l=[]
 |s::tK,l=>∃d ib,l=d::ib∧jW s d∧lI tK ib
end
mutual
def mF(P:Program):pI→TypeId→Bool
 |.bool,t=>match P.underlying t with |some .bool=>true|_=>false
 |.int k,t=>match P.underlying t with |some (.int lN)=>decide (lN=k)|_=>false
 |.str,t=>match P.underlying t with |some .string=>true|_=>false
 |.bG e,t=>match P.underlying t with |some (.slice u)=>mF P e u&&Nat.beq (P.cellsOf u) e.size&&Nat.blt 0 e.size|_=>false
 |.gT jH,t=>match P.underlying t with |some (.struct sl)=>sB P jH sl.toList 0&&Nat.beq (P.cellsOf t) (pI.pc jH)|_=>false
def sB(P:Program):List pI→List Field→Nat→Bool
 |[],sl,_=>match sl with |[]=>true|_=>false
 |s::tK,sl,off=>match sl with |f::sl=>Nat.beq f.offset off&&Nat.beq (P.cellsOf f.type) s.size&&mF P s f.type&&sB P tK sl (off+s.size)|[]=>false
end
structure FO (κ:bi) (D:Nat) (n:Nat) (as:List af) (cs:List Value):Prop where
 PJ:er κ D as cs
 len:cs.length=n
 ref:af.aY as=true
 one:∀c,c∈as→c.cells=[c]
theorem FO.Kp{κ:bi}{D n:Nat}{as:List af}{cs:List Value}(h:FO κ D n as cs):as.length=n:=by rw[←h.PJ.1,h.len]
theorem FO.elem{κ:bi}{D n:Nat}{as:List af}{cs:List Value}(h:FO κ D n as cs):(elemV as).cells=as∧(elemV as).bd=true:=by
 unfold elemV;split
 ·rename_i c
  have:=h.ref;simp only[af.aY,Bool.and_true] at this;exact⟨h.one c (by simp),this⟩
 ·exact⟨rfl,by simpa [af.bd] using h.ref⟩
theorem rv:∀{a b:List af},af.aY a=true→af.aY b=true→af.aY (a++b)=true
 |[],b,_,h=>h
 |x::a,b,h,k=>by simp only[af.aY,bn] at h;simp only[List.cons_append,af.aY,h.1,rv h.2 k,bD]
theorem FO.append{κ:bi}{D n m:Nat}{as fc:List af}{cs ib:List Value}(h:FO κ D n as cs)(k:FO κ D m fc ib):FO κ D (n+m) (as++fc) (cs++ib):=
 ⟨h.PJ.append k.PJ,by simp [h.len,k.len],rv h.ref k.ref,fun c a3=>by
  rcases List.mem_append.1 a3 with au|au
  ·exact h.one c au
  ·exact k.one c au⟩
theorem FO.single{κ:bi}{D:Nat}{a:af}{v:Value}(h:dF κ D a v)(aT:a.bd=true)(au:a.cells=[a]):FO κ D 1 [a] [v]:=
 ⟨.cons h (.nil _ _),rfl,by simp [af.aY,aT],fun c a3=>by simp only[List.mem_singleton] at a3;subst a3;exact au⟩
variable{enc:TypeId×Value→H}{P:Program}{w:World}
mutual
theorem pd(D:Nat):∀(Dr:pI) (t:TypeId) (fuel:Nat) (cs:List Value) (d:DataW H) (ec:List MemPlace),mF P Dr t=true→DataW.trod enc P w 0 (fun _=>true) true fuel t cs=some (d,ec)→
  FO (fA w) D Dr.size (ij Dr d) cs∧jW Dr d
 |.bool,t,fuel,cs,d,ec,a6,h=>by
  simp only[mF] at a6;split at a6<;> try cases a6
  rename_i hu;obtain⟨b,rfl,e⟩:=DataW.trod_bool hu h;cases e;exact⟨.single (.bool b) rfl rfl,by simp only[jW];exact⟨b,rfl⟩⟩
 |.int k,t,fuel,cs,d,ec,a6,h=>by
  simp only[mF] at a6;split at a6<;> try cases a6
  rename_i lN hu;have dl:lN=k:=of_decide_eq_true a6;subst dl;obtain⟨n,rfl,e,hw⟩:=DataW.trod_int hu h;cases e;exact⟨.single (.int lN n) rfl rfl,by simp only[jW];exact⟨n,rfl,hw⟩⟩
 |.str,t,fuel,cs,d,ec,a6,h=>by
  simp only[mF] at a6;split at a6<;> try cases a6
  rename_i hu;obtain⟨s,rfl,e,hw⟩:=DataW.trod_string hu h;cases e;exact⟨.single (.str _ s rfl) rfl rfl,by simp only[jW];exact⟨_,rfl,hw⟩⟩
 |.bG e,t,fuel,cs,d,ec,a6,h=>by
  simp only[mF] at a6;split at a6<;> try cases a6
  rename_i u hu;simp only[bn] at a6;obtain⟨⟨ac3,e4⟩,lL⟩:=a6;have e4:=dk e4;have lL:0<e.size:=by simpa [Nat.blt_eq] using lL
  rcases DataW.trod_slice hu h with⟨rfl,dU⟩|⟨a,len,cap,lH,rest,n,rfl,rfl,dU,_,tC,sR,hlen,iQ,ac4,_⟩
  ·cases dU;exact⟨.single (.kS _) rfl rfl,by simp only[jW];exact .inl trivial⟩
  ·cases dU;have row:∀i,i<len→∃x r,lH[i]? =some x∧(∀j,j<e.size→w.cell? (a.add (i*e.size+j))=r[j]?)∧FO (fA w) D e.size (ij e x.1) r∧jW e x.1:=fun i bX=>by
    have au:=iQ i bX;obtain⟨x,a8⟩:∃x,lH[i]? =some x:=⟨_,eP (by omega)⟩;rw[a8] at au;obtain⟨r,aT,az⟩:=Option.bind_eq_some_iff.1 au;obtain⟨_,qh,uL⟩:=World.cells?_some aT;obtain⟨k1,oR⟩:=pd D e u n r x.1 x.2 ac3 az;refine⟨x,r,a8,fun j df=>?_,k1,oR⟩
    have:=uL j (by omega);rw[add_add,e4] at this;exact this
   have WX:=(ac4 rfl).1;have kf:∀y,y∈lH→∃r,FO (fA w) D e.size (ij e y.1) r∧jW e y.1:=fun y eT=>by
    obtain⟨i,bX,eT⟩:=List.getElem_of_mem eT;obtain⟨x,r,a8,_,k1,oR⟩:=row i (by omega)
    have:x=y:=by rw[eP bX,eT] at a8;exact(Option.some.inj a8).symm
    subst this;exact⟨r,k1,oR⟩
   have FP:∀y,y∈(lH.map (·.1)).map (fun x=>elemV (ij e x))→y.cells.length=e.size∧y.bd=true:=fun y eT=>by simp only[List.map_map,List.mem_map,Function.comp] at eT;obtain⟨z,hC,rfl⟩:=eT;obtain⟨r,k1,_⟩:=kf z hC;exact⟨by rw[k1.elem.1,k1.Kp],k1.elem.2⟩
   have wV:((lH.map (·.1)).map (fun x=>elemV (ij e x))).length=len:=by simp [hlen]
   have Kq:=e8 ((lH.map (·.1)).map (fun x=>elemV (ij e x))) e.size (fun y eT=>(FP y eT).1);rw[wV] at Kq;have cell:∀j,j<len*e.size→∃c v,(((lH.map (·.1)).map (fun x=>elemV (ij e x))).flatMap af.cells)[j]? =some c∧w.cell? (a.add j)=some v∧dF (fA w) D c v:=fun j df=>by
    have gh:j/e.size<len:=Nat.div_lt_of_lt_mul (by rw[ez];exact df);have io:j%e.size<e.size:=Nat.mod_lt _ lL;have uv:j/e.size*e.size+j%e.size=j:=by rw[ez];exact Nat.div_add_mod j e.size
    obtain⟨x,r,a8,a3,k1,_⟩:=row _ gh;have a3:=a3 _ io;rw[uv] at a3;have dU:((lH.map (·.1)).map (fun x=>elemV (ij e x)))[j/e.size]? =some (elemV (ij e x.1)):=by simp [a8]
    have f1:=ny _ e.size _ _ (fun y eT=>(FP y eT).1) dU _ io;rw[uv,k1.elem.1] at f1;obtain⟨c,Ds⟩:∃c,(ij e x.1)[j%e.size]? =some c:=⟨_,eP (by rw[k1.Kp];exact io)⟩;obtain⟨v,bO,WY⟩:=k1.PJ.get Ds;exact⟨c,v,by rw[f1,Ds],by rw[a3,bO],WY⟩
   have Kr:0<len→a.spot=none:=fun eZ=>by
    obtain⟨c,v,_,bO,_⟩:=cell 0 (Nat.mul_pos eZ lL)
    have:a.add 0=a:=by simp [Addr.add]
    rw[this] at bO;exact World.cell?_spot bO
   refine⟨.single ?_ (by simp [af.bd]) rfl,?_⟩
   ·have key:dF (fA w) D (.bG e.size ((lH.map (·.1)).map (fun x=>elemV (ij e x))) .any) (.slice (some a) ((lH.map (·.1)).map (fun x=>elemV (ij e x))).length cap):=by
     refine .bG e.size _ .any a cap (fun j=>(w.cell? (a.add j)).getD undef) trivial (by rw[wV];exact tC) (fun fe=>Kr ?_) (fun y eT=>(FP y eT).1) (.inl fun y eT=>(FP y eT).2) (fun j df=>?_) (fun j c a3=>?_)
     ·rw[←wV];exact List.length_pos_iff.2 fe
     ·rw[Kq] at df;obtain⟨c,v,_,bO,_⟩:=cell j df;have eZ:0<len:=Nat.pos_of_ne_zero fun oG=>by rw[oG] at df;simp at df
      simp only[fA,mu (Kr eZ),if_true,bO,Option.getD_some]
     ·have df:j<len*e.size:=by rw[←Kq];exact(ey.1 a3).1
      obtain⟨nS,v,kV,bO,WY⟩:=cell j df;rw[a3] at kV;cases kV;simp only[bO,Option.getD_some];exact WY
    rw[wV] at key;exact key
   ·simp only[jW];refine .inr ⟨_,_,rfl,by simp [hlen,WX];omega,fun x a8=>?_⟩;simp only[List.mem_map] at a8;obtain⟨y,eT,rfl⟩:=a8;exact(kf y eT).choose_spec.2
 |.gT jH,t,fuel,cs,d,ec,a6,h=>by
  simp only[mF] at a6;split at a6<;> try cases a6
  rename_i sl hu;simp only[bn] at a6;have e4:=dk a6.2;obtain⟨xs,n,rfl,dU,bK,f0,bB⟩:=DataW.trod_struct hu h;cases dU
  have:=ry D jH sl.toList 0 n cs xs a6.1 (by simpa using f0) (by rw[bK,e4];omega) (fun i f bX=>by simpa using bB i f (by simpa using bX));refine⟨?_,?_⟩
  ·simpa [ij,pI.size] using this.1
  ·simp only[jW];exact⟨_,rfl,this.2⟩
theorem ry(D:Nat):∀(tK:List pI) (sl:List Field) (off n:Nat) (cs:List Value) (xs:List (DataW H×List MemPlace)),sB P tK sl off=true→xs.length=sl.length→cs.length=off+pI.pc tK→
  (∀(i:Nat) (f:Field),sl[i]? =some f→DataW.trod enc P w 0 (fun _=>true) true n f.type ((cs.drop f.offset).take (P.cellsOf f.type))=xs[i]?)→
  FO (fA w) D (pI.pc tK) (oe tK (xs.map (·.1))) (cs.drop off)∧lI tK (xs.map (·.1))
 |[],sl,off,n,cs,xs,a6,a8,bK,bB=>by
  cases sl with
  |cons f sl=>simp [sB] at a6
  |nil=>obtain rfl:xs=[]:=kQ (by simpa using a8);simp only[pI.pc,Nat.add_zero] at bK;rw[lz (by omega)];exact⟨⟨.nil _ _,rfl,rfl,fun c a3=>by simp [oe] at a3⟩,by simp [lI]⟩
 |s::tK,sl,off,n,cs,xs,a6,a8,bK,bB=>by
  cases sl with
  |nil=>simp [sB] at a6
  |cons f sl=>
   simp only[sB,bn] at a6;obtain⟨⟨⟨au,az⟩,b3⟩,dJ⟩:=a6;have au:=dk au;have az:=dk az;cases xs with
   |nil=>simp at a8
   |cons x xs=>
    have vo:=bB 0 f rfl;simp only[List.getElem?_cons_zero] at vo;rw[au,az] at vo;obtain⟨k1,oR⟩:=pd D s f.type n _ x.1 x.2 b3 vo;simp only[pI.pc] at bK;obtain⟨As,abp⟩:=ry D tK sl (off+s.size) n cs xs dJ (by simpa using a8) (by omega) (fun i wF bX=>by simpa using bB (i+1) wF (by simpa using bX));refine⟨?_,?_⟩
    ·have dU:cs.drop off=(cs.drop off).take s.size++cs.drop (off+s.size):=by
      rw[←List.drop_drop];exact(List.take_append_drop _ _).symm
     rw[dU];simpa [oe,pI.pc] using k1.append As
    ·simp only[fK,lI];exact⟨_,_,rfl,oR,abp⟩
end
end
end Go.Ab
end
section
namespace Go.Ab
open Go.ChangeShapes Go.WideShapes
section
variable{H:Type}{enc:TypeId×Value→H}{P:Program}
def At:pI→DataW H→af
 |.gT jH,d=>.agg (ij (.gT jH) d)
 |Dr,d=>(ij Dr d).headD .dead
theorem Dt{W:World}(D:Nat){Dr:pI}{t:TypeId}{v:Value}{d:DataW H}{ec:List MemPlace}{base:Nat}(a6:mF P Dr t=true)(bO:Value.okWide P W .any base t v)(h:DataW.Trod enc P W 0 (fun _=>true) true t v d ec):
  dF (fA W) D (At Dr d) v∧jW Dr d:=by
 obtain⟨fuel,h⟩:=h;obtain⟨au,az⟩:=pd D Dr t fuel _ d ec a6 h;refine⟨?_,az⟩;have single:Dr.size=1→(∀cs,v≠.agg cs)→dF (fA W) D ((ij Dr d).headD .dead) v:=fun hC fe=>by
  have a3:v.cells.toList=[v]:=by
   cases v<;> try rfl
   exact absurd rfl (fe _)
  rw[a3] at au;have q:=au.Kp;rw[hC] at q
  match gh:ij Dr d,q with
  |[c],_=>obtain⟨x,a8,aT⟩:=au.PJ.get (j:=0) (c:=c) (by rw[gh];rfl);cases a8;exact aT
 cases Dr with
 |gT jH=>
  simp only[mF] at a6;split at a6<;> try cases a6
  rename_i sl hu;unfold Value.okWide at bO;rw[hu] at bO;obtain⟨cs,rfl,_,_⟩:=bO;exact .agg _ cs.toList au.PJ.1 au.PJ.2
 |bool=>
  refine single rfl fun cs e=>?_
  subst e;simp only[mF] at a6;split at a6<;> try cases a6
  rename_i hu;simp [Value.okWide,hu,Cell.okWide,Cell.ok] at bO
 |int k=>
  refine single rfl fun cs e=>?_
  subst e;simp only[mF] at a6;split at a6<;> try cases a6
  rename_i hu;simp [Value.okWide,hu,Cell.okWide,Cell.ok] at bO
 |str=>
  refine single rfl fun cs e=>?_
  subst e;simp only[mF] at a6;split at a6<;> try cases a6
  rename_i hu;simp [Value.okWide,hu,Cell.okWide,Cell.ok] at bO
 |bG e=>
  refine single rfl fun cs e=>?_
  subst e;simp only[mF] at a6;split at a6<;> try cases a6
  rename_i hu;simp [Value.okWide,hu,Cell.okWide,Cell.ok] at bO
def Ks:List pI→List (DataW H)→List af
 |s::tK,d::ib=>At s d::Ks tK ib
 |_,_=>[]
def vp(P:Program):List pI→List TypeId→Bool
 |[],[]=>true
 |s::tK,t::e=>mF P s t&&vp P tK e
 |_,_=>false
theorem td{W:World}(D:Nat){base:Nat}:∀(r:List pI) (e:List TypeId) (vs:List Value) (ib:List (DataW H)) (ec:List MemPlace),vp P r e=true→(∀(j:Nat) t v,e[j]? =some t→vs[j]? =some v→Value.okWide P W .any base t v)→
  DataW.TrodAll enc P W 0 (fun _=>true) true e vs ib ec→er (fA W) D (Ks r ib) vs∧lI r ib
 |[],[],vs,ib,ec,_,_,h=>by
  cases vs with
  |cons v vs=>simp [DataW.TrodAll] at h
  |nil=>
   cases ib with
   |cons d ib=>simp [DataW.TrodAll] at h
   |nil=>exact⟨.nil _ _,by simp [lI]⟩
 |s::tK,[],_,_,_,a6,_,_=>by simp [vp] at a6
 |[],t::e,_,_,_,a6,_,_=>by simp [vp] at a6
 |s::tK,t::e,vs,ib,ec,a6,bO,h=>by
  cases vs with
  |nil=>cases ib<;> simp [DataW.TrodAll] at h
  |cons v vs=>
   cases ib with
   |nil=>simp [DataW.TrodAll] at h
   |cons d ib=>simp only[DataW.TrodAll] at h;obtain⟨p,q,au,az,_⟩:=h;simp only[vp,bn] at a6;obtain⟨k1,oR⟩:=Dt D a6.1 (bO 0 t v rfl rfl) au;obtain⟨As,abp⟩:=td D tK e vs ib q a6.2 (fun j Pv fG eh u=>bO (j+1) Pv fG (by simpa using eh) (by simpa using u)) az;refine⟨.cons k1 As,?_⟩;simp only[lI];exact⟨_,_,rfl,oR,abp⟩
theorem Left.sameAt{W e:World}(h:Left W e){p:MemPlace}(fC:p.block<W.heap.size):W.sameAt e p:=by
 cases p with
 |cell b off=>show e.cell? _=W.cell? _;unfold World.cell?;simp only[h.C9 b fC]
 |map b=>exact h.C9 b fC
theorem xP{W r:World}(bK:laidOutB P=true)(oI:Left W r):∀(e:List TypeId) (vs:List Value) (ib:List (DataW H)) (ec:List MemPlace),(∀t,t∈e→P.readableRec t=true∧t<P.types.size)→(∀p,p∈ec→p.block<W.heap.size)→
  DataW.TrodAll enc P W 0 (fun _=>true) true e vs ib ec→DataW.TrodAll enc P r 0 (fun b=>decide (b<W.heap.size)) true e vs ib ec
 |[],vs,ib,ec,_,_,h=>by cases vs<;> cases ib<;> simp only[DataW.TrodAll] at h ⊢;exact h
 |t::e,vs,ib,ec,eh,fC,h=>by
  cases vs with
  |nil=>cases ib<;> simp [DataW.TrodAll] at h
  |cons v vs=>
   cases ib with
   |nil=>simp [DataW.TrodAll] at h
   |cons d ib=>
    simp only[DataW.TrodAll] at h ⊢;obtain⟨p,q,au,az,rfl⟩:=h;have aT:=eh t (by simp);exact⟨p,q,WideElems.Trod_stays bK aT.1 aT.2 au (fun x a8=>oI.sameAt (fC x (by simp [a8]))) (fun x a8=>by simpa using fC x (by simp [a8])),
     xP bK oI e vs ib q (fun Pv u=>eh Pv (by simp [u])) (fun x a8=>fC x (by simp [a8])) az,rfl⟩
theorem Left.keptBut{W e:World}(h:Left W e)(may:MemPlace→Prop):W.keptBut e may:=by
 refine⟨h.os,h.output,fun i bX=>?_⟩;rw[h.C9 i bX]
 have:∃o,W.heap[i]? =some o:=⟨_,Array.getElem?_eq_getElem bX⟩;obtain⟨o,q⟩:=this;rw[q];cases o<;> simp
theorem Du{f:Func}{s:ChangeSpec}{W A:World}{args:Array Value}{ib gs:List (DataW H)}{before:List MemPlace}(r:DataW.Whole enc P f.params.toList s.vars false W args.toList ib gs before)(bO:s.vars=[])
  (bB:∀(l:List (DataW H)),l.length=f.params.size→s.fn H l= {results:=[.lit (.bool true)],args:=l,vars:=[]}){tb:TypeId}(I:f.resultTypes= #[tb])(J:P.underlying tb=some .bool)(bK:laidOutB P=true)
  (K:∀t,t∈f.params.toList→P.readableRec t=true∧t<P.types.size)(oI:Left W A):s.post enc P f false true false false W args (.bool true) A:=by
 have L:=r;have B:=r.lt;obtain⟨p,q,F,u,rfl,_,_⟩:=r;rw[bO] at u;have M:gs=[]∧q=[]:=by cases gs<;> simp [DataW.TrodVars] at u;exact⟨rfl,u⟩
 obtain⟨rfl,rfl⟩:=M;have hlen:∀(e:List TypeId) (vs:List Value) (ib:List (DataW H)) (ec:List MemPlace),DataW.TrodAll enc P W 0 (fun _=>true) true e vs ib ec→ib.length=e.length:=by
  intro e
  induction e with
  |nil=>intro vs ib ec h;cases vs<;> cases ib<;> simp [DataW.TrodAll] at h ⊢
  |cons t e N=>intro vs ib ec h;cases vs<;> cases ib<;> simp only[DataW.TrodAll] at h;obtain⟨_,_,_,az,_⟩:=h;simp [N _ _ _ az]
 have y:=bB (ib++[]) (by simpa using hlen _ _ _ _ F);refine⟨ib,[],p++[],[],p,[],L,?_,?_,?_,oI.keptBut _,fun h=>by cases h⟩
 ·rw[y,I];exact⟨[],[],⟨1,by simp [DataW.trod,Value.cells,J]⟩,rfl,rfl⟩
 ·rw[y];simp only[oJ] at B ⊢;exact xP bK oI _ _ _ _ K B F
 ·rw[y,bO];rfl
end
end Go.Ab
end
section
namespace Go.Ab
def abq:Value→af
 |.bool b=>.bool b
 |.int k n=>.int k n
 |.string _=>.str []
 |.pointer _=>.hP
 |.slice _ _ _=>.bG 0 [] .nil
 |.map _=>.fj
 |.nilFunc=>.h2
 |.nilIface=>.hQ
 |_=>.dead
noncomputable def Kt(P:Program):kO:={eb:=fun t=>P.underlying t,info:=fun t=>(P.info? t).bind fun i=>i.zero.map fun z=>(i.size,i.bytes,z),WG:=fun t=>match (P.info? t).bind (·.zero) with |some z=>z.cells.toList.map abq|none=>[],eqs:=fun t=> !P.stoodInHeld t&& !P.eqGuardType P.depth t}
theorem Ku{o:Option TypeInfo}{n b:Nat}{z:Value}(h:(o.bind fun i=>i.zero.map fun z=>(i.size,i.bytes,z))=some (n,b,z)):∃i,o=some i∧i.size=n∧i.bytes=b∧i.zero=some z:=by obtain⟨i,bX,h⟩:=Option.bind_eq_some_iff.1 h;obtain⟨WE,hC,h⟩:=Option.map_eq_some_iff.1 h;cases h;exact⟨i,bX,rfl,rfl,hC⟩
theorem rz(P:Program):(Kt P).pw P where
 eb:=fun _ _ h=>h
 info:=fun t _ _ _ h=>Ku (o:=P.info? t) h
 eqs:=fun t h=>by have e:(!P.stoodInHeld t&& !P.eqGuardType P.depth t)=true:=h;simpa using e
 Da:=fun _ _ h=>by cases h
noncomputable def abr(P:Program)(n:Nat):kO:={Kt P with Da:=fun f j=>Nat.beq f n&&Nat.beq j 0}
theorem PK(P:Program)(n:Nat)(h:z2 P n 0):(abr P n).pw P where
 eb:=(rz P).eb
 info:=(rz P).info
 eqs:=(rz P).eqs
 Da:=fun f j e=>by have e:(Nat.beq f n&&Nat.beq j 0)=true:=e;simp only[bn] at e;have au:=dk e.1;have az:=dk e.2;subst au;subst az;exact h
def ag.on(s:ag)(o:List du):ag:={own:=o,up:=s.own::s.up,ro:=s.ro}
theorem ag.g3(s:ag)(o:List du):(s.on o).aa=s.aa+1:=s.i9
theorem ag.Dv(s:ag)(o:List du)(d:Nat):(s.on o).ao d=if d=s.aa+1 then some o else s.ao d:=by
 have h:=s.qP d;unfold ag.ao at h ⊢;rw[ag.g3];rw[ag.i9] at h;by_cases au:d=s.aa+1
 ·simp [au,ag.on]
 ·simp only[au,↓reduceIte] at h ⊢;exact h
theorem ag.kB(s:ag)(o:List du)(d i:Nat):(s.on o).get (.g d i)=if d=s.aa+1 then o[i]? else s.get (.g d i):=by rw[ag.ms,ag.ms,ag.Dv];split<;> rfl
theorem ag.FQ(s:ag)(o:List du){d i:Nat}{b:du}(h:s.get (.g d i)=some b):(s.on o).get (.g d i)=some b:=by rw[ag.kB,if_neg (by have:=ag.gu h;omega)];exact h
theorem c3.off{κ:bi}{s:ag}{o:List du}{w:World}(h:c3 κ (s.on o) w):c3 κ s w:=h.pop (s:=s.on o) rfl
theorem Live.on{κ:bi}{s:ag}{o:List du}{b:Nat}(h:Live κ (s.on o) b):Live κ s b∨∃i x,o[i]? =some x∧bh κ (s.aa+1) i x=some b:=by
 obtain⟨d,i,x,au,az⟩:=h;rw[ag.kB] at au;split at au
 ·rename_i cS;exact .inr ⟨i,x,au,by rw[←cS];exact az⟩
 ·exact .inl ⟨d,i,x,au,az⟩
theorem Live.up{κ:bi}{s:ag}{o:List du}{b:Nat}(h:Live κ s b):Live κ (s.on o) b:=by obtain⟨d,i,x,au,az⟩:=h;exact⟨d,i,x,s.FQ o au,az⟩
theorem c3.og{κ:bi}{s:ag}{o:List du}{w:World}(a6:c3 κ (s.on o) w){i:Nat}{x:du}{b:Nat}(a8:o[i]? =some x)(e:bh κ (s.aa+1) i x=some b):¬Live κ s b:=fun⟨d,j,y,au,az⟩=>by have:=a6.inj (s.aa+1) i x d j y b (by rw[ag.kB,if_pos rfl];exact a8) (s.FQ o au) e az;have cS:=ag.gu au;omega
def bi.back(κ κ':bi)(D:Nat):bi:=
 {F:=κ'.F,n:=fun d=>if d=D then κ.n d else κ'.n d,loc:=fun d i=>if d=D then κ.loc d i else κ'.loc d i,lD:=fun d i m=>if d=D then κ.lD d i m else κ'.lD d i m}
theorem c3.lay{l:Nat}{κ κ':bi}{s s':ag}{o:List du}{w w':World}(a6:c3 κ (s.on o) w)(he:hq l κ s w κ' s' w')(r:c3 κ' s' w')(bK:∀i x,o[i]? =some x→bh κ (s.aa+1) i x≠some l):
  ∃H,c3 H (s'.on o) w'∧hq l κ (s.on o) w H (s'.on o) w'∧(∀i,H.loc (s.aa+1) i=κ.loc (s.aa+1) i):=by
 have cS:s'.aa=s.aa:=he.aa;have L:gS κ' (κ.back κ' (s.aa+1)) (s'.aa+1):=by
  refine⟨fun _ _ h=>h,fun d u=>?_,fun d i u _=>?_,fun d i m x u _ h=>?_⟩
  ·simp only[bi.back];rw[if_neg (by omega)];exact aC _
  ·simp only[bi.back];rw[if_neg (by omega)]
  ·simp only[bi.back];rw[if_neg (by omega)];exact h
 have I:gS κ (κ.back κ' (s.aa+1)) (s.aa+1+1):=by
  refine⟨he.k.F,fun d u=>?_,fun d i u bX=>?_,fun d i m x u bX h=>?_⟩
  ·simp only[bi.back];split
   ·exact aC _
   ·exact he.k.n d (by omega)
  ·simp only[bi.back];split
   ·rfl
   ·exact he.k.loc d i (by omega) bX
  ·simp only[bi.back];split
   ·exact h
   ·exact he.k.lD d i m x (by omega) bX h
 have J:∀d i x,s'.get (.g d i)=some x→zL (κ.back κ' (s.aa+1)) d i w' x∧bh (κ.back κ' (s.aa+1)) d i x=bh κ' d i x:=fun d i x h=>(r.obj d i x h).bS (r.nw h) (L.low (by have:=ag.gu h;omega)) (fun m=>by simp only[bi.back];rw[if_neg (by have:=ag.gu h;omega)]) (fun b _=>⟨rfl,fun _=>rfl⟩)
 have K:∀i x,o[i]? =some x→zL (κ.back κ' (s.aa+1)) (s.aa+1) i w' x∧bh (κ.back κ' (s.aa+1)) (s.aa+1) i x=bh κ (s.aa+1) i x:=fun i x a8=>by
  have cC:(s.on o).get (.g (s.aa+1) i)=some x:=by rw[ag.kB,if_pos rfl];exact a8
  refine(a6.obj _ i x cC).bS (a6.nw cC) I (fun m=>by simp [bi.back]) (fun b q=>?_);have B:=a6.og a8 q;have M:b<w.heap.size:=by rcases a6.mc ⟨_,i,x,cC,q⟩ with⟨C,e,i7,A⟩|⟨fm,clock,A⟩<;> exact(Array.getElem?_eq_some_iff.1 A).1
  refine⟨he.kU b M (fun e=>bK i x a8 (e ▸ q)) B,fun y=>?_⟩;show κ'.F _=κ.F _;cases h9:κ.F ⟨b,y,none⟩ with
  |some v=>exact he.k.F _ _ h9
  |none=>
   cases N:κ'.F ⟨b,y,none⟩ with
   |none=>rfl
   |some v=>
    rcases he.oN ⟨b,y,none⟩ (by rw[N];simp) with au|au|au
    ·exact absurd h9 au
    ·exact absurd au (by simp only;omega)
    ·exact absurd au B
 have get:∀d i x,(s'.on o).get (.g d i)=some x→(d=s.aa+1∧o[i]? =some x)∨(d≠s.aa+1∧s'.get (.g d i)=some x):=fun d i x h=>by
  rw[ag.kB,cS] at h;split at h
  ·rename_i au;exact .inl ⟨au,h⟩
  ·rename_i au;exact .inr ⟨au,h⟩
 have I1:∀d i x b,(s'.on o).get (.g d i)=some x→bh (κ.back κ' (s.aa+1)) d i x=some b→(d=s.aa+1∧o[i]? =some x∧bh κ (s.aa+1) i x=some b)∨(s'.get (.g d i)=some x∧bh κ' d i x=some b):=fun d i x b h q=>by
  rcases get d i x h with⟨rfl,au⟩|⟨_,au⟩
  ·exact .inl ⟨rfl,au,(K i x au).2 ▸ q⟩
  ·exact .inr ⟨au,(J d i x au).2 ▸ q⟩
 have O:∀i x b,o[i]? =some x→bh κ (s.aa+1) i x=some b→b<w.heap.size:=fun i x b a8 q=>by
  have cC:(s.on o).get (.g (s.aa+1) i)=some x:=by rw[ag.kB,if_pos rfl];exact a8
  rcases a6.mc ⟨_,i,x,cC,q⟩ with⟨C,e,i7,A⟩|⟨fm,clock,A⟩<;> exact(Array.getElem?_eq_some_iff.1 A).1
 have apart:∀i x b d j y,o[i]? =some x→bh κ (s.aa+1) i x=some b→s'.get (.g d j)=some y→bh κ' d j y=some b→False:=fun i x b d j y a8 q eT U=>a6.og a8 q (he.live b (O i x b a8 q) ⟨d,j,y,eT,U⟩)
 refine⟨κ.back κ' (s.aa+1),⟨r.iG,fun d l h=>?_,fun d i x h=>?_,fun d i x fL hI kH b h V e hZ=>?_⟩,⟨by rw[ag.g3];exact I,by rw[ag.g3,ag.g3,cS],he.size,he.os,he.tape,he.output,fun b q dp B=>he.kU b q dp (fun h=>B h.up),fun b q h=>?_,fun a Y=>?_⟩,fun i=>by simp [bi.back]⟩
 ·rw[ag.Dv,cS] at h;simp only[bi.back];split at h
  ·rename_i au;simp only[bj] at h;rw[if_pos au,au];exact a6.len (s.aa+1) l (by rw[ag.Dv,if_pos rfl,h])
  ·rename_i au;rw[if_neg au];exact r.len d l h
 ·rcases get d i x h with⟨rfl,au⟩|⟨_,au⟩
  ·exact(K i x au).1
  ·exact(J d i x au).1
 ·rcases I1 d i x b h e with⟨rfl,au,az⟩|⟨au,az⟩<;> rcases I1 fL hI kH b V hZ with⟨rfl,b3,dJ⟩|⟨b3,dJ⟩
  ·have cC:∀i x,o[i]? =some x→(s.on o).get (.g (s.aa+1) i)=some x:=fun i x a8=>by rw[ag.kB,if_pos rfl];exact a8
   exact a6.inj _ i x _ hI kH b (cC i x au) (cC hI kH b3) az dJ
  ·exact(apart i x b fL hI kH au az b3 dJ).elim
  ·exact(apart hI kH b d i x b3 dJ au az).elim
  ·exact r.inj d i x fL hI kH b au b3 az dJ
 ·obtain⟨d,i,x,au,az⟩:=h;rcases I1 d i x b au az with⟨rfl,b3,dJ⟩|⟨b3,dJ⟩
  ·exact⟨s.aa+1,i,x,by rw[ag.kB,if_pos rfl];exact b3,dJ⟩
  ·exact(he.live b q ⟨d,i,x,b3,dJ⟩).up
 ·rcases he.oN a Y with au|au|au
  ·exact .inl au
  ·exact .inr (.inl au)
  ·exact .inr (.inr au.up)
theorem hq.under{l:Nat}{y u F:bi}{A q B:ag}{o o':List du}{r H I:World}(eZ:hq l y A r u q H)(h:hq l u (q.on o) H F (B.on o') I)(pZ:∀i x b,o[i]? =some x→bh u (q.aa+1) i x=some b→r.heap.size≤b):hq l y A r F B I:=by
 have cS:B.aa=q.aa:=by have:=h.aa;rw[ag.g3,ag.g3] at this;omega
 have hJ:∀b,b<r.heap.size→Live u (q.on o) b→Live y A b:=fun b e bK=>by
  rcases bK.on with au|⟨i,x,au,az⟩
  ·exact eZ.live b e au
  ·exact absurd (pZ i x b au az) (by omega)
 refine⟨eZ.k.trans (h.k.low (by rw[ag.g3,eZ.aa];omega)),cS.trans eZ.aa,Nat.le_trans eZ.size h.size,h.os.trans eZ.os,h.tape.trans eZ.tape,h.output.trans eZ.output,fun b e dp J=>?_,fun b e bK=>?_,fun a K=>?_⟩
 ·rw[h.kU b (f8 e eZ.size) dp (fun bK=>J (hJ b e bK)),eZ.kU b e dp J]
 ·exact hJ b e (h.live b (f8 e eZ.size) bK.up)
 ·rcases h.oN a K with au|au|au
  ·exact eZ.oN a au
  ·exact .inr (.inl (Nat.le_trans eZ.size au))
  ·by_cases e:a.block<r.heap.size
   ·exact .inr (.inr (hJ _ e au))
   ·exact .inr (.inl (by omega))
section
variable{T:kO}{fR:Nat}{rd:Bool}
theorem fq{a b:ad}{c:Code}(h:dr T fR rd (.seq a b) c=true):∃x y,c=.seq x y∧dr T fR rd a x=true∧dr T fR rd b y=true:=by cases c<;> simp only[dr,bW,bn] at h;exact⟨_,_,rfl,h.1,h.2⟩
theorem gk{os:List cT}{c:Code}(h:dr T fR rd (.region none os) c=true):∃id ops,c=.region id ops false∧je T fR ops os ops.toList=true:=by
 cases c with
 |region id ops d=>
  cases d with
  |true=>simp [dr] at h
  |false=>exact⟨id,ops,rfl,by simpa only[dr] using h⟩
 |_=>simp [dr] at h
theorem l3{o:bC}{a b:ad}{c:Code}(h:dr T fR rd (.cond o a b) c=true):∃o' x y,c=.cond o' x y∧cH o o'=true∧dr T fR rd a x=true∧dr T fR rd b y=true:=by cases c<;> simp only[dr,bW,bn] at h;exact⟨_,_,_,rfl,h.1.1,h.1.2,h.2⟩
theorem lh{i:Nat}{a:ad}{c:Code}(h:dr T fR rd (.block i a) c=true):∃x,c=.block i x∧dr T fR rd a x=true:=by cases c<;> simp only[dr,bW,bn] at h;have e:=dk h.1;subst e;exact⟨_,rfl,h.2⟩
theorem rA{m:gf}{a:ad}{c:Code}(h:dr T fR rd (.loop m a) c=true):∃x,c=.loop x∧dr T fR rd a x=true:=by cases c<;> simp only[dr,bW] at h;exact⟨_,rfl,h⟩
theorem oh{i:Nat}{c:Code}(h:dr T fR rd (.exit i) c=true):c=.exit i:=by cases c<;> simp only[dr,bW] at h;have e:=dk h;rw[e]
theorem Au{c:Code}(h:dr T fR rd .ret c=true):c=.ret:=by cases c<;> simp only[dr,bW] at h;rfl
theorem nH{ro:Option Nat}{P:Program}{Q:Exit→Act→World→Prop}{a:Act}{w:World}{c:Code}(h:dr T fR rd .skip c=true)(e:Q .normal a w):c.wpIn (wY ro) 0 P Q a w:=by
 cases c<;> simp only[dr,bW] at h
 ·exact wpIn_skip e
 ·exact wpIn_label e
end
def kC:Env:={F:=.not,aw:=fun _=>.dead,call:=fun _ _ _=>.fail,loop:=fun step bS ao s k=>dV step bS 0 ao s k}
theorem Kv(P:Program):mW P kC:=⟨⟨0,fun _ _ _ _ _=>rfl⟩,fun _ _ _ _ _ h=>(by cases h),fun _ _ _ _ _ _ _ _ h=>(by cases h)⟩
theorem WZ(κ:bi):km κ kC.aw:=fun _=>⟨.dead _,rfl⟩
theorem Av{ty:TypeId}{ρ:Operand→Value}{c:Call}{l:Nat}(a3:∃y,c.callee=.value y∧ρ y=.func (.yield l) #[] #[]):∀dst pos after guard,execOp ρ ⟨dst,.call c,ty,pos,after,guard⟩=Instr.yield l (c.args.map ρ):=by
 intro dst pos after guard;obtain⟨y,eT,e⟩:=a3;have au:resolve ρ c ty=(Pure.pure {target:=.fn (.yield l) #[],args:= #[]++c.args.map ρ}:Sem Deferred):=by simp only[resolve,eT,e,Deferred.ofValue]
 show(do let d←resolve ρ c ty;invoke d.target d.args)=_;rw[au];simp [invoke]
section
variable{P:Program}{T:kO}(eR:T.pw P){κ:bi}{s:ag}{w:World}{g:Nat→af}{a:Act}{fR B:Nat}
include eR
theorem iI{os:List cT}{id:Nat}{ops:Array Oper}(dg:je T fR ops os ops.toList=true)(h:fE κ s w g a fR B kC.aw){g':Nat→af}{s':ag}(aT:g2 kC os g s=some (g',s')){Q:Exit→Act→World→Prop}
  (r:∀κ' w' fT,fx κ s w κ' s' w'→fE κ' s' w' g' fT fR B kC.aw→Q .normal fT w'):(Code.region id ops false).wpIn (wY none) 0 P Q a w:=by
 obtain⟨hlen,u⟩:=ie dg;refine wpIn_region (ql eR rfl (Kv P) (List.range ops.size) os (by rw[hlen];simp) (fun j i y df A=>?_) h aT r);obtain⟨F,e⟩:=ey.1 df;rw[List.getElem_range] at e;subst e;have q:j<ops.size:=by simpa using F
 exact⟨ops[j],Array.getElem?_eq_getElem q,u j y _ A (by simp [q])⟩
omit eR in
theorem jy{o:bC}{o':Operand}(e:cH o o'=true)(h:fE κ s w g a fR B kC.aw){b:Bool}(q:aq kC.aw g o=.bool b):a.eval o'=.bool b:=by have:=bp h.ao h.aw e;rw[q] at this;exact dF.gY (b:=b) this
end
def ac5:List cT:=[⟨some 4,none,.alloc (List.replicate 40 (.bool false))⟩]
def abt:List cT:=[⟨some 8,none,.load none (.t 1)⟩,⟨some 9,none,.e6 1 40 (.t 4) (.t 8)⟩,⟨none,none,.store 1 (.t 9) (.c (.bool true))⟩]
def abu:List cT:=[⟨some 10,none,.load none (.t 1)⟩,⟨some 5,none,.move (.t 10)⟩]
def abv:List cT:=[⟨some 11,none,.move (.t 5)⟩,⟨some 12,none,.bin .geq (.t 11) (.c (.int .i64 0))⟩]
def abw:List cT:=[⟨some 13,none,.move (.t 5)⟩,⟨some 14,none,.bin .sub (.t 13) (.c (.int .i64 1))⟩,⟨some 5,none,.move (.t 14)⟩]
def abx:List cT:=[⟨some 15,none,.move (.t 5)⟩,⟨some 16,none,.e6 1 40 (.t 4) (.t 15)⟩,⟨some 17,none,.load none (.t 16)⟩,⟨some 18,none,.un .not (.t 17)⟩]
def Kw:List cT:=[⟨some 19,none,.move (.t 5)⟩,⟨some 20,none,.load none (.t 1)⟩,⟨some 21,none,.bin .neq (.t 19) (.t 20)⟩,⟨some 22,none,.move (.t 21)⟩,⟨some 23,(some (22,true)),.move (.t 0)⟩,⟨some 24,(some (22,true)),.move (.t 5)⟩,
 ⟨some 25,(some (22,true)),.eA (.t 23) [.t 24]⟩,⟨some 26,(some (22,true)),.un .not (.t 25)⟩,⟨some 27,none,.pick (.t 22) (.t 26) (.c (.bool false))⟩]
def aby:List cT:=[⟨some 28,none,.load none (.t 2)⟩,⟨some 29,none,.move (.t 5)⟩,⟨some 30,none,.iZ 12 (.t 28) (.t 29)⟩,⟨some 31,none,.fieldAddr 2 (.t 30)⟩,⟨some 32,none,.load none (.t 31)⟩,⟨some 33,none,.len false (.t 32)⟩,⟨some 34,none,.move (.c (.int .i64 0))⟩]
def abz:List cT:=[⟨some 35,none,.bin .lss (.t 34) (.t 33)⟩]
def abA:List cT:=[⟨some 36,none,.iZ 1 (.t 32) (.t 34)⟩,⟨some 37,none,.load none (.t 36)⟩,⟨some 7,none,.move (.t 37)⟩]
def Wk:List cT:=[⟨some 38,none,.move (.t 7)⟩,⟨some 39,none,.e6 1 40 (.t 4) (.t 38)⟩,⟨none,none,.store 1 (.t 39) (.c (.bool true))⟩]
def Wl:List cT:=[⟨some 40,none,.bin .add (.t 34) (.c (.int .i64 1))⟩,⟨some 34,none,.move (.t 40)⟩]
def abB:ad:=.seq (.region none abz) (.seq (.cond (.t 35) .skip (.exit 2)) (.seq (.block 3 (.seq (.region none abA) (.region none Wk))) (.region none Wl)))
def Wm:ad:=.seq (.region none aby) (.block 2 (.loop .e abB))
def Wn:ad:=.seq (.seq (.region none Kw) (.cond (.t 27) .ret .skip)) Wm
def Wo:ad:=.seq (.seq (.region none abv) (.cond (.t 12) .skip (.exit 0))) (.seq (.block 1 (.seq (.seq (.region none abx) (.cond (.t 18) (.exit 1) .skip)) Wn)) (.region none abw))
def ac6:ad:=.seq (.region none ac5) (.seq (.region none abt) (.seq (.region none abu) (.block 0 (.loop .e Wo))))
theorem dZ{E:Env}{d:Option Nat}{op:gg}{os:List cT}{g:Nat→af}{s s':ag}{v:af}(h:aJ E g s .ok .panic op=.ok v s'):g2 E (⟨d,none,op⟩::os) g s=g2 E os (cN g d v) s':=by simp only[g2,jv,f3,h,f6]
def h4(m:List Nat):List af:=(List.range 40).map fun j=>.bool (m.elem j)
theorem m4(m:List Nat):(h4 m).length=40:=by simp [h4]
theorem m5(m:List Nat){x:Nat}(h:x<40):(h4 m)[x]? =some (.bool (m.elem x)):=by simp [h4,List.getElem?_range h]
theorem Aw(m:List Nat){x:Nat}(h:x<40):dS (h4 m) x [.bool true]=h4 (x::m):=by
 apply List.ext_getElem?;intro j;by_cases df:j<40
 ·rw[gP _ _ _ (by rw[m4];simp;omega)];by_cases a8:j=x
  ·subst a8;rw[if_pos (by simp),m5 _ df];simp
  ·rw[if_neg (by simp;omega),m5 _ df,m5 _ df]
   have:(x::m).elem j=m.elem j:=by simp only[List.elem_cons];rw[show(j==x)=false from by simpa using a8]
   rw[this]
 ·rw[List.getElem?_eq_none (by rw[fM,m4];omega),List.getElem?_eq_none (by rw[m4];omega)]
structure wC (hJ:af) (l i:Nat) (k:Int) (g:Nat→af):Prop where
 vo:g 0=.kk l
 ho:g 1=.bI [.int .i64 i]
 gF:g 2=.bI [hJ]
 ni:g 4=.ref (.l 0) 0
 im:g 5=.int .i64 k
structure qD (hJ:af) (l i:Nat) (g:Nat→af):Prop where
 vo:g 0=.kk l
 ho:g 1=.bI [.int .i64 i]
 gF:g 2=.bI [hJ]
 ni:g 4=.ref (.l 0) 0
abbrev d9(s:ag)(m:List Nat):ag:=s.on [.cells (h4 m)]
theorem Ax(s:ag)(m:List Nat){x:Nat}(h:x<40):fl kC (d9 s m) .ok 1 (.ref (.l 0) (0+x*1)) (.bool true)=.ok .dead (d9 s (x::m)):=by have dU:(d9 s m).get (.l 0)=some (.cells (h4 m)):=rfl;simp only[fl,af.fh,af.cells,bP,cy,bg,gM,bD,b2,iu,dU,Nat.mul_one];have e:Nat.ble (x+1) (h4 m).length=true:=eQ (by rw[m4];omega);simp only[kC,aW.not,e,ag.hB,ag.oL,Bool.true_or,bD,List.all_cons,List.all_nil,af.eO,b2,Aw m h];rfl
theorem Kx{n:Int}(au: -2≤n)(az:n≤100):IntKind.i64.wrap n=n:=by simp [IntKind.wrap,IntKind.bits,IntKind.signed];split<;> omega
theorem pB(n:Nat):e2 (.int .i64 (n:Int))=some n:=by simp [e2]
section
variable{s:ag}{hJ:af}{l i:Nat}{k:Int}{g:Nat→af}{m:List Nat}
theorem pE(h:qD hJ l i g)(bX:i<40):∃g',g2 kC abt g (d9 s m)=some (g',d9 s (i::m))∧qD hJ l i g':=by
 refine⟨_,(dZ (v:=.int .i64 i) (s':=d9 s m) ?_).trans ((dZ (v:=.ref (.l 0) (0+i*1)) (s':=d9 s m) ?_).trans ((dZ (v:=.dead) (s':=d9 s (i::m)) ?_).trans rfl)),?_⟩
 ·simp only[aJ,aq,h.ho,d8,eV];rfl
 ·simp only[aJ,aq,cN,h.ni,Nat.reduceEqDiff,if_false,if_true,hR,pB];rw[show Nat.blt i 40=true from by rw[Nat.blt_eq];exact bX];rfl
 ·simp only[aJ,aq,cN,if_true,af.ap];exact Ax s m bX
 ·exact⟨by simp [cN,h.vo],by simp [cN,h.ho],by simp [cN,h.gF],by simp [cN,h.ni]⟩
theorem qO(h:qD hJ l i g):∃g',g2 kC abu g (d9 s m)=some (g',d9 s m)∧wC hJ l i i g':=by
 refine⟨_,(dZ (v:=.int .i64 i) (s':=d9 s m) ?_).trans ((dZ (v:=.int .i64 i) (s':=d9 s m) ?_).trans rfl),?_⟩
 ·simp only[aJ,aq,h.ho,d8,eV];rfl
 ·simp only[aJ,aq,cN,if_true];rfl
 ·exact⟨by simp [cN,h.vo],by simp [cN,h.ho],by simp [cN,h.gF],by simp [cN,h.ni],by simp [cN]⟩
theorem C3(h:wC hJ l i k g):∃g',g2 kC abv g (d9 s m)=some (g',d9 s m)∧wC hJ l i k g'∧g' 12=.bool (decide (k≥0)):=by
 refine⟨_,(dZ (v:=.int .i64 k) (s':=d9 s m) ?_).trans ((dZ (v:=.bool (decide (k≥0))) (s':=d9 s m) ?_).trans rfl),?_,?_⟩
 ·simp only[aJ,aq,h.im];rfl
 ·simp only[aJ,aq,cN,if_true];rfl
 ·exact⟨by simp [cN,h.vo],by simp [cN,h.ho],by simp [cN,h.gF],by simp [cN,h.ni],by simp [cN,h.im]⟩
 ·simp [cN]
theorem acY(h:wC hJ l i k g)(au:0≤k)(az:k<40):∃g',g2 kC abw g (d9 s m)=some (g',d9 s m)∧wC hJ l i (k-1) g':=by
 refine⟨_,(dZ (v:=.int .i64 k) (s':=d9 s m) ?_).trans ((dZ (v:=.int .i64 (k-1)) (s':=d9 s m) ?_).trans ((dZ (v:=.int .i64 (k-1)) (s':=d9 s m) ?_).trans rfl)),?_⟩
 ·simp only[aJ,aq,h.im];rfl
 ·simp only[aJ,aq,cN,if_true];show qC kC _ _ (some (.int .i64 (IntKind.i64.wrap (k-1))))=_;rw[Kx (by omega) (by omega)];rfl
 ·simp only[aJ,aq,cN,if_true];rfl
 ·exact⟨by simp [cN,h.vo],by simp [cN,h.ho],by simp [cN,h.gF],by simp [cN,h.ni],by simp [cN]⟩
theorem acZ(h:wC hJ l i k g){x:Nat}(dl:k=x)(a8:x<40):∃g',g2 kC abx g (d9 s m)=some (g',d9 s m)∧wC hJ l i k g'∧g' 18=.bool (!m.elem x):=by
 subst dl;refine⟨_,(dZ (v:=.int .i64 (x:Nat)) (s':=d9 s m) ?_).trans ((dZ (v:=.ref (.l 0) (0+x*1)) (s':=d9 s m) ?_).trans ((dZ (v:=.bool (m.elem x)) (s':=d9 s m) ?_).trans ((dZ (v:=.bool (!m.elem x)) (s':=d9 s m) ?_).trans rfl))),?_,?_⟩
 ·simp only[aJ,aq,h.im];rfl
 ·simp only[aJ,aq,cN,h.ni,Nat.reduceEqDiff,if_false,if_true,hR,pB];rw[show Nat.blt x 40=true from by rw[Nat.blt_eq];exact a8];rfl
 ·simp only[aJ,aq,cN,if_true,d8,show(d9 s m).get (.l 0)=some (.cells (h4 m)) from rfl,bg,Nat.mul_one];have au:=m5 m a8;obtain⟨e,he⟩:=ey.1 au;rw[iW e,he];rfl
 ·simp only[aJ,aq,cN,if_true];rfl
 ·exact⟨by simp [cN,h.vo],by simp [cN,h.ho],by simp [cN,h.gF],by simp [cN,h.ni],by simp [cN,h.im]⟩
 ·simp [cN]
end
theorem Ay{es:List af}{hp:List Nat}(h:qF es=some hp):es=hp.map fun n=>.int .i64 (n:Nat):=by
 induction es generalizing hp with
 |nil=>simp only[qF,bj] at h;subst h;rfl
 |cons e es r=>
  unfold qF at h;split at h
  ·rename_i q;cases q
  ·rename_i n l q;cases q;split at h
   ·rename_i dp;obtain⟨l',au,az⟩:=Option.map_eq_some_iff.1 h;subst az;rw[fK,←r au];simp [Int.toNat_of_nonneg dp]
   ·cases h
  ·cases h
theorem Dw{es:List af}{A:List (List Nat)}(h:sj es=some A):A.length=es.length∧∀(j:Nat) (e:af),es[j]? =some e→∃hp,A[j]? =some hp∧nX e=some hp:=by
 induction es generalizing A with
 |nil=>simp only[sj,bj] at h;subst h;exact⟨rfl,fun j e df=>by simp at df⟩
 |cons e es q=>
  simp only[sj] at h;obtain⟨hp,au,az⟩:=Option.bind_eq_some_iff.1 h;obtain⟨r,b3,dJ⟩:=Option.map_eq_some_iff.1 az;subst dJ;obtain⟨i1,i2⟩:=q b3;refine⟨by simp [i1],fun j hZ df=>?_⟩;cases j with
  |zero=>simp at df;subst df;exact⟨hp,rfl,au⟩
  |succ j=>exact i2 j hZ (by simpa using df)
theorem Az{e:af}{hp:List Nat}(h:nX e=some hp):∃cs p3,e=.agg cs∧cs[2]? =some (.bG 1 (hp.map fun n=>.int .i64 (n:Nat)) p3):=by
 unfold nX at h;split at h
 ·rename_i cs;split at h
  ·rename_i es p3 a3;exact⟨cs,p3,rfl,by rw[a3,Ay h]⟩
  ·cases h
 ·cases h
theorem xQ{sz:Nat}:∀(n:Nat) (cs:List af) (j:Nat),j<n→(chunk sz n cs)[j]? =some (mj sz (cs.drop (j*sz)))
 |0,_,_,h=>absurd h (Nat.not_lt_zero _)
 |n+1,cs,0,_=>by simp [chunk]
 |n+1,cs,j+1,h=>by simp only[chunk,List.getElem?_cons_succ,xQ n (cs.drop sz) j (by omega),List.drop_drop];rw[show sz+j*sz=(j+1)*sz by rw[e9];omega]
theorem Ky{S:ag}{hJ:af}{es:List af}{d:Nat}{κ:bi}{x:Value}(bO:dF κ d hJ x)(he:dL S hJ=some (12,es)){k:Nat}{e:af}(dl:es[k]? =some e){hp:List Nat}(F:nX e=some hp):
  ∃p q p3,kL kC S .ok 12 hJ (.int .i64 (k:Nat))=.ok p S∧gO kC S .ok 2 p=.ok q S∧d8 kC S .ok none q=.ok (.bG 1 (hp.map fun n=>.int .i64 (n:Nat)) p3) S:=by
 obtain⟨cs,p3,rfl,a3⟩:=Az F;have y:=(ey.1 dl).1;have bG:∀z h g',hJ=.bG z h g'→z=12→h=es→∃p q p3,kL kC S .ok 12 hJ (.int .i64 (k:Nat))=.ok p S∧gO kC S .ok 2 p=.ok q S∧d8 kC S .ok none q=.ok (.bG 1 (hp.map fun n=>.int .i64 (n:Nat)) p3) S:=fun z h g' au az b3=>by
  subst au az b3;refine⟨.bI cs,.bI (cs.drop 2),p3,?_,rfl,?_⟩
  ·simp only[kL,pB,gM,b2,dl];rfl
  ·obtain⟨dJ,r⟩:=ey.1 a3;simp only[d8,iW dJ,r];rfl
 unfold dL at he;split at he
 ·split at he
  ·simp only[bj,e0] at he;exact bG _ _ _ rfl he.1 he.2
  ·cases he
 ·simp only[bj,e0] at he;exact bG _ _ _ rfl he.1 he.2
 ·simp at he
 ·rename_i a off len cap sz;split at he
  ·rename_i H cC;simp only at he;split at he
   ·rename_i A;simp only[bj,e0] at he;obtain⟨rfl,he⟩:=he;simp only[bn] at A;have hle:=d0 A.1.2;have B:k<len:=by rw[←he,fr] at y;exact y
    have u:=dl;rw[←he,xQ len _ k B] at u;have I:cs=((H.drop off).drop (k*12)).take 12:=by simp only[mj,bj,af.agg.injEq] at u;exact u.symm
    rw[I,List.getElem?_take,if_pos (by omega),List.getElem?_drop,List.getElem?_drop] at a3;refine⟨.ref a (off+k*12),.ref a (off+k*12+2),p3,?_,rfl,?_⟩
    ·simp only[kL,pB,gM,show Nat.blt k len=true from by rw[Nat.blt_eq];exact B,bD,b2];rfl
    ·rw[show off+(k*12+2)=off+k*12+2 by omega] at a3;obtain⟨dJ,r⟩:=ey.1 a3;simp only[d8,cC,iW dJ,r];rfl
   ·cases he
  ·cases he
 ·cases he
section
variable{s:ag}{hJ:af}{l i:Nat}{k:Int}{g:Nat→af}{m:List Nat}
structure Kz (hJ:af) (l i:Nat) (k:Int) (hp:List Nat) (q:Nat) (g:Nat→af):Prop extends wC hJ l i k g where
 PL:∃p3,g 32=.bG 1 (hp.map fun n=>.int .i64 (n:Nat)) p3
 KA:g 33=.int .i64 hp.length
 I2:g 34=.int .i64 q
theorem ac1(h:wC hJ l i k g){x:Nat}(dl:k=x){es:List af}{d:Nat}{κ:bi}{v:Value}(bO:dF κ d hJ v)(he:dL (d9 s m) hJ=some (12,es)){e:af}(a8:es[x]? =some e){hp:List Nat}(r:nX e=some hp):∃g',g2 kC aby g (d9 s m)=some (g',d9 s m)∧Kz hJ l i k hp 0 g':=by
 subst dl;obtain⟨p,q,p3,au,az,b3⟩:=Ky bO he a8 r;refine⟨_,(dZ (v:=hJ) (s':=d9 s m) ?_).trans ((dZ (v:=.int .i64 (x:Nat)) (s':=d9 s m) ?_).trans ((dZ (v:=p) (s':=d9 s m) ?_).trans ((dZ (v:=q) (s':=d9 s m) ?_).trans ((dZ (v:=.bG 1 (hp.map fun n=>.int .i64 (n:Nat)) p3) (s':=d9 s m) ?_).trans ((dZ (v:=.int .i64 (hp.length:Nat)) (s':=d9 s m) ?_).trans ((dZ (v:=.int .i64 0) (s':=d9 s m) ?_).trans rfl)))))),?_⟩
 ·simp only[aJ,aq,h.gF,d8,eV];rfl
 ·simp only[aJ,aq,cN,h.im,Nat.reduceEqDiff,if_false];rfl
 ·simp only[aJ,aq,cN,Nat.reduceEqDiff,if_false,if_true];exact au
 ·simp only[aJ,aq,cN,if_true];exact az
 ·simp only[aJ,aq,cN,if_true];exact b3
 ·simp only[aJ,aq,cN,if_true,pL,eG];rfl
 ·simp only[aJ,aq];rfl
 ·exact⟨⟨by simp [cN,h.vo],by simp [cN,h.ho],by simp [cN,h.gF],by simp [cN,h.ni],by simp [cN,h.im]⟩,⟨p3,by simp [cN]⟩,by simp [cN],by simp [cN]⟩
theorem abo{hp:List Nat}{q:Nat}(h:Kz hJ l i k hp q g):∃g',g2 kC abz g (d9 s m)=some (g',d9 s m)∧Kz hJ l i k hp q g'∧g' 35=.bool (decide (q<hp.length)):=by
 refine⟨_,(dZ (v:=.bool (decide ((q:Int)<hp.length))) (s':=d9 s m) ?_).trans rfl,?_,?_⟩
 ·simp only[aJ,aq,h.KA,h.I2];rfl
 ·obtain⟨p3,e⟩:=h.PL;exact⟨⟨by simp [cN,h.vo],by simp [cN,h.ho],by simp [cN,h.gF],by simp [cN,h.ni],by simp [cN,h.im]⟩,⟨p3,by simp [cN,e]⟩,by simp [cN,h.KA],by simp [cN,h.I2]⟩
 ·simp [cN]
theorem ac7{hp:List Nat}{q x:Nat}(h:Kz hJ l i k hp q g)(a8:hp[q]? =some x):∃g',g2 kC abA g (d9 s m)=some (g',d9 s m)∧Kz hJ l i k hp q g'∧g' 7=.int .i64 x:=by
 obtain⟨p3,e⟩:=h.PL;refine⟨_,(dZ (v:=.bI [.int .i64 x]) (s':=d9 s m) ?_).trans ((dZ (v:=.int .i64 x) (s':=d9 s m) ?_).trans ((dZ (v:=.int .i64 x) (s':=d9 s m) ?_).trans rfl)),?_,?_⟩
 ·simp only[aJ,aq,e,h.I2,kL,pB,gM,b2,hy,a8,ew];rfl
 ·simp only[aJ,aq,cN,if_true,d8,eV];rfl
 ·simp only[aJ,aq,cN,if_true];rfl
 ·exact⟨⟨by simp [cN,h.vo],by simp [cN,h.ho],by simp [cN,h.gF],by simp [cN,h.ni],by simp [cN,h.im]⟩,⟨p3,by simp [cN,e]⟩,by simp [cN,h.KA],by simp [cN,h.I2]⟩
 ·simp [cN]
theorem ac8{hp:List Nat}{q x:Nat}(h:Kz hJ l i k hp q g)(e:g 7=.int .i64 x)(a8:x<40):∃g',g2 kC Wk g (d9 s m)=some (g',d9 s (x::m))∧Kz hJ l i k hp q g':=by
 obtain⟨p3,r⟩:=h.PL;refine⟨_,(dZ (v:=.int .i64 x) (s':=d9 s m) ?_).trans ((dZ (v:=.ref (.l 0) (0+x*1)) (s':=d9 s m) ?_).trans ((dZ (v:=.dead) (s':=d9 s (x::m)) ?_).trans rfl)),?_⟩
 ·simp only[aJ,aq,e];rfl
 ·simp only[aJ,aq,cN,h.ni,Nat.reduceEqDiff,if_false,if_true,hR,pB];rw[show Nat.blt x 40=true from by rw[Nat.blt_eq];exact a8];rfl
 ·simp only[aJ,aq,cN,if_true,af.ap];exact Ax s m a8
 ·exact⟨⟨by simp [cN,h.vo],by simp [cN,h.ho],by simp [cN,h.gF],by simp [cN,h.ni],by simp [cN,h.im]⟩,⟨p3,by simp [cN,r]⟩,by simp [cN,h.KA],by simp [cN,h.I2]⟩
theorem ac9{hp:List Nat}{q:Nat}(h:Kz hJ l i k hp q g)(gh:(q:Int)+1≤9223372036854775807):∃g',g2 kC Wl g (d9 s m)=some (g',d9 s m)∧Kz hJ l i k hp (q+1) g':=by
 obtain⟨p3,e⟩:=h.PL;have hw:IntKind.i64.wrap ((q:Int)+1)=((q+1:Nat):Int):=by simp [IntKind.wrap,IntKind.bits,IntKind.signed];split<;> omega
 refine⟨_,(dZ (v:=.int .i64 ((q+1:Nat):Int)) (s':=d9 s m) ?_).trans ((dZ (v:=.int .i64 ((q+1:Nat):Int)) (s':=d9 s m) ?_).trans rfl),?_⟩
 ·simp only[aJ,aq,h.I2];show qC kC _ _ (some (.int .i64 (IntKind.i64.wrap ((q:Int)+1))))=_;rw[hw];rfl
 ·simp only[aJ,aq,cN,if_true];rfl
 ·exact⟨⟨by simp [cN,h.vo],by simp [cN,h.ho],by simp [cN,h.gF],by simp [cN,h.ni],by simp [cN,h.im]⟩,⟨p3,by simp [cN,e]⟩,by simp [cN,h.KA],by simp [cN]⟩
end
section
variable{P:Program}{T:kO}(eR:T.pw P){s:ag}{hJ:af}{l i:Nat}{k:Int}{B:Nat}
include eR
theorem Dx{c:Code}(dg:dr T 41 false (.loop .e abB) c=true){hp:List Nat}(K:∀x,x∈hp→x<40)(hlen:hp.length<9223372036854775807){κ:bi}{w:World}{g:Nat→af}{a:Act}{m:List Nat}(h:fE κ (d9 s m) w g a 41 B kC.aw)(cC:Kz hJ l i k hp 0 g):
  c.wpIn (wY none) 0 P (fun e fT w'=>e=.exit 2∧∃κ' g' jt,fx κ (d9 s m) w κ' (d9 s jt) w'∧fE κ' (d9 s jt) w' g' fT 41 B kC.aw∧wC hJ l i k g'∧∀x,jt.elem x=(hp++m).elem x) a w:=by
 obtain⟨aB,rfl,au⟩:=rA dg;obtain⟨aC,aD,rfl,L,az⟩:=fq au;obtain⟨aE,aF,rfl,M⟩:=gk L;obtain⟨aG,aH,rfl,N,b3⟩:=fq az;obtain⟨aI,aJ,ce,rfl,Ds,O,U⟩:=l3 N;obtain rfl:=oh U;obtain⟨aK,aL,rfl,y,V⟩:=fq b3;obtain⟨aM,rfl,y⟩:=lh y;obtain⟨aN,aO,rfl,Y,Z⟩:=fq y;obtain⟨aP,aQ,rfl,aa⟩:=gk Y;obtain⟨aR,aS,rfl,ab⟩:=gk Z;obtain⟨aT,aU,rfl,ac⟩:=gk V;refine oZ (fun n fT w'=>∃κ' g' q jt,n=hp.length-q∧q≤hp.length∧fx κ (d9 s m) w κ' (d9 s jt) w'∧fE κ' (d9 s jt) w' g' fT 41 B kC.aw∧Kz hJ l i k hp q g'∧∀x,jt.elem x=(hp.take q++m).elem x) (fun n fT w' ad=>?_) (n:=hp.length) ⟨κ,g,0,m,rfl,Nat.zero_le _,.refl _ _ _,h,cC,fun x=>rfl⟩;obtain⟨aV,ho,q,As,dp,gh,A,ae,ag,F⟩:=ad;obtain⟨gF,ah,H,I⟩:=abo (s:=s) (m:=As) ag;refine wpIn_seq (iI eR M ae ah fun ai aW aX J u=>?_);refine wpIn_seq ?_;by_cases r:q<hp.length
 ·refine wpIn_cond_true (jy Ds u (b:=true) (by show gF 35=_;rw[I];simp [r])) (nH O ?_);have a8:hp[q]? =some hp[q]:=eP r;obtain⟨aY,aj,ak,al⟩:=ac7 (s:=s) (m:=As) H a8;refine wpIn_seq (wpIn_block (wpIn_seq (iI eR aa u aj fun aZ a0 a1 am an=>?_)));obtain⟨ni,ao,ap⟩:=ac8 (s:=s) (m:=As) ak al (K _ (nT r));refine iI eR ab an ao fun a2 a3 a4 aq ar=>?_
  obtain⟨im,as,av⟩:=ac9 (s:=s) (m:=hp[q]::As) ap (by omega);refine iI eR ac ar as fun ax a5 a6 ay aA=>?_
  refine⟨hp.length-(q+1),by omega,ax,im,q+1,hp[q]::As,rfl,r,(((A.trans J).trans am).trans aq).trans ay,aA,av,fun x=>?_⟩;rw[List.take_succ_eq_append_getElem r]
  have:=F x;simp only[List.elem_eq_mem,List.mem_cons,List.mem_append,mi,or_false,decide_eq_decide] at this ⊢;rw[this];constructor
  ·rintro (h|h|h)
   ·exact .inl (.inr h)
   ·exact .inl (.inl h)
   ·exact .inr h
  ·rintro ((h|h)|h)
   ·exact .inr (.inl h)
   ·exact .inl h
   ·exact .inr (.inr h)
 ·refine wpIn_cond_false (jy Ds u (b:=false) (by show gF 35=_;rw[I];simp [r])) (wpIn_exit ?_);refine⟨rfl,ai,gF,As,A.trans J,u,H.1,fun x=>?_⟩;rw[F x,iP (by omega)]
theorem KB{c:Code}(dg:dr T 41 false Wm c=true){es:List af}{hp:List Nat}{x:Nat}{e:af}(dl:k=x)(q:∀x,x∈hp→x<40)(hlen:hp.length<9223372036854775807){κ:bi}{w:World}{g:Nat→af}{a:Act}{m:List Nat}(h:fE κ (d9 s m) w g a 41 B kC.aw)(cC:wC hJ l i k g)
  {d:Nat}{r:bi}{v:Value}(bO:dF r d hJ v)(he:dL (d9 s m) hJ=some (12,es))(a8:es[x]? =some e)(u:nX e=some hp):
  c.wpIn (wY none) 0 P (fun e fT w'=>e=.normal∧∃κ' g' jt,fx κ (d9 s m) w κ' (d9 s jt) w'∧fE κ' (d9 s jt) w' g' fT 41 B kC.aw∧wC hJ l i k g'∧∀x,jt.elem x=(hp++m).elem x) a w:=by
 obtain⟨O,U,rfl,y,au⟩:=fq dg;obtain⟨V,Y,rfl,A⟩:=gk y;obtain⟨Z,rfl,az⟩:=lh au;obtain⟨gF,F,H⟩:=ac1 (s:=s) (m:=m) cC dl bO he a8 u;refine wpIn_seq (iI eR A h F fun aa ab ac I J=>?_);refine wpIn_block (wpIn_mono (Dx eR az q hlen J H) ?_)
 rintro e fT w' ⟨rfl,κ',g',jt,K,L,M,N⟩
 exact⟨rfl,κ',g',jt,I.trans K,L,M,N⟩
end
theorem fE.abC{κ κ':bi}{s s':ag}{w w':World}{g:Nat→af}{a:Act}{fR B l:Nat}{G:Nat→af}(h:fE κ s w g a fR B G)(he:hq l κ s w κ' s' w')(bK:l<B)(a6:c3 κ' s' w'){v:af}{x:Value}(a8:dF κ' (s.aa+1) (v.ap s.aa) x){d fL:Option Nat}(cS:nl fR d fL=true):fE κ' s' w' (cN g d v) (a.put fL x) fR B G:=by
 have bZ:wB κ' s' g a:=fun t=>by have:=(h.ao t).mono he.k;rw[he.aa];exact this
 have r:Marks B w' a.defers:=by obtain⟨eZ,oB,au,az,b3⟩:=h.defers;refine⟨Nat.le_trans eZ he.size,oB,au,az,fun D q=>⟨(b3 D q).1,?_⟩⟩;have dJ:=(b3 D q).2;rw[he.kU D (Array.getElem?_eq_some_iff.1 dJ).1 (by have:=(b3 D q).1;omega) (h.iR.xC dJ)];exact dJ
 cases d with
 |none=>
  cases fL with
  |none=>exact⟨a6,bZ,r,h.size,h.aw.mono he.k⟩
  |some b=>simp [nl] at cS
 |some n=>
  cases fL with
  |none=>simp [nl] at cS
  |some b=>
   simp only[nl,bn] at cS;have e:=dk cS.1;subst e;have dp:n<a.tmps.size:=by rw[h.size];have:=cS.2;rw[Nat.blt_eq] at this;exact this
   refine⟨a6,fun t=>?_,r,by simp [Act.put,h.size],h.aw.mono he.k⟩;simp only[cN];by_cases eh:t=n
   ·subst eh;rw[if_pos rfl,he.aa];simp only[Act.put,Array.getD_eq_getD_getElem?,Array.getElem?_setIfInBounds_self_of_lt dp,Option.getD_some];exact a8
   ·rw[if_neg eh]
    have:=bZ t;simp only[Act.put,Array.getD_eq_getD_getElem?,Array.getElem?_setIfInBounds_ne (Ne.symm eh)] at this ⊢;exact this
structure xq (iA:bi) (hN:ag) (jj:World) (κ:bi) (s:ag) (w:World):Prop where
 ext:fx iA hN jj κ s w
 loc:jj.heap.size≤κ.loc (s.aa+1) 0
section
variable{iA:bi}{hN:ag}{jj:World}{κ κ':bi}{s s':ag}{w w':World}{m jt:List Nat}{l:Nat}
theorem xq.own(h:xq iA hN jj κ s w):∀i x b,([du.cells (h4 m)]:List du)[i]? =some x→bh κ (s.aa+1) i x=some b→jj.heap.size≤b:=fun i x b a8 e=>by
 cases i with
 |zero=>simp only[List.getElem?_cons_zero,bj] at a8;subst a8;simp only[bh,bj] at e;exact e ▸ h.loc
 |succ i=>simp at a8
theorem xq.abD(h:xq iA hN jj κ s w)(a6:c3 κ (d9 s m) w)(he:gS κ κ' ((d9 s m).aa+1))(cS:s'.aa=s.aa):jj.heap.size≤κ'.loc (s'.aa+1) 0:=by rw[cS,he.loc (s.aa+1) 0 (by rw[ag.g3];omega) (a6.nw (d:=s.aa+1) (i:=0) (o:=.cells (h4 m)) (by rw[ag.kB,if_pos rfl];rfl))];exact h.loc
theorem xq.step(h:xq iA hN jj κ s w)(a6:c3 κ (d9 s m) w)(he:fx κ (d9 s m) w κ' (d9 s' jt) w'):xq iA hN jj κ' s' w':=
 ⟨(hq.under (l:=jj.heap.size) h.ext.x he.x h.own).ri (aC _),h.abD a6 he.k (by have:=he.aa;rw[ag.g3,ag.g3] at this;omega)⟩
theorem xq.nE(h:xq iA hN jj κ s w)(bK:l<jj.heap.size)(dp:¬Live iA hN l):¬Live κ (d9 s m) l:=fun e=>by
 rcases e.on with au|⟨i,x,au,az⟩
 ·exact dp (h.ext.live l bK au)
 ·exact absurd (h.own (m:=m) i x l au az) (by omega)
end
theorem mG(A:Nat→List Nat)(i:Nat):∀(n:Nat) (m jt:List Nat),(∀x,m.elem x=jt.elem x)→fX A i n m=fX A i n jt
 |0,_,_,_=>rfl
 |n+1,m,jt,h=>by
  have az:∀x,(A n++m).elem x=(A n++jt).elem x:=fun x=>by have:=h x;simp only[List.elem_eq_mem,List.mem_append,decide_eq_decide] at this ⊢;rw[this]
  simp only[fX,h n,mG A i n _ _ h,mG A i n _ _ az]
theorem yS{cs e:List af}(h:af.lC cs e=true):cs=e:=(af.jr cs e).1 h
theorem AA{κ:bi}{hN s:ag}{hJ:af}{D:Nat}{x:Value}(bO:dF κ D hJ x)(q:D≤s.aa+1)(h:fY hN s (.bI [hJ])=true)(o:List du)(he:(dL hN hJ).isSome=true):dL (s.on o) hJ=dL hN hJ:=by
 cases hJ<;> try rfl
 case bG sz es g=>cases g<;> rfl
 case cZ a off len cap sz=>
  cases a with
  |l i=>cases bO
  |g d i=>
   obtain⟨lS,e,cS,bX,_⟩:=dF.jU bO;have au:(s.on o).get (.g d i)=s.get (.g d i):=by rw[ag.kB,if_neg (by omega)]
   simp only[fY] at h;split at h
   ·rename_i cs r az b3
    have:=yS h;subst this;simp only[dL,au,az,b3]
   ·cases h
theorem AB{s:ag}{dI xs:List af}(h:qG s 0 dI=some xs):∃(i:Nat) (hJ:af) (es:List af) (A:List (List Nat)),dI=[.bI [.int .i64 i],.bI [hJ]]∧dL s hJ=some (12,es)∧sj es=some A∧i<es.length∧es.length≤40∧(∀hp,hp∈A→hp.length≤1000∧∀x,x∈hp→x<es.length)∧xs=(fX (A.getD · []) i (i+1) [i]).map fun k=>.int .i64 (k:Nat):=by
 unfold qG at h;split at h
 ·rename_i i hJ _;obtain⟨p,au,az⟩:=Option.bind_eq_some_iff.1 h;obtain⟨z,es⟩:=p;cases hC:Nat.beq z 12 with
  |false=>rw[hC] at az;cases az
  |true=>
   rw[hC] at az;simp only[b2] at az
   have:=dk hC;subst this;unfold zO at az;split at az
   ·rename_i A r;cases e:(decide (0≤i)&&Nat.blt i.toNat es.length&&Nat.ble es.length 40&&A.all (fun l=>Nat.ble l.length 1000&&l.all (Nat.blt · es.length))) with
    |false=>rw[e] at az;cases az
    |true=>rw[e] at az;simp only[b2,bj] at az;simp only[bn,b1,List.all_eq_true,Nat.blt_eq] at e;refine⟨i.toNat,hJ,es,A,by rw[Int.toNat_of_nonneg e.1.1.1],au,r,e.1.1.2,d0 e.1.2,fun hp q=>⟨d0 (e.2 hp q).1,(e.2 hp q).2⟩,az.symm⟩
   ·cases az
 ·cases h
theorem Live.mono{κ κ':bi}{s:ag}{w:World}(a6:c3 κ s w)(dl:gS κ κ' (s.aa+1)){b:Nat}(h:Live κ s b):Live κ' s b:=by
 obtain⟨d,i,o,au,az⟩:=h;have cS:d<s.aa+1:=by have:=ag.gu au;omega
 have bX:=a6.nw au;refine⟨d,i,o,au,?_⟩;cases o with
 |cells cs=>simp only[bh] at az ⊢;rw[dl.loc d i cS bX];exact az
 |map es=>simp only[bh] at az ⊢;rw[dl.loc d i cS bX];exact az
 |gone=>cases az
 |tok n=>simp only[bh] at az ⊢;obtain⟨x,b3,dJ⟩:=Option.map_eq_some_iff.1 az;rw[dl.lD d i n x cS bX b3];simp [dJ]
theorem c3.I3{κ:bi}{s:ag}{w:World}(a6:c3 κ s w):∃κ',c3 κ' s.push w∧gS κ κ' (s.aa+1)∧fx κ s w κ' s w:=by obtain⟨κ',au,az,b3,dJ⟩:=a6.push;refine⟨κ',au,az,az,rfl,aC _,rfl,rfl,rfl,fun _ _ _=>rfl,fun b _ ⟨d,i,o,ho,gF⟩=>⟨d,i,o,ho,by rw[←dJ d i o ho];exact gF⟩,fun a e=>.inl (by rw[b3] at e;exact e)⟩
def rB(J:Nat→ag→Prop)(e:ag→Option Obj→Prop)(N l:Nat)(iA:bi)(hN:ag)(jj w':World):Prop:=(∃κ' s',fx iA hN jj κ' s' w'∧c3 κ' s' w'∧J N s')∨∃κ' s',hq l iA hN jj κ' s' w'∧c3 κ' s' w'∧e s' w'.heap[l]?
theorem rB.shut{J:Nat→ag→Prop}{u:ag→Option Obj→Prop}{N l:Nat}{iA:bi}{hN:ag}{jj w' q:World}{oB:List Nat}(h:rB J u N l iA hN jj w')(bK:l<jj.heap.size)(r:∀D,D∈oB→jj.heap.size≤D)(cS:∀D,D∈oB→w'.heap[D]? =some (.deferred (some [])))(hw:FH oB w' q):rB J u N l iA hN jj q:=by
 have iR:∀{κ s},c3 κ s w'→c3 κ s q:=fun a6=>a6.heap fun b o au az=>by rw[hw.same b,au];intro hm;rw[cS b hm] at au;cases au;rcases az with⟨C,e,i7,az⟩|⟨fm,clock,az⟩<;> cases az
 rcases h with⟨κ',s',au,az,b3⟩|⟨κ',s',au,az,b3⟩
 ·exact .inl ⟨κ',s',au.shut r hw,iR az,b3⟩
 ·refine .inr ⟨κ',s',⟨au.k,au.aa,by rw[hw.size];exact au.size,hw.os.trans au.os,hw.tape.trans au.tape,hw.output.trans au.output,fun b y dp bK=>?_,au.live,au.oN⟩,iR az,?_⟩
  ·rw[hw.same b (fun hm=>by have:=r b hm;omega)];exact au.kU b y dp bK
  ·rw[hw.same l (fun hm=>by have:=r l hm;omega)];exact b3
section
variable{P:Program}{T:kO}(eR:T.pw P)
include eR
theorem Dy{id:Nat}{u:Array Oper}(dg:je T 41 u Kw u.toList=true){iA:bi}{hN:ag}{jj:World}{l:Nat}(bK:l<jj.heap.size)(aF:¬Live iA hN l){hJ:af}{i x:Nat}(bz:x≠i)
  {κ:bi}{s:ag}{w:World}{m:List Nat}{g:Nat→af}{a:Act}(aR:xq iA hN jj κ s w)(h:fE κ (d9 s m) w g a 41 jj.heap.size kC.aw)(cC:wC hJ l i x g)
  {Rt:ag→Prop}{Rf:ag→Option Obj→Prop}
  (aS:∀(κ':bi) (w':World) (A:Value),xq iA hN jj κ' s w'→c3 κ' s w'→dF κ' (s.aa+1) (.int .i64 x) A→YieldAt Fence.wide 0 P l #[A] w' fun e ab=>(e=.returned (.bool true)∧∃ac N,fx κ' s w' ac N ab∧c3 ac N ab∧Rt N)∨(e=.returned (.bool false)∧∃ac N,hq l κ' s w' ac N ab∧c3 ac N ab∧Rf N ab.heap[l]?))
  {Q:Exit→Act→World→Prop}
  (aU:∀κ' s' w' g' fT,xq iA hN jj κ' s' w'→fE κ' (d9 s' m) w' g' fT 41 jj.heap.size kC.aw→wC hJ l i x g'→g' 27=.bool false→Rt s'→Q .normal fT w')
  (aV:∀κ' s' w' g' fT,hq l iA hN jj κ' s' w'→fE κ' (d9 s' m) w' g' fT 41 jj.heap.size kC.aw→g' 27=.bool true→Rf s' w'.heap[l]?→Q .normal fT w'):
  (Code.region id u false).wpIn (wY none) 0 P Q a w:=by
 obtain⟨hlen,aW⟩:=ie dg;have e4:u.size=9:=by rw[←Array.length_toList,←hlen];rfl
 have op:∀j B,Kw[j]? =some B→∃o,u[j]? =some o∧n7 T 41 u B o=true:=fun j B df=>by
  have aG:j<u.size:=by rw[e4];exact(ey.1 df).1
  exact⟨u[j],Array.getElem?_eq_getElem aG,aW j B _ df (by simp [aG])⟩
 have one:∀{j:Nat} {B:cT} {κ:bi} {S S':ag} {w:World} {g:Nat→af} {a:Act} {v:af} {K:Act→World→Prop},Kw[j]? =some B→fE κ S w g a 41 jj.heap.size kC.aw→jv kC B g S=some (v,S')→
   (∀κ' w' fT,fx κ S w κ' S' w'→fE κ' S' w' (cN g B.dst v) fT 41 jj.heap.size kC.aw→K fT w')→wpOpIn (wY none) 0 P u Q j K a w:=fun {j B κ S S' w g a v K} df aT he ar=>by
  obtain⟨o,au,az⟩:=op j B df;exact oY eR rfl (Kv P) aT au az he ar
 have oG:∀{d:Option Nat} {o:gg} {g:Nat→af} {S S':ag} {v:af},aJ kC g S .ok .panic o=.ok v S'→jv kC ⟨d,none,o⟩ g S=some (v,S'):=fun h=>by simp only[jv,f3,h]
 have dU:∀{d:Option Nat} {o:gg} {g:Nat→af} {S S':ag} {v:af},g 22=.bool true→aJ kC g S .ok .panic o=.ok v S'→jv kC ⟨d,some (22,true),o⟩ g S=some (v,S'):=fun aX h=>by simp only[jv,f3,aX,beq_self_eq_true,h]
 refine wpIn_region ?_;rw[e4,show List.range 9=[0,1,2,3,4,5,6,7,8] from rfl];rw[wpOpsIn_cons];refine one rfl h (oG (v:=.int .i64 x) (S':=d9 s m) (by simp only[aJ,aq,cC.im];rfl)) fun bA bB bC aY aZ=>?_
 rw[wpOpsIn_cons];refine one rfl aZ (oG (v:=.int .i64 i) (S':=d9 s m) (by simp only[aJ,aq,cN,cC.ho,Nat.reduceEqDiff,if_false,d8,eV];rfl)) fun bD bE bF a0 a1=>?_
 rw[wpOpsIn_cons];refine one rfl a1 (oG (v:=.bool true) (S':=d9 s m) (by simp only[aJ,aq,cN,Nat.reduceEqDiff,if_false,if_true];show qC kC _ _ (some (.bool ((x:Int) != i)))=_;rw[show((x:Int) != i)=true from by simp;omega];rfl)) fun bG bH bI a2 a4=>?_
 rw[wpOpsIn_cons];refine one rfl a4 (oG (v:=.bool true) (S':=d9 s m) (by simp only[aJ,aq,cN,if_true];rfl)) fun bJ bL bM a5 a6=>?_
 rw[wpOpsIn_cons];refine one rfl a6 (dU (v:=.kk l) (S':=d9 s m) (by simp [cN]) (by simp only[aJ,aq,cN,cC.vo,Nat.reduceEqDiff,if_false];rfl)) fun bN bO bP a7 a8=>?_
 rw[wpOpsIn_cons];refine one rfl a8 (dU (v:=.int .i64 x) (S':=d9 s m) (by simp [cN]) (by simp only[aJ,aq,cN,cC.im,Nat.reduceEqDiff,if_false];rfl)) fun O ad I a9 r=>?_
 rw[wpOpsIn_cons];have he:=(((((aY.trans a0).trans a2).trans a5).trans a7).trans a9);have J:xq iA hN jj O s ad:=aR.step h.iR he;obtain⟨F,U⟩:∃F,F=cN (cN (cN (cN (cN (cN g (some 19) (.int .i64 x)) (some 20) (.int .i64 i)) (some 21) (.bool true)) (some 22) (.bool true)) (some 23) (.kk l)) (some 24) (.int .i64 x):=⟨_,rfl⟩;have r:fE O (d9 s m) ad F I 41 jj.heap.size kC.aw:=by rw[U];exact r
 have ae:wC hJ l i x F:=by rw[U];exact⟨by simp [cN,cC.vo],by simp [cN,cC.ho],by simp [cN,cC.gF],by simp [cN,cC.ni],by simp [cN,cC.im]⟩
 have as:F 22=.bool true:=by rw[U];simp [cN]
 have ba:F 23=.kk l:=by rw[U];simp [cN]
 have bb:F 24=.int .i64 x:=by rw[U];simp [cN]
 clear U;obtain⟨o,bc,aH⟩:=op 6 _ rfl;simp only[n7,bn] at aH;obtain⟨⟨aI,bd⟩,L⟩:=aH;unfold wpOpIn;simp only[bc];rw[r.wanted bd (b:=true) (by simp only[f3,as,beq_self_eq_true])];simp only[↓reduceIte];refine⟨fun _ _=>trivial,?_⟩;simp only[eH] at L;split at L
 ·rename_i av be;split at L
  ·rename_i y eT;simp only[bn] at L;have ax:=bp r.ao r.aw L.1;have ay:=iw r.ao r.aw _ _ L.2;rw[show aq kC.aw F (.t 23)=.kk l from ba] at ax;simp only[fK,List.map_nil,show aq kC.aw F (.t 24)=.int .i64 x from bb] at ay;have bf:I.eval y=.func (.yield l) #[] #[]:=by
    generalize I.eval y=z at ax;cases ax;rfl
   obtain⟨A,aK⟩:∃A,av.args.toList.map I.eval=[A]:=List.length_eq_one_iff.1 (by rw[ay.1];rfl);have bg:dF O (s.aa+1) (.int .i64 x) A:=by have:=ay.2 0 _ A rfl (by rw[aK];rfl);rw[dF.eB (k:=.i64) (n:=x) this];exact .int _ _
   have bk:av.args.map I.eval= #[A]:=by apply Array.ext';rw[Array.toList_map,aK]
   have hex:execOp I.eval o=Instr.yield l #[A]:=by have:=Av (ty:=o.type) (ρ:=I.eval) (c:=av) (l:=l) ⟨y,eT,bf⟩ o.dst o.pos o.after o.guard;rw[bk] at this;rw[←this,←be]
   obtain⟨fn,tmps,assign,body,bl,aL⟩:=aS O ad A J r.iR.off bg;show o.uponIn (wY none) 0 P I _ Q ((execOp I.eval o).run P ad);rw[hex,bl,Oper.uponIn_round];refine⟨fun ah=>(by cases ah),?_⟩;have rest:∀(b:Bool) (ai:bi) (q:ag) (H:World) (aA:Act),fE ai (d9 q m) H (cN F (some 25) (.bool b)) aA 41 jj.heap.size kC.aw→
     (∀κ' w' g' fT,fx ai (d9 q m) H κ' (d9 q m) w'→fE κ' (d9 q m) w' g' fT 41 jj.heap.size kC.aw→wC hJ l i x g'→g' 27=.bool (!b)→Q .normal fT w')→wpOpsIn (wY none) 0 P u Q [7,8] aA H:=fun b ai q H aA bm ar=>by
    rw[wpOpsIn_cons];refine one rfl bm (dU (v:=.bool (!b)) (S':=d9 q m) (by simp [cN,as]) (by simp only[aJ,aq,cN,if_true];rfl)) fun M bQ bR bo bq=>?_
    rw[wpOpsIn_cons];refine one rfl bq (oG (v:=.bool (!b)) (S':=d9 q m) (by simp only[aJ,aq,cN,as,Nat.reduceEqDiff,if_false,if_true,nf,b2];rfl)) fun V Y aj Z ak=>?_
    exact ar V Y _ aj (bo.trans Z) ak ⟨by simp [cN,ae.vo],by simp [cN,ae.ho],by simp [cN,ae.gF],by simp [cN,ae.ni],by simp [cN,ae.im]⟩ (by simp [cN])
   have aM:∀(hI:Nat) (z:du),([du.cells (h4 m)]:List du)[hI]? =some z→bh O (s.aa+1) hI z≠some l:=fun hI z hC am=>by have:=J.own hI z l hC am;omega
   refine⟨aL.1,fun c cs br=>?_⟩;obtain⟨e,H,bs,a3⟩:=aL.2 c cs br;refine⟨e,H,?_,a3⟩;rcases bs with⟨rfl,ai,q,an,aB,bt⟩|⟨rfl,ai,q,an,aB,bu⟩
   ·obtain⟨M,ap,al,aN⟩:=r.iR.lay an.x aB aM;have aO:fx O (d9 s m) ad M (d9 q m) H:=al.ext (an.kU l (f8 bK J.ext.size) fun ah=>aF (J.ext.live l bK ah));refine rest true M q H _ (r.put aO ap (.bool true) aI) fun V Y aC aj Z ak aP aD=>?_
    exact aU V q Y aC aj ((J.step r.iR aO).step ap Z) ak aP aD bt
   ·obtain⟨M,ap,al,aN⟩:=r.iR.lay an aB aM;refine rest false M q H _ (r.abC al bK ap (.bool false) aI) fun V Y aC aj Z ak aP aD=>?_
    have aE:hq l iA hN jj M q H:=hq.under J.ext.x al J.own;have bv:q.aa=s.aa:=by have:=al.aa;rw[ag.g3,ag.g3] at this;omega
    have aQ:∀hI z b,([du.cells (h4 m)]:List du)[hI]? =some z→bh M (q.aa+1) hI z=some b→jj.heap.size≤b:=fun hI z b hC am=>by
     cases hI with
     |zero=>simp only[List.getElem?_cons_zero,bj] at hC;subst hC;simp only[bh,bj] at am;rw[←am,bv,aN 0];exact J.loc
     |succ hI=>simp at hC
    have bw:hq l iA hN jj V q Y:=hq.under aE Z.x aQ;refine aV V q Y aC aj bw ak aD ?_;have bx:¬Live M (d9 q m) l:=fun ah=>by
     rcases ah.on with au|⟨hI,z,au,az⟩
     ·exact aF (aE.live l bK au)
     ·have:=aQ hI z l au az;omega
    rw[Z.kU l (f8 bK aE.size) bx];exact bu
  ·cases L
 ·cases L
end
theorem abE(a b c:Value)(X:Array Value):((#[a]++[b,c].toArray)++X).getD 0 undef=a∧((#[a]++[b,c].toArray)++X).getD 1 undef=b∧((#[a]++[b,c].toArray)++X).getD 2 undef=c:=by refine⟨?_,?_,?_⟩<;> (rw[Array.getD_eq_getD_getElem?,Array.getElem?_append_left (by simp)];rfl)
theorem I4{P:Program}{T:kO}(eR:T.pw P){f:Nat}{fn:Func}{c:Code}(bB:P.funcs[f]? =some fn)(aM:fn.body=some c)(bg:(fn.name== "runtime.NumGoroutine")=false)(bh:fn.results= #[])(bj:fn.ntmps=41)(dg:dr T 41 false ac6 c=true):z2 P f 0:=by
 refine⟨⟨fn,bB,by simp [aM],bg⟩,?_⟩;intro dI xs iA hN jj dw l bk bl ax bK bm dc J U bo bp;obtain⟨i,hJ,es,A,rfl,iQ,bq,bX,dd,aN,f0⟩:=AB bk;obtain⟨de,br⟩:=Dw bq;unfold ac6 at dg;obtain⟨hr,lJ,rfl,bs,au⟩:=fq dg;obtain⟨df,AC,rfl,bt⟩:=gk bs;obtain⟨bN,li,rfl,bu,az⟩:=fq au;obtain⟨dh,gz,rfl,bv⟩:=gk bu;obtain⟨di,dj,rfl,bw,b3⟩:=fq az;obtain⟨dm,dn,rfl,bx⟩:=gk bw;obtain⟨dp,rfl,dJ⟩:=lh b3;obtain⟨dq,rfl,aO⟩:=rA dJ;unfold Wo at aO;obtain⟨ds,dt,rfl,bz,bA⟩:=fq aO;obtain⟨du,dv,rfl,bC,bD⟩:=fq bz;obtain⟨dx,dy,rfl,bE⟩:=gk bC;obtain⟨dz,t3,dA,rfl,aP,bF,bG⟩:=l3 bD;obtain rfl:=oh bG;obtain⟨dB,dC,rfl,bH,bJ⟩:=fq bA;obtain⟨aQ,aR,rfl,bM⟩:=gk bJ;obtain⟨jC,rfl,bP⟩:=lh bH;obtain⟨dD,dE,rfl,bQ,aS⟩:=fq bP;obtain⟨dG,dH,rfl,bR,bS⟩:=fq bQ;obtain⟨dK,dM,rfl,bT⟩:=gk bR;obtain⟨dN,t5,dO,rfl,aT,bU,bV⟩:=l3 bS;obtain rfl:=oh bU;unfold Wn at aS;obtain⟨dP,bW,rfl,bY,bZ⟩:=fq aS;obtain⟨dQ,dR,rfl,b0,b1⟩:=fq bY;obtain⟨dS,dT,rfl,aU⟩:=gk b0;obtain⟨dU,t6,dV,rfl,ay,b4,aV⟩:=l3 b1;obtain rfl:=Au b4;refine CallsIn.mono (R:=fun e w'=>(∃v,e=.returned v)∧rB J U xs.length l iA hN jj w') ?_ (fun e w' h=>h);refine callsIn_of_wp_marks bB aM trivial (wpIn_mono (Q:=fun e fT w'=>(e=.normal∨e=.ret)∧Marks jj.heap.size w' fT.defers∧rB J U xs.length l iA hN jj w') ?_ ?_) rfl
 rotate_left
 ·rintro e fT w' ⟨he,⟨dW,oB,b5,b6,ab⟩,h9⟩
  have key:LeavesInM Fence.wide 0 P fn fT.tmps (fun e w'=>(∃v,e=.returned v)∧rB J U xs.length l iA hN jj w') fT.defers .returning w':=by
   rw[b5];refine k3 oB w' b6 (fun D N=>(ab D N).2) fun dX hw=>⟨.tuple #[],?_,⟨_,rfl⟩,h9.shut bK (fun D N=>(ab D N).1) (fun D N=>(ab D N).2) hw⟩
   simp [results,bh]
  rcases he with rfl |rfl <;> exact key
 obtain⟨v1,v2,rfl⟩:∃v1 v2,dw=[v1,v2]:=by
  match dw,ax.1 with
  |[v1,v2],_=>exact⟨v1,v2,rfl⟩
 have b7:=ax.2 0 _ v1 rfl rfl;have aA:=ax.2 1 _ v2 rfl rfl;obtain⟨dY,aW⟩:∃x,dF iA (hN.aa+1) hJ x:=by generalize v2=z at aA;cases aA;rename_i a vs a6 h9 bO;exact⟨_,bO 0 hJ rfl⟩
 obtain⟨ac,an,aX,b8⟩:=bl.I3;have an:c3 ac (hN.on []) jj:=an;have b9:fE ac (hN.on []) jj (fun t=>if t=0 then .kk l else if t=1 then .bI [.int .i64 i] else if t=2 then .bI [hJ] else .dead) {tmps:=(#[Value.func (.yield l) #[] #[]]++[v1,v2].toArray)++Array.replicate (fn.ntmps-(#[Value.func (.yield l) #[] #[]]++[v1,v2].toArray).size) undef,defers:=[]} 41 jj.heap.size kC.aw:=by
  refine⟨an,fun t=>?_,Marks.nil (aC _),by simp [bj],WZ _⟩;obtain⟨ca,cb,aY⟩:=abE (.func (.yield l) #[] #[]) v1 v2 (Array.replicate (fn.ntmps-(#[Value.func (.yield l) #[] #[]]++[v1,v2].toArray).size) undef);have N:hN.aa+1≤(hN.on []).aa+1:=by rw[ag.g3];omega
  by_cases aZ:t=0
  ·subst aZ;show dF ac _ (.kk l) _;rw[ca];exact .kk l
  ·by_cases a0:t=1
   ·subst a0;show dF ac _ (.bI [.int .i64 i]) _;rw[cb];exact(b7.mono aX).up N
   ·by_cases lU:t=2
    ·subst lU;show dF ac _ (.bI [hJ]) _;rw[aY];exact(aA.mono aX).up N
    ·simp only[aZ,a0,lU,if_false];exact .dead _
 refine wpIn_seq (iI eR bt b9 ((dZ (v:=.ref (.l 0) 0) (s':=d9 hN []) rfl).trans rfl) fun aB cc aY aD aE=>?_);have cd:xq iA hN jj aB hN cc:=by
  refine⟨(hq.under (l:=jj.heap.size) b8.x aD.x (fun i x b h=>by simp at h)).ri (aC _),?_⟩;refine Nat.le_of_not_lt fun ce=>?_
  have cC:(d9 hN []).get (.g (hN.aa+1) 0)=some (.cells (h4 [])):=by rw[ag.kB,if_pos rfl];rfl
  have cf:Live aB (d9 hN []) (aB.loc (hN.aa+1) 0):=⟨_,0,_,cC,rfl⟩;have au:=aD.live _ ce cf;rcases au.on with au|⟨hI,z,au,_⟩
  ·exact aE.iR.og (i:=0) (x:=.cells (h4 [])) rfl rfl (Live.mono an.off (aD.k.low (by rw[ag.g3];omega)) au)
  ·simp at au
 have cg:qD hJ l i (cN (fun t=>if t=0 then .kk l else if t=1 then .bI [.int .i64 i] else if t=2 then .bI [hJ] else .dead) (some 4) (.ref (.l 0) 0)):=⟨by simp [cN],by simp [cN],by simp [cN],by simp [cN]⟩;obtain⟨d0,ab,ch⟩:=pE (s:=hN) (m:=[]) cg (by omega);refine wpIn_seq (iI eR bv aE ab fun d2 d3 d4 ci a1=>?_);obtain⟨ni,cj,ck⟩:=qO (s:=hN) (m:=[i]) ch;refine wpIn_seq (iI eR bx a1 cj fun a2 cl d5 cm cn=>?_);have co:xq iA hN jj a2 hN cl:=(cd.step aE.iR ci).step a1.iR cm;have cp:([.bI [.int .i64 i],.bI [hJ]]:List af).all (fY hN hN)=true:=by
  simp only[List.all_cons,List.all_nil,Bool.and_true,show fY hN hN (.bI [.int .i64 i])=true from rfl,eM];cases hJ<;> try rfl
  rename_i a off len cap sz;simp only[fY];unfold dL at iQ;simp only at iQ;split at iQ
  ·rename_i cs cq;rw[cq];exact(af.jr cs cs).2 rfl
  ·cases iQ
 refine wpIn_block (oZ (fun n fT w'=>∃κ' s' g' jt j,xq iA hN jj κ' s' w'∧fE κ' (d9 s' jt) w' g' fT 41 jj.heap.size kC.aw∧wC hJ l i ((n:Int)-1) g'∧n≤i+1∧J j s'∧j≤xs.length∧([.bI [.int .i64 i],.bI [hJ]]:List af).all (fY hN s')=true∧xs.drop j=(fX (A.getD · []) i n jt).map fun k=>.int .i64 (k:Nat)) (fun n fT w' cr=>?_) (n:=i+1)
  ⟨a2,hN,ni,[i],0,co,cn,by rw[show(((i+1:Nat):Int)-1)=(i:Int) by omega];exact ck,aC _,bo,Nat.zero_le _,cp,by rw[bL,f0]⟩)
 obtain⟨d6,u,im,q,j,ct,a3,cv,d7,ao,a4,aF,ap⟩:=cr;obtain⟨a5,cw,a7,aG⟩:=C3 (s:=u) (m:=q) cv;refine wpIn_seq (wpIn_seq (iI eR bE a3 cw fun cx eb ec cz Y=>?_));have a8:=ct.step a3.iR cz;cases n with
 |zero=>
  refine wpIn_cond_false (jy aP Y (b:=false) (by show a5 12=_;rw[aG];simp)) (wpIn_exit ?_);refine⟨.inl rfl,Y.defers,.inl ⟨cx,u,a8.ext,Y.iR.off,?_⟩⟩
  have:xs.length=j:=by have:=congrArg List.length ap;simp only[List.length_drop,fX,List.map_nil,cy] at this;omega
  rw[this];exact ao
 |succ x=>
  have cA:((x+1:Nat):Int)-1=(x:Int):=by omega
  rw[cA] at a7 aG;refine wpIn_cond_true (jy aP Y (b:=true) (by show a5 12=_;rw[aG];simp)) (nH bF ?_);have next:∀(ad:bi) (V:ag) (ae:List Nat) (Z:World) (K:Nat→af) (ah:Act) (ai:Nat),xq iA hN jj ad V Z→fE ad (d9 V ae) Z K ah 41 jj.heap.size kC.aw→wC hJ l i x K→J ai V→ai≤xs.length→([.bI [.int .i64 i],.bI [hJ]]:List af).all (fY hN V)=true→xs.drop ai=(fX (A.getD · []) i x ae).map (fun k=>.int .i64 (k:Nat))→
    (Code.region aQ aR false).wpIn (wY none) 0 P (Exit.then (fun fT w'=>∃m,m<x+1∧∃κ' s' g' jt j,xq iA hN jj κ' s' w'∧fE κ' (d9 s' jt) w' g' fT 41 jj.heap.size kC.aw∧wC hJ l i ((m:Int)-1) g'∧m≤i+1∧J j s'∧j≤xs.length∧([.bI [.int .i64 i],.bI [hJ]]:List af).all (fY hN s')=true∧xs.drop j=(fX (A.getD · []) i m jt).map fun k=>.int .i64 (k:Nat)) (Exit.inBlock 0 fun e fT w'=>(e=.normal∨e=.ret)∧Marks jj.heap.size w' fT.defers∧rB J U xs.length l iA hN jj w')) ah Z:=fun ad V ae Z K ah ai aj L B cB cD cE cF=>by
   obtain⟨O,cG,ak⟩:=acY (s:=V) (m:=ae) B (by omega) (by omega);exact iI eR bM L cG fun F I M aH r=>⟨x,Nat.lt_succ_self x,F,V,O,ae,ai,aj.step L.iR aH,r,ak,by omega,cB,cD,cE,cF⟩
  refine wpIn_seq (wpIn_block ?_);obtain⟨K,cH,B,a9⟩:=acZ (s:=u) (m:=q) (x:=x) a7 rfl (by omega);refine wpIn_seq (wpIn_seq (iI eR bT Y cH fun ad Z ah cI L=>?_));have aj:=a8.step Y.iR cI;cases al:q.elem x with
  |false=>refine wpIn_cond_true (jy aT L (b:=true) (by show K 18=_;rw[a9,al];rfl)) (wpIn_exit ?_);refine next ad u q Z K ah j aj L B ao a4 aF ?_;rw[ap];simp only[fX,al,cond_false]
  |true=>
   refine wpIn_cond_false (jy aT L (b:=false) (by show K 18=_;rw[a9,al];rfl)) (nH bV ?_);have hex:es[x]? =some es[x]:=eP (by omega);obtain⟨hp,aI,cJ⟩:=br x _ hex;have ba:A.getD x []=hp:=by simp [List.getD_eq_getElem?_getD,aI]
   have cK:∀y,y∈hp→y<40:=fun y eT=>by have:=(aN hp (List.mem_of_getElem? aI)).2 y eT;omega
   have cL:∀s':ag,s'.aa=hN.aa→([.bI [.int .i64 i],.bI [hJ]]:List af).all (fY hN s')=true→∀o,dL (s'.on o) hJ=some (12,es):=fun s' cS dl o=>by rw[AA aW (by omega) (by simp only[List.all_cons,List.all_nil,Bool.and_true,bn] at dl;exact dl.2) o (by rw[iQ];rfl)];exact iQ
   have cM:hp.length<9223372036854775807:=by have:=(aN hp (List.mem_of_getElem? aI)).1;omega
   have bb:∀(F:bi) (H:ag) (I:World) (O:Nat→af) (M:Act) (am:Nat),xq iA hN jj F H I→fE F (d9 H q) I O M 41 jj.heap.size kC.aw→wC hJ l i x O→J am H→am≤xs.length→([.bI [.int .i64 i],.bI [hJ]]:List af).all (fY hN H)=true→xs.drop am=(fX (A.getD · []) i x (hp++q)).map (fun k=>.int .i64 (k:Nat))→
     bW.wpIn (wY none) 0 P (Exit.inBlock 1 (Exit.then ((Code.region aQ aR false).wpIn (wY none) 0 P (Exit.then (fun fT w'=>∃m,m<x+1∧∃κ' s' g' jt j,xq iA hN jj κ' s' w'∧fE κ' (d9 s' jt) w' g' fT 41 jj.heap.size kC.aw∧wC hJ l i ((m:Int)-1) g'∧m≤i+1∧J j s'∧j≤xs.length∧([.bI [.int .i64 i],.bI [hJ]]:List af).all (fY hN s')=true∧xs.drop j=(fX (A.getD · []) i m jt).map fun k=>.int .i64 (k:Nat)) (Exit.inBlock 0 fun e fT w'=>(e=.normal∨e=.ret)∧Marks jj.heap.size w' fT.defers∧rB J U xs.length l iA hN jj w'))) (Exit.then (fun fT w'=>∃m,m<x+1∧∃κ' s' g' jt j,xq iA hN jj κ' s' w'∧fE κ' (d9 s' jt) w' g' fT 41 jj.heap.size kC.aw∧wC hJ l i ((m:Int)-1) g'∧m≤i+1∧J j s'∧j≤xs.length∧([.bI [.int .i64 i],.bI [hJ]]:List af).all (fY hN s')=true∧xs.drop j=(fX (A.getD · []) i m jt).map fun k=>.int .i64 (k:Nat)) (Exit.inBlock 0 fun e fT w'=>(e=.normal∨e=.ret)∧Marks jj.heap.size w' fT.defers∧rB J U xs.length l iA hN jj w')))) M I:=fun F H I O M am ar r ak cO cP bc cQ=>by
    refine wpIn_mono (KB eR bZ rfl cK cM r ak aW (cL H ar.ext.aa bc _) hex cJ) ?_
    rintro e cR cU ⟨rfl,cV,cW,cX,cY,cZ,c0,c1⟩
    refine next cV H cX cU cW cR am (ar.step r.iR cY) cZ c0 cO cP bc ?_;rw[cQ,mG _ _ _ _ _ c1]
   refine wpIn_seq (wpIn_seq ?_);by_cases aK:x=i
   ·
    subst aK;have c2:g2 kC Kw K (d9 u q)=some (cN (cN (cN (cN (cN (cN (cN (cN (cN K (some 19) (.int .i64 x)) (some 20) (.int .i64 x)) (some 21) (.bool false)) (some 22) (.bool false)) (some 23) (.ea [])) (some 24) (.ea [])) (some 25) (.ea [])) (some 26) (.ea [])) (some 27) (.bool false),d9 u q):=by
     have as:∀{d:Option Nat} {op:gg} {os:List cT} {g:Nat→af} {s:ag},g 22=.bool false→g2 kC (⟨d,some (22,true),op⟩::os) g s=g2 kC os (cN g d (.ea [])) s:=fun h=>by simp only[g2,jv,f3,h,show(false==true)=false from rfl,f6]
     refine(dZ (v:=.int .i64 x) (s':=d9 u q) (by simp only[aJ,aq,B.im];rfl)).trans ?_;refine(dZ (v:=.int .i64 x) (s':=d9 u q) (by simp only[aJ,aq,cN,B.ho,Nat.reduceEqDiff,if_false,d8,eV];rfl)).trans ?_;refine(dZ (v:=.bool false) (s':=d9 u q) (by simp only[aJ,aq,cN,Nat.reduceEqDiff,if_false,if_true];show qC kC _ _ (some (.bool ((x:Int) != x)))=_;rw[show((x:Int) != x)=false from by simp];rfl)).trans ?_
     refine(dZ (v:=.bool false) (s':=d9 u q) (by simp only[aJ,aq,cN,if_true];rfl)).trans ?_;refine(as (by simp [cN])).trans ((as (by simp [cN])).trans ((as (by simp [cN])).trans ((as (by simp [cN])).trans ?_)));exact(dZ (v:=.bool false) (s':=d9 u q) (by simp only[aJ,aq,cN,Nat.reduceEqDiff,if_false,if_true,nf,cond_false];rfl)).trans rfl
    refine iI eR aU L c2 fun F I M aH r=>?_
    refine wpIn_cond_false (jy ay r (b:=false) (by simp [aq,cN])) (nH aV ?_);refine bb F u I _ M j (aj.step L.iR aH) r ⟨by simp [cN,B.vo],by simp [cN,B.ho],by simp [cN,B.gF],by simp [cN,B.ni],by simp [cN,B.im]⟩ ao a4 aF ?_;rw[ap];simp only[fX,al,b2,gM,ba]
   ·have fe:Nat.beq x i=false:=by
     cases c4:Nat.beq x i with
     |false=>rfl
     |true=>exact absurd (dk c4) aK
    have bd:xs.drop j=.int .i64 (x:Nat)::(fX (A.getD · []) i x (hp++q)).map (fun k=>.int .i64 (k:Nat)):=by rw[ap];simp only[fX,al,b2,fe,cond_false,ba,fK]
    have be:xs[j]? =some (.int .i64 (x:Nat)):=by have:=congrArg (fun l:List af=>l[0]?) bd;simpa using this
    have c5:j<xs.length:=(ey.1 be).1;have c6:xs.drop (j+1)=(fX (A.getD · []) i x (hp++q)).map (fun k=>.int .i64 (k:Nat)):=by rw[←List.tail_drop,bd];rfl
    refine Dy eR aU bK bm aK aj L B (Rt:=fun bf=>J (j+1) bf∧([.bI [.int .i64 i],.bI [hJ]]:List af).all (fY hN bf)=true) (Rf:=U) (fun κ' w' c7 c8 c9 da=>?_) (fun F H I O M ar r ak aL av=>?_) (fun F H I O M db r aL av=>?_)
    ·have:=bp j _ c7 κ' u w' be c8.ext c9 ao aF da;exact this
    ·refine wpIn_cond_false (jy ay r (b:=false) aL) (nH aV ?_);exact bb F H I O M (j+1) ar r ak av.1 c5 av.2 c6
    ·refine wpIn_cond_true (jy ay r (b:=true) aL) (wpIn_ret ?_);exact⟨.inr rfl,r.defers,.inr ⟨F,H,db,r.iR.off,av⟩⟩
end Go.Ab
end
