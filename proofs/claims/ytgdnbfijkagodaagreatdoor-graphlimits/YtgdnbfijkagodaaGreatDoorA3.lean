/- A part of the proof: no condition. -/
import Derived.Test.YtgdnbfijkagodaaGreatDoorA2
import Derived.WideKeyArgs
import Derived.ChangeArms
import Derived.ChangeSame
import Derived.ChangeOld
import Derived.OpenShut
set_option linter.unusedSectionVars false
set_option linter.unusedSimpArgs false
section
namespace Go.Ab
variable{T:Nat→Option dc}{G:Nat→ae}{X:Nat→List ae→ag→ah}{s:ag}{k:bb}
theorem BX(q b:Nat)(at_:Option Loc)(x y:ae):(a3 T G X).hs s k q b at_ x y=hp (gg G (aX T G X) bz) s k q b at_ x y:=rfl
theorem kQ(sz:Nat)(es:List ae)(ar:ae.a6 es=true)(ay:(es.all fun e=>e.fj&&Nat.beq e.cells.length sz)=true):(a3 T G X).bG s k sz es=k (.cm sz es .exact) s:=by show(bif ae.a6 es&&es.all (fun e=>e.fj&&Nat.beq e.cells.length sz) then _ else _)=_;rw[ar,ay];rfl
inductive iv (S:ag):ga→Nat→Prop
 |nil:iv S .nil 0
 |dW (j n:Nat) (df:0<n) (h:S.own[j]? =some (.tok n)):iv S (.dW (.l j)) n
theorem iv.inv{S:ag}{g:ga}{n:Nat}(h:iv S g n):(g=.nil∧n=0)∨∃j,g=.dW (.l j)∧0<n∧S.own[j]? =some (.tok n):=by
 cases h with
 |nil=>exact .inl ⟨rfl,rfl⟩
 |dW j n df h=>exact .inr ⟨j,rfl,df,h⟩
theorem iv.new{S:ag}{g:ga}{n:Nat}(h:iv S g n)(o:cO):iv (S.new o) g n:=by
 cases h with
 |nil=>exact .nil
 |dW j n df h=>refine .dW j n df ?_;have da:=(ez.1 h).1;simp only[ag.new];rw[g1 da];exact h
structure Grown (S S':ag) (g:ga):Prop where
 up:S'.up=S.up
 ro:S'.ro=S.ro
 len:S.own.length≤S'.own.length
 own:∀j o,S.own[j]? =some o→g≠.dW (.l j)→S'.own[j]? =some o
theorem Grown.child{s S S':ag}{g:ga}(h:Grown S S' g)(e:Child s S):Child s S':=⟨h.up.trans e.up,h.ro.trans e.ro⟩
theorem Grown.aa{S S':ag}{g:ga}(h:Grown S S' g):S'.aa=S.aa:=by simp [ag.aa,h.up,h.ro]
theorem wI{R:ah}{S:ag}{es new:List ae}{g g9:ga}{q bytes:Nat}(cE:iv S g es.length)(df:new≠[])(p:(es.length+new.length)*bytes≤1099511627776)(aW:(new.flatMap ae.cells).all ae.eO=true)
  (c3:∀g' S',iv S' g' (es.length+new.length)→g'≠.nil→(g≠.nil→g'=g)→(g=.nil→g'=.dW (.l S.own.length))→Grown S S' g→k (.cm q (es++new) g') S'=R)(r:∀a,g9≠.dW a:=by intro a h;cases h):
  (a3 T G X).hs S k q bytes (some (.l 0)) (.cm q es g) (.cm q new g9)=R:=by
 rw[BX];unfold hp;simp only;unfold iD;rw[show dD S (.cm q new g9)=some (q,new) from by cases g9<;> first|rfl |exact absurd rfl (r _)];simp only[hj,eT];rw[show Nat.ble ((es.length+new.length)*bytes) 1099511627776=true from eK p];simp only[ci];cases new with
 |nil=>exact absurd rfl df
 |cons c cs=>
  rcases cE.inv with⟨rfl,y⟩|⟨j,rfl,l2,h⟩
  ·simp only[ag.hk];refine c3 _ _ (.dW _ _ (by simp;omega) ?_) (by simp) (fun h=>absurd rfl h) (fun _=>rfl) ⟨rfl,rfl,by simp [ag.new],fun j o h _=>?_⟩
   ·simp [ag.new]
   ·simp only[ag.new];rw[g1 (ez.1 h).1];exact h
  ·have e:S.get (.l j)=some (.tok es.length):=h;simp only[e,hj,aW,bA,ci];show(match S.set (.l j) (.tok (es.length+(c::cs).length)) with |some s=>k (.cm q (es++c::cs) (.dW (.l j))) s|none=>.fail)=R;simp only[ag.set];refine c3 _ _ (.dW _ _ (by simp;omega) ?_) (by simp) (fun _=>rfl) (fun h=>by simp at h) ⟨rfl,rfl,by simp,fun i o bN e6=>?_⟩
   ·simp [(ez.1 h).1]
   ·have:j≠i:=fun e=>e6 (by rw[e])
    simp only;rw[oZ this];exact bN
def nb{α:Type}(l:List α):ga:=if l.isEmpty then .nil else .any
theorem xH{S:ag}{sz:Nat}{es:List ae}{g:ga}(cE:iv S g es.length)(aJ:ae.a6 es=true:=by rfl):freeze S (.cm sz es g)=some (.cm sz es (nb es)):=by
 rcases cE.inv with⟨rfl,h⟩|⟨j,rfl,df,h⟩
 ·have:es=[]:=jT h;subst this;rfl
 ·cases es with
  |nil=>simp at df
  |cons e es=>show kW S sz (e::es)=_;unfold kW;rw[if_pos aJ];rfl
theorem kz{S:ag}(a:Loc)(off len cap sz:Nat)(ec:IntKind)(i:Nat)(h:i<len):(a3 T G X).c7 S k sz (.cD a off len cap sz) (.int ec (i:Int))=k (.ref a (off+i*sz)) S:=by show kd (gg G (aX T G X) bz) S k sz (.cD a off len cap sz) (.int ec (i:Int))=_;unfold kd;rw[gL];simp only[hj,show Nat.blt i len=true from by simp [Nat.blt_eq,h],bA,ci];rfl
theorem wJ{S:ag}{j o:Nat}{cs:List ae}{c:ae}(h:S.own[j]? =some (.cells cs))(aW:cs[o]? =some c):(a3 T G X).aK S k none (.ref (.l j) o)=k c S:=by
 rw[ha];simp only[dP];rw[show S.get (.l j)=some (.cells cs) from h];simp only[ew]
 have:cs.drop o=c::cs.drop (o+1):=by have e:=(ez.1 aW);rw[kk e.1,e.2]
 rw[this];rfl
theorem wK(z:ae):∀c:Nat,(List.replicate c [z]).flatten=List.replicate c z
 |0=>rfl
 |c+1=>by simp [List.replicate_succ,wK z c]
theorem oP(z:ae)(bytes l c:Nat)(ar:l≤c)(ay:c*bytes≤1099511627776):(a3 T G X).kP s k [z] bytes (.int .i64 (l:Int)) (.int .i64 (c:Int))=k (.cD (.l s.own.length) 0 l c 1) (s.new (.cells (List.replicate c z))):=by show mJ (gg G (aX T G X) bz) s k [z] bytes (.int .i64 (l:Int)) (.int .i64 (c:Int))=_;unfold mJ;rw[gL,gL];simp only[show Nat.ble l c=true from eK ar,show Nat.ble (c*bytes) 1099511627776=true from eK ay,bA,ci];show k _ (s.new (.cells (List.replicate c [z]).flatten))=_;rw[wK];rfl
abbrev U(n:Nat):ae:=.int .u32 (n:Int)
theorem il(a:Int):IntKind.wrap .u64 a=a%18446744073709551616:=by unfold IntKind.wrap;simp [show IntKind.bits .u64=64 from rfl,show IntKind.signed .u64=false from rfl]
theorem wrap_u32(a:Int):IntKind.wrap .u32 a=a%4294967296:=by unfold IntKind.wrap;simp [show IntKind.bits .u32=32 from rfl,show IntKind.signed .u32=false from rfl]
theorem dq(a b:Nat):(a3 T G X).ai s k (ao .add (.int .u64 (a:Int)) (.int .u64 (b:Int)))=k (.int .u64 (((a+b)%18446744073709551616:Nat):Int)) s:=by rw[ft,il];congr 2
def qH(a b:Nat):Nat:=(((a:Int)-(b:Int))%18446744073709551616).toNat
theorem dr(a b:Nat):(a3 T G X).ai s k (ao .sub (.int .u64 (a:Int)) (.int .u64 (b:Int)))=k (.int .u64 ((qH a b:Nat):Int)) s:=by rw[fu,il];congr 2;rw[qH,Int.toNat_of_nonneg (by omega)]
theorem c6(a:Nat):(a3 T G X).ai s k (ao .sub (.int .u64 (a:Int)) (.int .u64 1))=k (.int .u64 ((qH a 1:Nat):Int)) s:=dr a 1
theorem dA(a b:Nat):(a3 T G X).ai s k (ao .mul (.int .u64 (a:Int)) (.int .u64 (b:Int)))=k (.int .u64 (((a*b)%18446744073709551616:Nat):Int)) s:=by rw[fv,il];congr 2
theorem Gg(a b:Nat):(a3 T G X).ai s k (ao .add (.int .u32 (a:Int)) (.int .u32 (b:Int)))=k (.int .u32 (((a+b)%4294967296:Nat):Int)) s:=by rw[ft,wrap_u32];congr 2
theorem DM(a b:Nat)(h:b≠0)(e:a<18446744073709551616):(a3 T G X).ai s k (ao .quo (.int .u64 (a:Int)) (.int .u64 (b:Int)))=k (.int .u64 ((a/b:Nat):Int)) s:=by
 rw[Hp _ _ _ (by omega),il];congr 2
 have:((a:Int)).tdiv (b:Int)=((a/b:Nat):Int):=by rw[Int.tdiv_eq_ediv_of_nonneg (by omega)];rfl
 rw[this];have ay:a/b≤a:=Nat.div_le_self _ _;generalize a/b=q at *;omega
theorem xI(a b:Nat)(h:b≠0):(a3 T G X).ai s k (ao .rem (.int .u64 (a:Int)) (.int .u64 (b:Int)))=k (.int .u64 ((a%b:Nat):Int)) s:=by rw[Hq _ _ _ (by omega)];congr 2
theorem xJ(ec:IntKind)(a c:Nat)(h:c≤64):(a3 T G X).ai s k (ao .shl (.int .u64 (a:Int)) (.int ec (c:Int)))=k (.int .u64 ((a*2^c%18446744073709551616:Nat):Int)) s:=by
 have e:ao .shl (.int .u64 (a:Int)) (.int ec (c:Int))=some (.int .u64 (IntKind.wrap .u64 ((a:Int)*2^(min (c:Int).toNat 64)))):=by
  have df:¬((c:Int)<0):=by omega
  simp [ao,ll,df,show IntKind.bits .u64=64 from rfl]
 rw[e,cy,il,Int.toNat_natCast,Nat.min_eq_left h];congr 2
theorem xK(ec:IntKind)(a c:Nat)(h:c≤64):(a3 T G X).ai s k (ao .shr (.int .u64 (a:Int)) (.int ec (c:Int)))=k (.int .u64 ((a/2^c:Nat):Int)) s:=by
 have e:ao .shr (.int .u64 (a:Int)) (.int ec (c:Int))=some (.int .u64 ((a:Int).fdiv (2^(min (c:Int).toNat 64)))):=by
  have df:¬((c:Int)<0):=by omega
  simp [ao,ll,df,show IntKind.bits .u64=64 from rfl]
 rw[e,cy,Int.toNat_natCast,Nat.min_eq_left h];congr 2;rw[show((2:Int)^c)=((2^c:Nat):Int) from by simp,Int.fdiv_eq_ediv_of_nonneg _ (Int.natCast_nonneg _)];rfl
theorem uz(ec:IntKind)(a c:Nat)(h:c≤32):(a3 T G X).ai s k (ao .shr (.int .u32 (a:Int)) (.int ec (c:Int)))=k (.int .u32 ((a/2^c:Nat):Int)) s:=by
 have e:ao .shr (.int .u32 (a:Int)) (.int ec (c:Int))=some (.int .u32 ((a:Int).fdiv (2^(min (c:Int).toNat 32)))):=by
  have df:¬((c:Int)<0):=by omega
  simp [ao,ll,df,show IntKind.bits .u32=32 from rfl]
 rw[e,cy,Int.toNat_natCast,Nat.min_eq_left h];congr 2;rw[show((2:Int)^c)=((2^c:Nat):Int) from by simp,Int.fdiv_eq_ediv_of_nonneg _ (Int.natCast_nonneg _)];rfl
theorem BY(ec:IntKind)(a c:Nat)(h:c≤32):(a3 T G X).ai s k (ao .shl (.int .u32 (a:Int)) (.int ec (c:Int)))=k (.int .u32 ((a*2^c%4294967296:Nat):Int)) s:=by
 have e:ao .shl (.int .u32 (a:Int)) (.int ec (c:Int))=some (.int .u32 (IntKind.wrap .u32 ((a:Int)*2^(min (c:Int).toNat 32)))):=by
  have df:¬((c:Int)<0):=by omega
  simp [ao,ll,df,show IntKind.bits .u32=32 from rfl]
 rw[e,cy,wrap_u32,Int.toNat_natCast,Nat.min_eq_left h];congr 2
theorem ck(a:Nat):(a3 T G X).ai s k (ao .shl (.int .u64 (a:Int)) (.int .u64 32))=k (.int .u64 ((a*4294967296%18446744073709551616:Nat):Int)) s:=xJ .u64 a 32 (by decide)
theorem cl(a:Nat):(a3 T G X).ai s k (ao .shr (.int .u64 (a:Int)) (.int .u64 32))=k (.int .u64 ((a/4294967296:Nat):Int)) s:=xK .u64 a 32 (by decide)
theorem cw(a:Nat):(a3 T G X).ai s k (ao .shr (.int .u64 (a:Int)) (.int .u64 63))=k (.int .u64 ((a/9223372036854775808:Nat):Int)) s:=xK .u64 a 63 (by decide)
theorem c8(ec:IntKind)(a:Nat):(a3 T G X).bT s k .u32 (.int ec (a:Int))=k (.int .u32 ((a%4294967296:Nat):Int)) s:=by show k (.int .u32 (IntKind.wrap .u32 (a:Int))) s=_;rw[wrap_u32];congr 2
theorem hE(a:Nat)(h:a<4294967296):(a3 T G X).bT s k .u64 (.int .u32 (a:Int))=k (.int .u64 (a:Int)) s:=by show k (.int .u64 (IntKind.wrap .u64 (a:Int))) s=_;rw[il];congr 2;omega
theorem hP(a b:Nat)(h:a+b<9223372036854775808):(a3 T G X).ai s k (ao .add (.int .i64 (a:Int)) (.int .i64 (b:Int)))=k (.int .i64 ((a+b:Nat):Int)) s:=by rw[ft,eS _ (by omega) (by omega)];congr 2
theorem mz(a b:Nat)(h:b≤a)(ay:a<9223372036854775808):(a3 T G X).ai s k (ao .sub (.int .i64 (a:Int)) (.int .i64 (b:Int)))=k (.int .i64 ((a-b:Nat):Int)) s:=by rw[fu,eS _ (by omega) (by omega)];congr 2;omega
theorem k4(a:Nat)(h:a+1<9223372036854775808):(a3 T G X).ai s k (ao .add (.int .i64 (a:Int)) (.int .i64 1))=k (.int .i64 ((a+1:Nat):Int)) s:=hP a 1 h
theorem jt(a:Nat)(h:1≤a)(ay:a<9223372036854775808):(a3 T G X).ai s k (ao .sub (.int .i64 (a:Int)) (.int .i64 1))=k (.int .i64 ((a-1:Nat):Int)) s:=mz a 1 h ay
theorem y8(a:Nat)(h:2≤a)(ay:a<9223372036854775808):(a3 T G X).ai s k (ao .sub (.int .i64 (a:Int)) (.int .i64 2))=k (.int .i64 ((a-2:Nat):Int)) s:=mz a 2 h ay
theorem rS(a:Nat)(ay:a<9223372036854775808):(a3 T G X).ai s k (ao .quo (.int .i64 (a:Int)) (.int .i64 32))=k (.int .i64 ((a/32:Nat):Int)) s:=by
 rw[Hp _ _ _ (by omega)]
 have:((a:Int)).tdiv 32=((a/32:Nat):Int):=by rw[Int.tdiv_eq_ediv_of_nonneg (by omega)];rfl
 rw[this,eS _ (by omega) (by omega)]
theorem rT(a:Nat):(a3 T G X).ai s k (ao .rem (.int .i64 (a:Int)) (.int .i64 32))=k (.int .i64 ((a%32:Nat):Int)) s:=by rw[Hq _ _ _ (by omega)];congr 2
theorem LS(a b:Nat)(e:a<18446744073709551616)(h:b<18446744073709551616):((BitVec.ofInt 64 (a:Int) &&& BitVec.ofInt 64 (b:Int)).toNat:Int)=((a &&& b:Nat):Int):=by
 rw[BitVec.toNat_and];simp -implicitDefEqProofs only[BitVec.toNat_ofInt];congr 1;have ar:(((a:Int)%((2^64:Nat):Int))).toNat=a:=by omega
 have ay:(((b:Int)%((2^64:Nat):Int))).toNat=b:=by omega
 rw[ar,ay]
theorem Gh(a:Nat)(h:a<18446744073709551616):(a3 T G X).ai s k (ao .and (.int .u64 (a:Int)) (.int .u64 4294967295))=k (.int .u64 ((a%4294967296:Nat):Int)) s:=by
 have e:ao .and (.int .u64 (a:Int)) (.int .u64 ((4294967295:Nat):Int))=some (.int .u64 (IntKind.wrap .u64 ((BitVec.ofInt 64 (a:Int) &&& BitVec.ofInt 64 ((4294967295:Nat):Int)).toNat:Int))):=by simp -implicitDefEqProofs only[ao,f3,↓reduceIte];rfl
 show(a3 T G X).ai s k (ao .and (.int .u64 (a:Int)) (.int .u64 ((4294967295:Nat):Int)))=_;rw[e,LS a _ h (by omega),cy,il];congr 2
 have:a &&& 4294967295=a%4294967296:=Nat.and_two_pow_sub_one_eq_mod a 32;rw[this];omega
theorem BZ(a b:Nat)(e:a<18446744073709551616)(h:b<18446744073709551616):((BitVec.ofInt 64 (a:Int) ||| BitVec.ofInt 64 (b:Int)).toNat:Int)=((a ||| b:Nat):Int):=by
 rw[BitVec.toNat_or];simp -implicitDefEqProofs only[BitVec.toNat_ofInt];congr 1;have ar:(((a:Int)%((2^64:Nat):Int))).toNat=a:=by omega
 have ay:(((b:Int)%((2^64:Nat):Int))).toNat=b:=by omega
 rw[ar,ay]
theorem SJ(q b p:Nat)(h:b<2^p)(f8:q*2^p+b<18446744073709551616):(a3 T G X).ai s k (ao .or (.int .u64 ((q*2^p:Nat):Int)) (.int .u64 (b:Int)))=k (.int .u64 ((q*2^p+b:Nat):Int)) s:=by
 have e:ao .or (.int .u64 ((q*2^p:Nat):Int)) (.int .u64 (b:Int))=some (.int .u64 (IntKind.wrap .u64 ((BitVec.ofInt 64 ((q*2^p:Nat):Int) ||| BitVec.ofInt 64 (b:Int)).toNat:Int))):=by simp -implicitDefEqProofs only[ao,f3,↓reduceIte];rfl
 rw[e,BZ _ _ (by omega) (by omega),cy,il];congr 2
 have:q*2^p ||| b=q*2^p+b:=by rw[ed,←Nat.two_pow_add_eq_or_of_lt h]
 rw[this];omega
theorem uA(q b:Nat)(e:b<4294967296)(f8:q<4294967296):(a3 T G X).ai s k (ao .or (.int .u64 ((q*4294967296:Nat):Int)) (.int .u64 (b:Int)))=k (.int .u64 ((q*4294967296+b:Nat):Int)) s:=SJ q b 32 e (by omega)
theorem gN(l:List Nat):ae.a6 (l.map U)=true:=by
 induction l with
 |nil=>rfl
 |cons x l e=>simp -implicitDefEqProofs only[fM,ae.a6,e,Bool.and_true];rfl
def nH(d:Nat)(g:ga):Prop:=∀a,g=.dW a→∃e i,a=.g e i∧e≤d
theorem nH.not{g:ga}(h:∀a,g≠.dW a)(d:Nat):nH d g:=fun a e=>absurd e (h a)
theorem nH.le{d e:Nat}{g:ga}(h:nH d g)(cF:d≤e):nH e g:=fun a p=>by obtain⟨x,i,ar,ay⟩:=h a p;exact⟨x,i,ar,Nat.le_trans ay cF⟩
inductive lA (s:ag):ae→List Nat→Prop
 |cm (l:List Nat) (g:ga) (cE:nH s.aa g):lA s (.cm 1 (l.map U) g) l
 |cD (d j off cap:Nat) (cs:List ae) (l:List Nat) (cF:d≤s.aa) (cE:s.get (.g d j)=some (.cells cs)) (bO:(cs.drop off).take l.length=l.map U) (hle:off+l.length≤cs.length) (aW:l.length≤cap):lA s (.cD (.g d j) off l.length cap 1) l
def LD(s S:ag):Prop:=s.aa≤S.aa∧∀d j o,d≤s.aa→s.get (.g d j)=some o→S.get (.g d j)=some o
theorem LD.refl(s:ag):LD s s:=⟨aC _,fun _ _ _ _ h=>h⟩
theorem LD.trans{s S S':ag}(h:LD s S)(k:LD S S'):LD s S':=⟨Nat.le_trans h.1 k.1,fun d j o cF e=>k.2 d j o (Nat.le_trans cF h.1) (h.2 d j o cF e)⟩
theorem Child.aa{s S:ag}(h:Child s S):S.aa=s.aa+1:=by simp [ag.aa,h.up,h.ro];omega
theorem Child.nZ{s S:ag}(h:Child s S):LD s S:=by
 refine⟨by rw[h.aa];omega,fun d j o cF e=>?_⟩;have ar:=h.aa;simp -implicitDefEqProofs only[ag.get] at e ⊢;rw[if_neg (by omega),if_pos (by omega),h.up,h.ro];by_cases dI:d=s.aa
 ·rw[if_pos dI] at e
  have:S.aa-1-d=0:=by omega
  rw[this];simpa using e
 ·rw[if_neg dI,if_pos (by omega)] at e
  have:S.aa-1-d=(s.aa-1-d)+1:=by omega
  rw[this];simpa using e
theorem LD.new(s:ag)(o:cO):LD s (s.new o):=by
 refine⟨aC _,fun d j x cF e=>?_⟩;simp -implicitDefEqProofs only[ag.get] at e ⊢
 have:(s.new o).aa=s.aa:=rfl;rw[this];split
 ·rename_i h;rw[if_pos h] at e;have da:=(ez.1 e).1;simp -implicitDefEqProofs only[ag.new];rw[g1 da];exact e
 ·rename_i h;rw[if_neg h] at e;exact e
theorem lA.nZ{s S:ag}{v:ae}{l:List Nat}(h:lA s v l)(bD:LD s S):lA S v l:=by
 cases h with
 |cm l g cE=>exact .cm l g (cE.le bD.1)
 |cD d j off cap cs l cF cE bO hle aW=>exact .cD d j off cap cs l (Nat.le_trans cF bD.1) (bD.2 d j _ cF cE) bO hle aW
theorem lA.aq{s:ag}{v:ae}{l:List Nat}(h:lA s v l)(d:Nat):v.aq d=v:=by
 cases h with
 |cm l g cE=>
  cases g with
  |dW a=>obtain⟨x,i,rfl,_⟩:=cE a rfl;rfl
  |_=>rfl
 |cD=>rfl
theorem lA.len{S:ag}{v:ae}{l:List Nat}(h:lA S v l)(k:bb)(S':ag):(a3 T G X).dz S' k false v=k (.int .i64 (l.length:Int)) S':=by
 cases h with
 |cm l g cE=>rw[aU,ht]
 |cD=>rfl
theorem lA.get{S:ag}{v:ae}{l:List Nat}(h:lA S v l)(ec:IntKind)(i:Nat)(bN:i<l.length)(k:bb):(a3 T G X).c7 S (fun v S=>(a3 T G X).aK S k none v) 1 v (.int ec (i:Int))=k (U (l.getD i 0)) S:=by
 cases h with
 |cm l g cE=>rw[nG 1 _ g ec i (U (l.getD i 0)) (by simp [List.getD,bN])];rfl
 |cD d j off cap cs l cF cE bO hle aW=>
  rw[kz _ _ _ _ _ _ _ bN,ha];simp -implicitDefEqProofs only[dP,cE,ew,Nat.mul_one];have p:off+i<cs.length:=by omega
  rw[kk p];have e:cs[off+i]=U (l.getD i 0):=by
   have ar:((cs.drop off).take l.length)[i]? =(l.map U)[i]?:=by rw[bO]
   rw[List.getElem?_take,if_pos bN,List.getElem?_drop,fB p] at ar;simp [bN] at ar;rw[ar];simp [List.getD,bN]
  rw[e];rfl
theorem lA.ptr{S:ag}{v:ae}{l:List Nat}(h:lA S v l)(ec:IntKind)(i:Nat)(bN:i<l.length):∃p,(∀(S':ag) (k:bb),(a3 T G X).c7 S' k 1 v (.int ec (i:Int))=k p S')∧∀k:bb,(a3 T G X).aK S k none p=k (U (l.getD i 0)) S:=by
 have cE:=fun k=>h.get (T:=T) (G:=G) (X:=X) ec i bN k
 cases h with
 |cm l g q=>
  have e:=fun(S':ag) (k:bb)=>nG (T:=T) (G:=G) (X:=X) (s:=S') (k:=k) 1 (l.map U) g ec i (U (l.getD i 0)) (by simp [List.getD,bN])
  refine⟨_,e,fun k=>?_⟩
  have:=cE k;rw[e] at this;exact this
 |cD d j off cap cs l cF q bO hle aW=>
  have e:=fun(S':ag) (k:bb)=>kz (T:=T) (G:=G) (X:=X) (S:=S') (k:=k) (.g d j) off l.length cap 1 ec i bN
  refine⟨_,e,fun k=>?_⟩
  have:=cE k;rw[e] at this;exact this
def ot(g:ga)(len n:Nat):ga:=
 match g with
 |.nil=>.nil
 |.exact=>if n=len then .exact else .any
 |.dW a=>if 0=0∧n=len then .dW a else .any
 |.any=>.any
def ou(v:ae)(n:Nat):ae:=
 match v with
 |.cm z es g=>.cm z (es.take n) (ot g es.length n)
 |.cD a off _ cap z=>.cD a off n cap z
 |v=>v
theorem uB{g:ga}(cE:∀a,g≠.dW a)(len n:Nat):∀a,ot g len n≠.dW a:=fun a=>by
 cases g with
 |dW b=>exact absurd rfl (cE b)
 |nil=>intro e;cases e
 |exact=>intro e;simp -implicitDefEqProofs only[ot] at e;split at e<;> cases e
 |any=>intro e;cases e
theorem Gi{d:Nat}{g:ga}(cE:nH d g)(len n:Nat):nH d (ot g len n):=fun a e=>by
 cases g with
 |dW b=>
  simp -implicitDefEqProofs only[ot] at e;split at e
  ·exact cE a e
  ·cases e
 |nil=>cases e
 |exact=>simp -implicitDefEqProofs only[ot] at e;split at e<;> cases e
 |any=>cases e
theorem lA.slice{S:ag}{v:ae}{l:List Nat}(h:lA S v l)(n:Nat)(df:n≤l.length)(k:bb)(S':ag):(a3 T G X).jr 1 v none (some (.int .i64 (n:Int))) none S' k=k (ou v n) S':=by
 cases h with
 |cm l g cE=>show my 1 (.cm 1 (l.map U) g) none (some (.int .i64 (n:Int))) none S' k=_;unfold my;simp -implicitDefEqProofs only[oV,gL,hj,Nat.zero_le,eK (Nat.zero_le n),show Nat.ble n (l.map U).length=true from eK (by simpa using df),show oM g 0 n (l.map U)=true from by cases g<;> first|rfl |(simp -implicitDefEqProofs only[oM,gN,Bool.or_true]),bA,ci,bV,Nat.sub_zero,List.map_take];cases g<;> first|rfl |simp [ou,ot]
 |cD d j off cap cs l cF cE bO hle aW=>show my 1 (.cD (.g d j) off l.length cap 1) none (some (.int .i64 (n:Int))) none S' k=_;unfold my;simp -implicitDefEqProofs only[oV,gL,hj,eK (Nat.zero_le n),show Nat.ble n cap=true from eK (by omega),show Nat.ble cap cap=true from eK (aC _),eK aW,bA,ci,Nat.sub_zero,Nat.zero_mul,Nat.add_zero,ite_self];rfl
theorem lA.cut{S:ag}{v:ae}{l:List Nat}(h:lA S v l)(n:Nat)(df:n≤l.length):lA S (ou v n) (l.take n):=by
 cases h with
 |cm l g cE=>show lA S (.cm 1 ((l.map U).take n) (ot g (l.map U).length n)) (l.take n);rw[←List.map_take];exact .cm _ _ (Gi cE _ _)
 |cD d j off cap cs l cF cE bO hle aW=>
  have e:(l.take n).length=n:=by simp;omega
  have:=lA.cD (s:=S) d j off cap cs (l.take n) cF cE (by
   rw[e];have ar:((cs.drop off).take l.length).take n=(l.map U).take n:=by rw[bO]
   rw[List.take_take,Nat.min_eq_left df] at ar;rw[ar,List.map_take]) (by omega) (by omega)
  rwa [e] at this
theorem lB:∀(l:List Nat) (n:Nat) (cs:List ae),n=l.length→cs.take n=l.map U→chunk 1 n cs=l.map U
 |[],n,cs,df,_=>by subst df;rfl
 |x::l,n,cs,df,h=>by
  subst df;cases cs with
  |nil=>simp at h
  |cons c cs=>simp -implicitDefEqProofs only[bM,cN,fM,List.cons.injEq] at h;simp -implicitDefEqProofs only[bM,chunk,dJ,bV];rw[lB l l.length cs rfl h.2,fM,h.1];rfl
def je(v:ae)(l:List Nat):Prop:=∃g,v=.cm 1 (l.map U) g∧∀a,g≠.dW a
theorem je.rd{v:ae}{l:List Nat}(h:je v l)(s:ag):lA s v l:=by obtain⟨g,rfl,cE⟩:=h;exact .cm l g (nH.not cE _)
theorem je.nil:je (.cm 1 [] .nil) []:=⟨.nil,rfl,fun a e=>by cases e⟩
theorem lA.same{s S:ag}{v:ae}{l:List Nat}(h:lA s v l)(e:Child s S):Ab.freeze S v=some v:=by
 have p:=e.aa;cases h with
 |cm l g cE=>
  show eQ S _=_;cases g with
  |dW a=>obtain⟨x,i,rfl,aZ⟩:=cE a rfl;simp -implicitDefEqProofs only[eQ,f4];rw[if_pos (by omega)]
  |_=>rfl
 |cD d j off cap cs l cF cE bO hle aW=>show eQ S (.cD (.g d j) off l.length cap 1)=_;simp -implicitDefEqProofs only[eQ,f4];rw[if_neg (by omega),if_pos (by omega)]
theorem mA{S:ag}{j off n cap:Nat}{cs:List ae}(l:List Nat)(df:n=l.length)(cE:S.own[j]? =some (.cells cs))(bO:(cs.drop off).take l.length=l.map U)(hle:off+l.length≤cs.length):∃fp,Ab.freeze S (.cD (.g S.aa j) off n cap 1)=some fp∧je fp l:=by
 subst df;refine⟨.cm 1 (l.map U) (if l.length=cap then .exact else .any),?_,_,rfl,fun a=>?_⟩
 ·show eQ S (.cD (.g S.aa j) off l.length cap 1)=_;simp -implicitDefEqProofs only[eQ,f4,if_true,g8,cE];rw[lB l l.length (cs.drop off) rfl bO,gN];rw[if_pos];simp -implicitDefEqProofs only[Nat.mul_one,eT,bm];exact⟨eK hle,rfl⟩
 ·split<;> (intro e;cases e)
theorem lA.freeze{s S:ag}{v:ae}{l:List Nat}(h:lA S v l)(p:Child s S):∃fp,Ab.freeze S v=some fp∧lA s fp l:=by
 have A:=p.aa;cases h with
 |cm l g cE=>
  cases g with
  |dW a=>
   obtain⟨x,i,rfl,aZ⟩:=cE a rfl;by_cases q:x<S.aa
   ·refine⟨.cm 1 (l.map U) (.dW (.g x i)),?_,.cm l _ (fun a e=>⟨x,i,by cases e;rfl,by omega⟩)⟩;show(if x<S.aa then some (ae.cm 1 (l.map U) (.dW (.g x i))) else _)=_;rw[if_pos q]
   ·refine⟨.cm 1 (l.map U) .any,?_,.cm l _ (fun a e=>by cases e)⟩;show(if x<S.aa then _ else kW S 1 (l.map U))=_;unfold kW;rw[if_neg q,if_pos (gN l)]
  |nil=>exact⟨_,rfl,.cm l _ (fun a e=>by cases e)⟩
  |exact=>exact⟨_,rfl,.cm l _ (fun a e=>by cases e)⟩
  |any=>exact⟨_,rfl,.cm l _ (fun a e=>by cases e)⟩
 |cD d j off cap cs l cF cE bO hle aW=>
  by_cases e:d=S.aa
  ·subst e;have y:S.own[j]? =some (.cells cs):=by simpa [ag.get] using cE
   refine⟨.cm 1 (l.map U) (if l.length=cap then .exact else .any),?_,.cm l _ (fun a=>?_)⟩
   ·show eQ S (.cD (.g S.aa j) off l.length cap 1)=_;simp -implicitDefEqProofs only[eQ,f4,if_true,g8,y];rw[lB l l.length (cs.drop off) rfl bO,gN];rw[if_pos];simp -implicitDefEqProofs only[Nat.mul_one,eT,bm];exact⟨eK hle,rfl⟩
   ·split<;> (intro e;cases e)
  ·have r:d<S.aa:=by omega
   refine⟨.cD (.g d j) off l.length cap 1,?_,.cD d j off cap cs l (by omega) ?_ bO hle aW⟩
   ·show eQ S (.cD (.g d j) off l.length cap 1)=_;simp -implicitDefEqProofs only[eQ,f4];rw[if_neg e,if_pos r]
   ·simp -implicitDefEqProofs only[ag.get] at cE ⊢;rw[if_neg e,if_pos r,p.up,p.ro] at cE;by_cases dI:d=s.aa
    ·rw[if_pos dI]
     have:S.aa-1-d=0:=by omega
     rw[this] at cE;simpa using cE
    ·rw[if_neg dI,if_pos (by omega)]
     have:S.aa-1-d=(s.aa-1-d)+1:=by omega
     rw[this] at cE;simpa using cE
theorem lA.own{S:ag}{j off n cap:Nat}{cs:List ae}(l:List Nat)(df:n=l.length)(cE:S.own[j]? =some (.cells cs))(bO:(cs.drop off).take l.length=l.map U)(hle:off+l.length≤cs.length)(aW:l.length≤cap):lA S (.cD (.g S.aa j) off n cap 1) l:=by subst df;exact .cD S.aa j off cap cs l (aC _) (by simpa [ag.get] using cE) bO hle aW
def gz(S:ag)(j:Nat)(l:List Nat):Prop:=S.own[j]? =some (.cells (l.map U))
def ag.put(S:ag)(j:Nat)(l:List Nat):ag:={S with own:=S.own.set j (.cells (l.map U))}
theorem gz.put{S:ag}{j:Nat}{l:List Nat}(h:gz S j l)(l':List Nat):gz (S.put j l') j l':=by have da:=(ez.1 h).1;simp [gz,ag.put,da]
theorem Child.put{s S:ag}(h:Child s S)(j:Nat)(l:List Nat):Child s (S.put j l):=⟨h.up,h.ro⟩
theorem gz.get{S:ag}{j:Nat}{l:List Nat}(h:gz S j l)(i n cap:Nat)(bN:i<l.length)(df:i<n)(k:bb):(a3 T G X).c7 S (fun v S=>(a3 T G X).aK S k none v) 1 (.cD (.l j) 0 n cap 1) (.int .i64 (i:Int))=k (U (l.getD i 0)) S:=by rw[kz _ _ _ _ _ _ _ df,wJ h (c:=U (l.getD i 0)) (by simp [List.getD,bN])]
theorem gz.gq{S:ag}{j:Nat}{l:List Nat}(h:gz S j l)(i n cap x:Nat)(bN:i<l.length)(df:i<n)(k:bb):(a3 T G X).c7 S (fun v S=>(a3 T G X).dy S k 1 v (U x)) 1 (.cD (.l j) 0 n cap 1) (.int .i64 (i:Int))=k .dead (S.put j (l.set i x)):=by rw[kz _ _ _ _ _ _ _ df,m9];have e:(U x).fj=true:=rfl;simp -implicitDefEqProofs only[fr,e,ae.cells,bM,cr,bc,hj,bA,ci];unfold iT;rw[show S.get (.l j)=some (.cells (l.map U)) from h];simp -implicitDefEqProofs only[Nat.mul_one,bM,cr,bc,show Nat.ble (i+1) (l.map U).length=true from eK (by simp;omega),show S.h8 (.l j) [U x]=true from by simp [ag.h8,ag.rz],List.all_cons,show(U x).eO=true from rfl,List.all_nil,bA,ci];show k .dead {S with own:=S.own.set j (.cells ((l.map U).set i (U x)))}=_;rw[ag.put,List.map_set]
theorem gz.make(S:ag)(n:Nat):gz (S.new (.cells (List.replicate n (U 0)))) S.own.length (List.replicate n 0):=by simp [gz,ag.new]
theorem gz.rd{S:ag}{j:Nat}{l:List Nat}(h:gz S j l)(n cap:Nat)(df:n≤l.length)(aW:n≤cap):lA S (.cD (.g S.aa j) 0 n cap 1) (l.take n):=by refine lA.own (l.take n) (by simp;omega) h ?_ (by simp;omega) (by simp;omega);simp [List.map_take]
theorem ia(d i o l c z:Nat):ae.aq d (.cD (.l i) o l c z)=.cD (.g d i) o l c z:=rfl
theorem sq:∀l:List Nat,(l.map U).flatMap ae.cells=l.map U
 |[]=>rfl
 |x::l=>by simp -implicitDefEqProofs only[fM,List.flatMap_cons,sq l];rfl
theorem sr:∀l:List Nat,(l.map U).all ae.eO=true
 |[]=>rfl
 |x::l=>by simp -implicitDefEqProofs only[fM,List.all_cons,sr l,Bool.and_true];rfl
theorem lA.lc{S:ag}{v:ae}{l:List Nat}(h:lA S v l):dD S v=some (1,l.map U):=by
 cases h with
 |cm l g cE=>
  cases g with
  |dW a=>simp -implicitDefEqProofs only[dD,gN,if_true]
  |_=>rfl
 |cD d j off cap cs l cF cE bO hle aW=>simp -implicitDefEqProofs only[dD,cE];rw[lB l l.length (cs.drop off) rfl bO,gN];rw[if_pos];simp -implicitDefEqProofs only[Nat.mul_one,eT,bm];exact⟨eK hle,rfl⟩
theorem y9(vs cs:List ae)(h:vs.length≤cs.length):dO cs 0 vs=vs++cs.drop vs.length:=by
 apply List.ext_getElem?;intro j;rw[gw _ _ _ (by omega)];by_cases da:j<vs.length
 ·rw[if_pos (by omega),g1 da];rfl
 ·rw[if_neg (by omega),im (by omega),List.getElem?_drop];congr 1;omega
theorem gz.copy{S:ag}{v:ae}{l e:List Nat}{j n:Nat}(h:gz S j e)(bD:lA S v l)(bO:l.length≤e.length)(df:n=e.length)(k:bb):(a3 T G X).qG S k 1 (.cD (.l j) 0 n n 1) v=k (.int .i64 (l.length:Int)) (S.put j (l++e.drop l.length)):=by subst df;show ln _ S k 1 (.cD (.l j) 0 e.length e.length 1) v=_;unfold ln;simp -implicitDefEqProofs only[hj,ci];unfold copyV;simp -implicitDefEqProofs only[bD.lc,show S.get (.l j)=some (.cells (e.map U)) from h,ht,Nat.min_eq_left bO,hj,eT,bc,Nat.mul_one,eK (aC _)];rw[show(l.map U).take l.length=l.map U from jC (by simp),sq,sr];simp -implicitDefEqProofs only[ci];rw[y9 _ _ (by simpa using bO)];simp -implicitDefEqProofs only[ht];show k _ {S with own:=S.own.set j (.cells (l.map U++(e.map U).drop l.length))}=_;rw[←List.map_drop,←List.map_append];rfl
theorem wL{S:ag}{j n:Nat}{cs vs:List ae}(h:S.own[j]? =some (.cells cs))(ar:vs.length=n)(ay:cs.length=n)(ch:vs.all ae.eO=true):(a3 T G X).dy S k n (.ref (.l j) 0) (.agg vs)=k .dead {S with own:=S.own.set j (.cells vs)}:=by
 rw[m9];unfold fr;simp -implicitDefEqProofs only[ae.fj,ae.cells,ar,hj,bA,ci];unfold iT;rw[show S.get (.l j)=some (.cells cs) from h];have e:dO cs 0 vs=vs:=sp _ _ (by omega);have dI:Nat.ble (0+vs.length) cs.length=true:=eK (by omega);have p:S.h8 (.l j) vs=true:=by simp [ag.h8,ag.rz]
 simp -implicitDefEqProofs only[dI,p,ch,bA,ci,e];rfl
theorem uC{S:ag}{j n:Nat}{cs:List ae}(h:S.own[j]? =some (.cells cs))(df:cs.length=n):lb S (.ref (.l j) 0) (some n)=some (.agg cs):=by unfold lb;simp -implicitDefEqProofs only[show S.get (.l j)=some (.cells cs) from h,bc,bV];rw[if_pos (eK (by omega)),jC (by omega)]
theorem je.freeze{v:ae}{l:List Nat}(h:je v l)(S:ag):Ab.freeze S v=some v:=by obtain⟨g,rfl,cE⟩:=h;show eQ S _=_;cases g<;> first|rfl |exact absurd rfl (cE _)
theorem je.aq{v:ae}{l:List Nat}(h:je v l)(d:Nat):v.aq d=v:=(h.rd default).aq d
theorem je.eQ{v:ae}{l:List Nat}(h:je v l)(S:ag):Ab.eQ S v=some v:=by obtain⟨g,rfl,cE⟩:=h;cases g<;> first|rfl |exact absurd rfl (cE _)
theorem je.bj{v:ae}{l:List Nat}(h:je v l):v.bj=true:=by obtain⟨g,rfl,cE⟩:=h;cases g<;> first|rfl |exact absurd rfl (cE _)
theorem je.eO{v:ae}{l:List Nat}(h:je v l):v.eO=true:=by obtain⟨g,rfl,cE⟩:=h;rfl
theorem je.cut{v:ae}{l:List Nat}(h:je v l)(n:Nat):je (ou v n) (l.take n):=by obtain⟨g,rfl,cE⟩:=h;exact⟨ot g (l.map U).length n,by simp [ou,List.map_take],uB cE _ _⟩
theorem je.eB(l:List Nat):je (.cm 1 (l.map U) .exact) l:=⟨.exact,rfl,fun a e=>by cases e⟩
theorem Gj{S:ag}{j:Nat}{l:List Nat}(h:gz S j l):S.put j l=S:=by
 obtain⟨own,up,ro⟩:=S;simp -implicitDefEqProofs only[gz] at h;simp -implicitDefEqProofs only[ag.put];congr 1;apply List.ext_getElem?;intro i;by_cases e:j=i
 ·subst e;rw[List.getElem?_set_self (ez.1 h).1,h]
 ·rw[oZ e]
theorem gz.DN{S:ag}{i j:Nat}{l:List Nat}(h:gz S j l)(e6:i≠j)(l':List Nat):gz (S.put i l') j l:=by simp -implicitDefEqProofs only[gz,ag.put] at h ⊢;rw[oZ e6];exact h
theorem gz.new{S:ag}{j:Nat}{l:List Nat}(h:gz S j l)(o:cO):gz (S.new o) j l:=by simp -implicitDefEqProofs only[gz,ag.new] at h ⊢;rw[g1 (ez.1 h).1];exact h
theorem gz.lt{S:ag}{j:Nat}{l:List Nat}(h:gz S j l):j<S.own.length:=(ez.1 h).1
theorem ov(a:ae)(l:List ae):(a3 T G X).de s k 0 (.d7 (a::l))=k a s:=gd _ _ _ rfl
theorem ow(a b:ae)(l:List ae):(a3 T G X).de s k 1 (.d7 (a::b::l))=k b s:=gd _ _ _ rfl
theorem B0(a b c:ae)(l:List ae):(a3 T G X).de s k 2 (.d7 (a::b::c::l))=k c s:=gd _ _ _ rfl
theorem ss(l:List Nat):(a3 T G X).bG s k 1 (l.map U)=k (.cm 1 (l.map U) .exact) s:=by
 refine kQ 1 _ (gN l) ?_
 induction l with
 |nil=>rfl
 |cons x l e=>simp -implicitDefEqProofs only[fM,List.all_cons,e,Bool.and_true];rfl
end Go.Ab
end
section
namespace Go.Ab
def ox:ag:={own:=[],up:=[],ro:=[]}
def fe(w:World):a5:={F:=fun a=>if a.spot=none then w.cell? a else none,n:=fun _=>0,loc:=fun _ _=>0,kL:=fun _ _ _=>none}
theorem cL.init(w:World):cL (fe w) ox w:=by
 have e:∀d i,ox.get (.g d i)=none:=by intro d i;simp [ag.get,ox]
 refine⟨fun a v h=>?_,fun d l h=>?_,fun d i o h=>?_,fun d i o e3 gX o' b h=>?_⟩
 ·simp only[fe] at h;split at h
  ·rename_i aV;exact⟨aV,h⟩
  ·cases h
 ·unfold ag.an ox at h;simp at h;simp [h,fe]
 ·rw[e] at h;cases h
 ·rw[e] at h;cases h
structure Left (w w':World):Prop where
 size:w.heap.size≤w'.heap.size
 os:w'.os=w.os
 tape:w'.tape=w.tape
 output:w'.output=w.output
 BK:∀b,b<w.heap.size→w'.heap[b]? =w.heap[b]?
theorem e0.left{w w':World}{κ':a5}{s':ag}(h:e0 (fe w) ox w κ' s' w'):Left w w':=
 ⟨h.size,h.os,h.tape,h.output,fun b e=>h.kq b e (fun⟨d,i,o,cE,_⟩=>by simp [ag.get,ox] at cE)⟩
section
variable{P:Program}(hm:P.follows .mixedOrders=true){T:ki}(eu:T.oO P){qy:Nat→Option dc}(wv:BU P T qy){G:Nat→ae}{X:Nat→List ae→ag→ah}(kg:Sv P qy G X)
include hm eu wv kg
theorem za{n f:Nat}{args:List ae}{s':ag}{w:World}{xs:List Value}(h:call .not qy G X n f args ox=.ok (.bool true) s')(bg:qy f≠none)(dM:jR (fe w) G)(aZ:d9 (fe w) 1 args xs):
  Calls P f xs.toArray w fun e w'=>e=.returned (.bool true)∧Left w w':=by
 have r:∃fn,P.funcs[f]? =some fn∧fn.body.isSome=true∧(fn.name== "runtime.NumGoroutine")=false:=by
  cases d6:qy f with
  |none=>exact absurd d6 bg
  |some y=>
   obtain⟨fn,ar,ay⟩:=wv f y d6;unfold uk at ay;cases p:fn.body with
   |none=>rw[p] at ay;cases ay
   |some c=>rw[p] at ay;simp only[bm,Bool.not_eq_true'] at ay;exact⟨fn,ar,by simp [p],ay.1.1.1.1⟩
 have A:∀x w',l3 (fe w) ox w (.bool true) s' x w'→x=.bool true∧Left w w':=fun x w' ⟨κ',ar,_,ch⟩=>by exact⟨ds.gB (b:=true) ch,ar.left⟩
 rcases(um hm eu wv kg n 0).ok f args ox _ s' (fe w) w xs h (cL.init w) dM aZ with⟨x,w',ar,ay⟩|⟨ar,ay⟩
 ·obtain⟨fn,B,q,F⟩:=r;exfalso;have H:¬fn.name= "runtime.NumGoroutine" :=by simpa using F
  cases p:fn.body with
  |none=>rw[p] at q;cases q
  |some c=>simp [callFunc,B,H,p] at ar
 ·exact ay.mono fun e w' ⟨x,he,I⟩=>by obtain⟨dI,J⟩:=A x w' I;exact⟨by rw[he,dI],J⟩
end
inductive rs where
 |bool|int (k:IntKind)|str|cm (e:rs)|gq (jD:List rs)
mutual
def rs.size:rs→Nat
 |.gq jD=>rs.oy jD
 |_=>1
def rs.oy:List rs→Nat
 |[]=>0
 |s::vk=>s.size+rs.oy vk
end
def elemV:List ae→ae
 |[c]=>c
 |cs=>.agg cs
section
variable{H:Type}
mutual
def j5:rs→DataW H→List ae
 |.bool,d=>match d with |.lit (.bool b)=>[.bool b]|_=>[]
 |.int k,d=>match d with |.lit (.int _ n)=>[.int k n]|_=>[]
 |.str,d=>match d with |.lit (.string eB)=>[.str (eB.map UInt8.toNat)]|_=>[]
 |.cm e,d=>match d with |.slice es _=>[.cm e.size (es.map fun x=>elemV (j5 e x)) .any]|_=>[.cm e.size [] .nil]
 |.gq jD,d=>match d with |.agg io=>uD jD io|_=>[]
def uD:List rs→List (DataW H)→List ae
 |[],_=>[]
 |s::vk,l=>match l with |d::io=>j5 s d++uD vk io|[]=>[]
end
mutual
def jN:rs→DataW H→Prop
 |.bool,d=>∃b,d=.lit (.bool b)
 |.int k,d=>∃n,d=.lit (.int k n)∧(Lit.int k n).wf=true
 |.str,d=>∃eB,d=.lit (.string eB)∧eB.length≤maxLen
 |.cm e,d=>d=.nil∨∃es rest,d=.slice es rest∧es.length+rest.length≤maxLen∧∀x,x∈es→jN e x
 |.gq jD,d=>∃io,d=.agg io∧kA jD io
def kA:List rs→List (DataW H)→Prop
 |[],l=>l=[]
 |s::vk,l=>∃d io,l=d::io∧jN s d∧kA vk io
end
mutual
def l8(P:Program):rs→TypeId→Bool
 |.bool,t=>match P.underlying t with |some .bool=>true|_=>false
 |.int k,t=>match P.underlying t with |some (.int lk)=>decide (lk=k)|_=>false
 |.str,t=>match P.underlying t with |some .string=>true|_=>false
 |.cm e,t=>match P.underlying t with |some (.slice u)=>l8 P e u&&Nat.beq (P.cellsOf u) e.size&&Nat.blt 0 e.size|_=>false
 |.gq jD,t=>match P.underlying t with |some (.struct rE)=>rU P jD rE.toList 0&&Nat.beq (P.cellsOf t) (rs.oy jD)|_=>false
def rU(P:Program):List rs→List Field→Nat→Bool
 |[],rE,_=>match rE with |[]=>true|_=>false
 |s::vk,rE,off=>match rE with |f::rE=>Nat.beq f.offset off&&Nat.beq (P.cellsOf f.type) s.size&&l8 P s f.type&&rU P vk rE (off+s.size)|[]=>false
end
structure DO (κ:a5) (D:Nat) (n:Nat) (as:List ae) (cs:List Value):Prop where
 LU:d9 κ D as cs
 len:cs.length=n
 ref:ae.a6 as=true
 one:∀c,c∈as→c.cells=[c]
theorem DO.Hr{κ:a5}{D n:Nat}{as:List ae}{cs:List Value}(h:DO κ D n as cs):as.length=n:=by rw[←h.LU.1,h.len]
theorem DO.elem{κ:a5}{D n:Nat}{as:List ae}{cs:List Value}(h:DO κ D n as cs):(elemV as).cells=as∧(elemV as).bj=true:=by
 unfold elemV;split
 ·rename_i c
  have:=h.ref;simp only[ae.a6,Bool.and_true] at this;exact⟨h.one c (by simp),this⟩
 ·exact⟨rfl,by simpa [ae.bj] using h.ref⟩
theorem qI:∀{a b:List ae},ae.a6 a=true→ae.a6 b=true→ae.a6 (a++b)=true
 |[],b,_,h=>h
 |x::a,b,h,k=>by simp only[ae.a6,bm] at h;simp only[List.cons_append,ae.a6,h.1,qI h.2 k,bA]
theorem DO.append{κ:a5}{D n m:Nat}{as eB:List ae}{cs io:List Value}(h:DO κ D n as cs)(k:DO κ D m eB io):DO κ D (n+m) (as++eB) (cs++io):=
 ⟨h.LU.append k.LU,by simp [h.len,k.len],qI h.ref k.ref,fun c aW=>by
  rcases List.mem_append.1 aW with ar|ar
  ·exact h.one c ar
  ·exact k.one c ar⟩
theorem DO.single{κ:a5}{D:Nat}{a:ae}{v:Value}(h:ds κ D a v)(aJ:a.bj=true)(ar:a.cells=[a]):DO κ D 1 [a] [v]:=
 ⟨.cons h (.nil _ _),rfl,by simp [ae.a6,aJ],fun c aW=>by simp only[List.mem_singleton] at aW;subst aW;exact ar⟩
variable{enc:TypeId×Value→H}{P:Program}{w:World}
mutual
theorem oz(D:Nat):∀(B1:rs) (t:TypeId) (fuel:Nat) (cs:List Value) (d:DataW H) (eo:List MemPlace),l8 P B1 t=true→DataW.trod enc P w 0 (fun _=>true) true fuel t cs=some (d,eo)→
  DO (fe w) D B1.size (j5 B1 d) cs∧jN B1 d
 |.bool,t,fuel,cs,d,eo,aV,h=>by
  simp only[l8] at aV;split at aV<;> try cases aV
  rename_i hu;obtain⟨b,rfl,e⟩:=DataW.trod_bool hu h;cases e;exact⟨.single (.bool b) rfl rfl,by simp only[jN];exact⟨b,rfl⟩⟩
 |.int k,t,fuel,cs,d,eo,aV,h=>by
  simp only[l8] at aV;split at aV<;> try cases aV
  rename_i lk hu;have c3:lk=k:=of_decide_eq_true aV;subst c3;obtain⟨n,rfl,e,hw⟩:=DataW.trod_int hu h;cases e;exact⟨.single (.int lk n) rfl rfl,by simp only[jN];exact⟨n,rfl,hw⟩⟩
 |.str,t,fuel,cs,d,eo,aV,h=>by
  simp only[l8] at aV;split at aV<;> try cases aV
  rename_i hu;obtain⟨s,rfl,e,hw⟩:=DataW.trod_string hu h;cases e;exact⟨.single (.str _ s rfl) rfl rfl,by simp only[jN];exact⟨_,rfl,hw⟩⟩
 |.cm e,t,fuel,cs,d,eo,aV,h=>by
  simp only[l8] at aV;split at aV<;> try cases aV
  rename_i u hu;simp only[bm] at aV;obtain⟨⟨YM,eF⟩,l2⟩:=aV;have eF:=c4 eF;have l2:0<e.size:=by simpa [Nat.blt_eq] using l2
  rcases DataW.trod_slice hu h with⟨rfl,dI⟩|⟨a,len,cap,lc,rest,n,rfl,rfl,dI,_,sQ,sb,hlen,iJ,YN,_⟩
  ·cases dI;exact⟨.single (.kn _) rfl rfl,by simp only[jN];exact .inl trivial⟩
  ·cases dI;have row:∀i,i<len→∃x r,lc[i]? =some x∧(∀j,j<e.size→w.cell? (a.add (i*e.size+j))=r[j]?)∧DO (fe w) D e.size (j5 e x.1) r∧jN e x.1:=fun i bN=>by
    have ar:=iJ i bN;obtain⟨x,aZ⟩:∃x,lc[i]? =some x:=⟨_,fB (by omega)⟩;rw[aZ] at ar;obtain⟨r,aJ,ay⟩:=Option.bind_eq_some_iff.1 ar;obtain⟨_,tN,tS⟩:=World.cells?_some aJ;obtain⟨k1,rr⟩:=oz D e u n r x.1 x.2 YM ay;refine⟨x,r,aZ,fun j da=>?_,k1,rr⟩
    have:=tS j (by omega);rw[add_add,eF] at this;exact this
   have SK:=(YN rfl).1;have jJ:∀y,y∈lc→∃r,DO (fe w) D e.size (j5 e y.1) r∧jN e y.1:=fun y fb=>by
    obtain⟨i,bN,fb⟩:=List.getElem_of_mem fb;obtain⟨x,r,aZ,_,k1,rr⟩:=row i (by omega)
    have:x=y:=by rw[fB bN,fb] at aZ;exact(Option.some.inj aZ).symm
    subst this;exact⟨r,k1,rr⟩
   have DP:∀y,y∈(lc.map (·.1)).map (fun x=>elemV (j5 e x))→y.cells.length=e.size∧y.bj=true:=fun y fb=>by simp only[List.map_map,List.mem_map,Function.comp] at fb;obtain⟨z,hr,rfl⟩:=fb;obtain⟨r,k1,_⟩:=jJ z hr;exact⟨by rw[k1.elem.1,k1.Hr],k1.elem.2⟩
   have vE:((lc.map (·.1)).map (fun x=>elemV (j5 e x))).length=len:=by simp [hlen]
   have Hs:=eI ((lc.map (·.1)).map (fun x=>elemV (j5 e x))) e.size (fun y fb=>(DP y fb).1);rw[vE] at Hs;have cell:∀j,j<len*e.size→∃c v,(((lc.map (·.1)).map (fun x=>elemV (j5 e x))).flatMap ae.cells)[j]? =some c∧w.cell? (a.add j)=some v∧ds (fe w) D c v:=fun j da=>by
    have f8:j/e.size<len:=Nat.div_lt_of_lt_mul (by rw[ed];exact da);have h4:j%e.size<e.size:=Nat.mod_lt _ l2;have tB:j/e.size*e.size+j%e.size=j:=by rw[ed];exact Nat.div_add_mod j e.size
    obtain⟨x,r,aZ,aW,k1,_⟩:=row _ f8;have aW:=aW _ h4;rw[tB] at aW;have dI:((lc.map (·.1)).map (fun x=>elemV (j5 e x)))[j/e.size]? =some (elemV (j5 e x.1)):=by simp [aZ]
    have f1:=m1 _ e.size _ _ (fun y fb=>(DP y fb).1) dI _ h4;rw[tB,k1.elem.1] at f1;obtain⟨c,B2⟩:∃c,(j5 e x.1)[j%e.size]? =some c:=⟨_,fB (by rw[k1.Hr];exact h4)⟩;obtain⟨v,bD,SL⟩:=k1.LU.get B2;exact⟨c,v,by rw[f1,B2],by rw[aW,bD],SL⟩
   have Ht:0<len→a.spot=none:=fun eU=>by
    obtain⟨c,v,_,bD,_⟩:=cell 0 (Nat.mul_pos eU l2)
    have:a.add 0=a:=by simp [Addr.add]
    rw[this] at bD;exact World.cell?_spot bD
   refine⟨.single ?_ (by simp [ae.bj]) rfl,?_⟩
   ·have key:ds (fe w) D (.cm e.size ((lc.map (·.1)).map (fun x=>elemV (j5 e x))) .any) (.slice (some a) ((lc.map (·.1)).map (fun x=>elemV (j5 e x))).length cap):=by
     refine .cm e.size _ .any a cap (fun j=>(w.cell? (a.add j)).getD undef) trivial (by rw[vE];exact sQ) (fun e6=>Ht ?_) (fun y fb=>(DP y fb).1) (.inl fun y fb=>(DP y fb).2) (fun j da=>?_) (fun j c aW=>?_)
     ·rw[←vE];exact List.length_pos_iff.2 e6
     ·rw[Hs] at da;obtain⟨c,v,_,bD,_⟩:=cell j da;have eU:0<len:=Nat.pos_of_ne_zero fun nY=>by rw[nY] at da;simp at da
      simp only[fe,lW (Ht eU),if_true,bD,Option.getD_some]
     ·have da:j<len*e.size:=by rw[←Hs];exact(ez.1 aW).1
      obtain⟨nk,v,kr,bD,SL⟩:=cell j da;rw[aW] at kr;cases kr;simp only[bD,Option.getD_some];exact SL
    rw[vE] at key;exact key
   ·simp only[jN];refine .inr ⟨_,_,rfl,by simp [hlen,SK];omega,fun x aZ=>?_⟩;simp only[List.mem_map] at aZ;obtain⟨y,fb,rfl⟩:=aZ;exact(jJ y fb).choose_spec.2
 |.gq jD,t,fuel,cs,d,eo,aV,h=>by
  simp only[l8] at aV;split at aV<;> try cases aV
  rename_i rE hu;simp only[bm] at aV;have eF:=c4 aV.2;obtain⟨xs,n,rfl,dI,bO,fG,bg⟩:=DataW.trod_struct hu h;cases dI
  have:=qJ D jD rE.toList 0 n cs xs aV.1 (by simpa using fG) (by rw[bO,eF];omega) (fun i f bN=>by simpa using bg i f (by simpa using bN));refine⟨?_,?_⟩
  ·simpa [j5,rs.size] using this.1
  ·simp only[jN];exact⟨_,rfl,this.2⟩
theorem qJ(D:Nat):∀(vk:List rs) (rE:List Field) (off n:Nat) (cs:List Value) (xs:List (DataW H×List MemPlace)),rU P vk rE off=true→xs.length=rE.length→cs.length=off+rs.oy vk→
  (∀(i:Nat) (f:Field),rE[i]? =some f→DataW.trod enc P w 0 (fun _=>true) true n f.type ((cs.drop f.offset).take (P.cellsOf f.type))=xs[i]?)→
  DO (fe w) D (rs.oy vk) (uD vk (xs.map (·.1))) (cs.drop off)∧kA vk (xs.map (·.1))
 |[],rE,off,n,cs,xs,aV,aZ,bO,bg=>by
  cases rE with
  |cons f rE=>simp [rU] at aV
  |nil=>obtain rfl:xs=[]:=jT (by simpa using aZ);simp only[rs.oy,Nat.add_zero] at bO;rw[n0 (by omega)];exact⟨⟨.nil _ _,rfl,rfl,fun c aW=>by simp [uD] at aW⟩,by simp [kA]⟩
 |s::vk,rE,off,n,cs,xs,aV,aZ,bO,bg=>by
  cases rE with
  |nil=>simp [rU] at aV
  |cons f rE=>
   simp only[rU,bm] at aV;obtain⟨⟨⟨ar,ay⟩,ch⟩,dk⟩:=aV;have ar:=c4 ar;have ay:=c4 ay;cases xs with
   |nil=>simp at aZ
   |cons x xs=>
    have uE:=bg 0 f rfl;simp only[List.getElem?_cons_zero] at uE;rw[ar,ay] at uE;obtain⟨k1,rr⟩:=oz D s f.type n _ x.1 x.2 ch uE;simp only[rs.oy] at bO;obtain⟨zb,SM⟩:=qJ D vk rE (off+s.size) n cs xs dk (by simpa using aZ) (by omega) (fun i vo bN=>by simpa using bg (i+1) vo (by simpa using bN));refine⟨?_,?_⟩
    ·have dI:cs.drop off=(cs.drop off).take s.size++cs.drop (off+s.size):=by
      rw[←List.drop_drop];exact(List.take_append_drop _ _).symm
     rw[dI];simpa [uD,rs.oy] using k1.append zb
    ·simp only[fM,kA];exact⟨_,_,rfl,rr,SM⟩
end
end
end Go.Ab
end
section
namespace Go.Ab
open Go.ChangeShapes Go.WideShapes
section
variable{H:Type}{enc:TypeId×Value→H}{P:Program}
def st:rs→DataW H→ae
 |.gq jD,d=>.agg (j5 (.gq jD) d)
 |B1,d=>(j5 B1 d).headD .dead
theorem B3{W:World}(D:Nat){B1:rs}{t:TypeId}{v:Value}{d:DataW H}{eo:List MemPlace}{base:Nat}(aV:l8 P B1 t=true)(bD:Value.okWide P W .any base t v)(h:DataW.Trod enc P W 0 (fun _=>true) true t v d eo):
  ds (fe W) D (st B1 d) v∧jN B1 d:=by
 obtain⟨fuel,h⟩:=h;obtain⟨ar,ay⟩:=oz D B1 t fuel _ d eo aV h;refine⟨?_,ay⟩;have single:B1.size=1→(∀cs,v≠.agg cs)→ds (fe W) D ((j5 B1 d).headD .dead) v:=fun hr e6=>by
  have aW:v.cells.toList=[v]:=by
   cases v<;> try rfl
   exact absurd rfl (e6 _)
  rw[aW] at ar;have p:=ar.Hr;rw[hr] at p
  match f8:j5 B1 d,p with
  |[c],_=>obtain⟨x,aZ,aJ⟩:=ar.LU.get (j:=0) (c:=c) (by rw[f8];rfl);cases aZ;exact aJ
 cases B1 with
 |gq jD=>
  simp only[l8] at aV;split at aV<;> try cases aV
  rename_i rE hu;unfold Value.okWide at bD;rw[hu] at bD;obtain⟨cs,rfl,_,_⟩:=bD;exact .agg _ cs.toList ar.LU.1 ar.LU.2
 |bool=>
  refine single rfl fun cs e=>?_
  subst e;simp only[l8] at aV;split at aV<;> try cases aV
  rename_i hu;simp [Value.okWide,hu,Cell.okWide,Cell.ok] at bD
 |int k=>
  refine single rfl fun cs e=>?_
  subst e;simp only[l8] at aV;split at aV<;> try cases aV
  rename_i hu;simp [Value.okWide,hu,Cell.okWide,Cell.ok] at bD
 |str=>
  refine single rfl fun cs e=>?_
  subst e;simp only[l8] at aV;split at aV<;> try cases aV
  rename_i hu;simp [Value.okWide,hu,Cell.okWide,Cell.ok] at bD
 |cm e=>
  refine single rfl fun cs e=>?_
  subst e;simp only[l8] at aV;split at aV<;> try cases aV
  rename_i hu;simp [Value.okWide,hu,Cell.okWide,Cell.ok] at bD
def Hu:List rs→List (DataW H)→List ae
 |s::vk,d::io=>st s d::Hu vk io
 |_,_=>[]
def uF(P:Program):List rs→List TypeId→Bool
 |[],[]=>true
 |s::vk,t::e=>l8 P s t&&uF P vk e
 |_,_=>false
theorem su{W:World}(D:Nat){base:Nat}:∀(r:List rs) (e:List TypeId) (vs:List Value) (io:List (DataW H)) (eo:List MemPlace),uF P r e=true→(∀(j:Nat) t v,e[j]? =some t→vs[j]? =some v→Value.okWide P W .any base t v)→
  DataW.TrodAll enc P W 0 (fun _=>true) true e vs io eo→d9 (fe W) D (Hu r io) vs∧kA r io
 |[],[],vs,io,eo,_,_,h=>by
  cases vs with
  |cons v vs=>simp [DataW.TrodAll] at h
  |nil=>
   cases io with
   |cons d io=>simp [DataW.TrodAll] at h
   |nil=>exact⟨.nil _ _,by simp [kA]⟩
 |s::vk,[],_,_,_,aV,_,_=>by simp [uF] at aV
 |[],t::e,_,_,_,aV,_,_=>by simp [uF] at aV
 |s::vk,t::e,vs,io,eo,aV,bD,h=>by
  cases vs with
  |nil=>cases io<;> simp [DataW.TrodAll] at h
  |cons v vs=>
   cases io with
   |nil=>simp [DataW.TrodAll] at h
   |cons d io=>simp only[DataW.TrodAll] at h;obtain⟨p,q,ar,ay,_⟩:=h;simp only[uF,bm] at aV;obtain⟨k1,rr⟩:=B3 D aV.1 (bD 0 t v rfl rfl) ar;obtain⟨zb,SM⟩:=su D vk e vs io q aV.2 (fun j LC fp d6 y=>bD (j+1) LC fp (by simpa using d6) (by simpa using y)) ay;refine⟨.cons k1 zb,?_⟩;simp only[kA];exact⟨_,_,rfl,rr,SM⟩
theorem Left.sameAt{W e:World}(h:Left W e){p:MemPlace}(gb:p.block<W.heap.size):W.sameAt e p:=by
 cases p with
 |cell b off=>show e.cell? _=W.cell? _;unfold World.cell?;simp only[h.BK b gb]
 |map b=>exact h.BK b gb
theorem wM{W r:World}(bO:laidOutB P=true)(y:Left W r):∀(e:List TypeId) (vs:List Value) (io:List (DataW H)) (eo:List MemPlace),(∀t,t∈e→P.readableRec t=true∧t<P.types.size)→(∀p,p∈eo→p.block<W.heap.size)→
  DataW.TrodAll enc P W 0 (fun _=>true) true e vs io eo→DataW.TrodAll enc P r 0 (fun b=>decide (b<W.heap.size)) true e vs io eo
 |[],vs,io,eo,_,_,h=>by cases vs<;> cases io<;> simp only[DataW.TrodAll] at h ⊢;exact h
 |t::e,vs,io,eo,d6,gb,h=>by
  cases vs with
  |nil=>cases io<;> simp [DataW.TrodAll] at h
  |cons v vs=>
   cases io with
   |nil=>simp [DataW.TrodAll] at h
   |cons d io=>
    simp only[DataW.TrodAll] at h ⊢;obtain⟨p,q,ar,ay,rfl⟩:=h;have aJ:=d6 t (by simp);exact⟨p,q,WideElems.Trod_stays bO aJ.1 aJ.2 ar (fun x aZ=>y.sameAt (gb x (by simp [aZ]))) (fun x aZ=>by simpa using gb x (by simp [aZ])),
     wM bO y e vs io q (fun LC A=>d6 LC (by simp [A])) (fun x aZ=>gb x (by simp [aZ])) ay,rfl⟩
theorem Left.keptBut{W e:World}(h:Left W e)(may:MemPlace→Prop):W.keptBut e may:=by
 refine⟨h.os,h.output,fun i bN=>?_⟩;rw[h.BK i bN]
 have:∃o,W.heap[i]? =some o:=⟨_,Array.getElem?_eq_getElem bN⟩;obtain⟨o,p⟩:=this;rw[p];cases o<;> simp
theorem B4{f:Func}{s:ChangeSpec}{W B:World}{args:Array Value}{io gs:List (DataW H)}{before:List MemPlace}(r:DataW.Whole enc P f.params.toList s.vars false W args.toList io gs before)(bD:s.vars=[])
  (bg:∀(l:List (DataW H)),l.length=f.params.size→s.fn H l= {results:=[.lit (.bool true)],args:=l,vars:=[]}){tb:TypeId}(M:f.resultTypes= #[tb])(N:P.underlying tb=some .bool)(bO:laidOutB P=true)
  (O:∀t,t∈f.params.toList→P.readableRec t=true∧t<P.types.size)(F:Left W B):s.post enc P f false true false false W args (.bool true) B:=by
 have U:=r;have I:=r.lt;obtain⟨p,q,J,y,rfl,_,_⟩:=r;rw[bD] at y;have V:gs=[]∧q=[]:=by cases gs<;> simp [DataW.TrodVars] at y;exact⟨rfl,y⟩
 obtain⟨rfl,rfl⟩:=V;have hlen:∀(e:List TypeId) (vs:List Value) (io:List (DataW H)) (eo:List MemPlace),DataW.TrodAll enc P W 0 (fun _=>true) true e vs io eo→io.length=e.length:=by
  intro e
  induction e with
  |nil=>intro vs io eo h;cases vs<;> cases io<;> simp [DataW.TrodAll] at h ⊢
  |cons t e Y=>intro vs io eo h;cases vs<;> cases io<;> simp only[DataW.TrodAll] at h;obtain⟨_,_,_,ay,_⟩:=h;simp [Y _ _ _ ay]
 have A:=bg (io++[]) (by simpa using hlen _ _ _ _ J);refine⟨io,[],p++[],[],p,[],U,?_,?_,?_,F.keptBut _,fun h=>by cases h⟩
 ·rw[A,M];exact⟨[],[],⟨1,by simp [DataW.trod,Value.cells,N]⟩,rfl,rfl⟩
 ·rw[A];simp only[Bz] at I ⊢;exact wM bO F _ _ _ _ O I J
 ·rw[A,bD];rfl
end
end Go.Ab
end
section
namespace Go.Ab
def W7:Value→ae
 |.bool b=>.bool b
 |.int k n=>.int k n
 |.string _=>.str []
 |.pointer _=>.hv
 |.slice _ _ _=>.cm 0 [] .nil
 |.map _=>.eX
 |.nilFunc=>.hK
 |.nilIface=>.hx
 |_=>.dead
noncomputable def Hv(P:Program):ki:={dS:=fun t=>P.underlying t,info:=fun t=>(P.info? t).bind fun i=>i.zero.map fun z=>(i.size,i.bytes,z),Su:=fun t=>match (P.info? t).bind (·.zero) with |some z=>z.cells.toList.map W7|none=>[],eqs:=fun t=> !P.stoodInHeld t&& !P.eqGuardType P.depth t}
theorem Hw{o:Option TypeInfo}{n b:Nat}{z:Value}(h:(o.bind fun i=>i.zero.map fun z=>(i.size,i.bytes,z))=some (n,b,z)):∃i,o=some i∧i.size=n∧i.bytes=b∧i.zero=some z:=by obtain⟨i,bN,h⟩:=Option.bind_eq_some_iff.1 h;obtain⟨St,hr,h⟩:=Option.map_eq_some_iff.1 h;cases h;exact⟨i,bN,rfl,rfl,hr⟩
theorem qK(P:Program):(Hv P).oO P where
 dS:=fun _ _ h=>h
 info:=fun t _ _ _ h=>Hw (o:=P.info? t) h
 eqs:=fun t h=>by have e:(!P.stoodInHeld t&& !P.eqGuardType P.depth t)=true:=h;simpa using e
 BL:=fun _ _ h=>by cases h
noncomputable def W8(P:Program)(n:Nat):ki:={Hv P with BL:=fun f j=>Nat.beq f n&&Nat.beq j 0}
theorem LV(P:Program)(n:Nat)(h:yP P n 0):(W8 P n).oO P where
 dS:=(qK P).dS
 info:=(qK P).info
 eqs:=(qK P).eqs
 BL:=fun f j e=>by have e:(Nat.beq f n&&Nat.beq j 0)=true:=e;simp only[bm] at e;have ar:=c4 e.1;have ay:=c4 e.2;subst ar;subst ay;exact h
def ag.on(s:ag)(o:List cO):ag:={own:=o,up:=s.own::s.up,ro:=s.ro}
theorem ag.gG(s:ag)(o:List cO):(s.on o).aa=s.aa+1:=s.iG
theorem ag.B5(s:ag)(o:List cO)(d:Nat):(s.on o).an d=if d=s.aa+1 then some o else s.an d:=by
 have h:=s.p4 d;unfold ag.an at h ⊢;rw[ag.gG];rw[ag.iG] at h;by_cases ar:d=s.aa+1
 ·simp [ar,ag.on]
 ·simp only[ar,↓reduceIte] at h ⊢;exact h
theorem ag.j6(s:ag)(o:List cO)(d i:Nat):(s.on o).get (.g d i)=if d=s.aa+1 then o[i]? else s.get (.g d i):=by rw[ag.lV,ag.lV,ag.B5];split<;> rfl
theorem ag.DQ(s:ag)(o:List cO){d i:Nat}{b:cO}(h:s.get (.g d i)=some b):(s.on o).get (.g d i)=some b:=by rw[ag.j6,if_neg (by have:=ag.fR h;omega)];exact h
theorem cL.off{κ:a5}{s:ag}{o:List cO}{w:World}(h:cL κ (s.on o) w):cL κ s w:=h.pop (s:=s.on o) rfl
theorem Live.on{κ:a5}{s:ag}{o:List cO}{b:Nat}(h:Live κ (s.on o) b):Live κ s b∨∃i x,o[i]? =some x∧aT κ (s.aa+1) i x=some b:=by
 obtain⟨d,i,x,ar,ay⟩:=h;rw[ag.j6] at ar;split at ar
 ·rename_i cF;exact .inr ⟨i,x,ar,by rw[←cF];exact ay⟩
 ·exact .inl ⟨d,i,x,ar,ay⟩
theorem Live.up{κ:a5}{s:ag}{o:List cO}{b:Nat}(h:Live κ s b):Live κ (s.on o) b:=by obtain⟨d,i,x,ar,ay⟩:=h;exact⟨d,i,x,s.DQ o ar,ay⟩
theorem cL.nI{κ:a5}{s:ag}{o:List cO}{w:World}(aV:cL κ (s.on o) w){i:Nat}{x:cO}{b:Nat}(aZ:o[i]? =some x)(e:aT κ (s.aa+1) i x=some b):¬Live κ s b:=fun⟨d,j,y,ar,ay⟩=>by have:=aV.inj (s.aa+1) i x d j y b (by rw[ag.j6,if_pos rfl];exact aZ) (s.DQ o ar) e ay;have cF:=ag.fR ar;omega
def a5.back(κ κ':a5)(D:Nat):a5:=
 {F:=κ'.F,n:=fun d=>if d=D then κ.n d else κ'.n d,loc:=fun d i=>if d=D then κ.loc d i else κ'.loc d i,kL:=fun d i m=>if d=D then κ.kL d i m else κ'.kL d i m}
theorem cL.lay{l:Nat}{κ κ':a5}{s s':ag}{o:List cO}{w w':World}(aV:cL κ (s.on o) w)(he:g3 l κ s w κ' s' w')(q:cL κ' s' w')(bO:∀i x,o[i]? =some x→aT κ (s.aa+1) i x≠some l):
  ∃H,cL H (s'.on o) w'∧g3 l κ (s.on o) w H (s'.on o) w'∧(∀i,H.loc (s.aa+1) i=κ.loc (s.aa+1) i):=by
 have cF:s'.aa=s.aa:=he.aa;have N:f6 κ' (κ.back κ' (s.aa+1)) (s'.aa+1):=by
  refine⟨fun _ _ h=>h,fun d r=>?_,fun d i r _=>?_,fun d i m x r _ h=>?_⟩
  ·simp only[a5.back];rw[if_neg (by omega)];exact aC _
  ·simp only[a5.back];rw[if_neg (by omega)]
  ·simp only[a5.back];rw[if_neg (by omega)];exact h
 have I:f6 κ (κ.back κ' (s.aa+1)) (s.aa+1+1):=by
  refine⟨he.k.F,fun d r=>?_,fun d i r bN=>?_,fun d i m x r bN h=>?_⟩
  ·simp only[a5.back];split
   ·exact aC _
   ·exact he.k.n d (by omega)
  ·simp only[a5.back];split
   ·rfl
   ·exact he.k.loc d i (by omega) bN
  ·simp only[a5.back];split
   ·exact h
   ·exact he.k.kL d i m x (by omega) bN h
 have J:∀d i x,s'.get (.g d i)=some x→wh (κ.back κ' (s.aa+1)) d i w' x∧aT (κ.back κ' (s.aa+1)) d i x=aT κ' d i x:=fun d i x h=>(q.obj d i x h).bC (q.mn h) (N.low (by have:=ag.fR h;omega)) (fun m=>by simp only[a5.back];rw[if_neg (by have:=ag.fR h;omega)]) (fun b _=>⟨rfl,fun _=>rfl⟩)
 have M:∀i x,o[i]? =some x→wh (κ.back κ' (s.aa+1)) (s.aa+1) i w' x∧aT (κ.back κ' (s.aa+1)) (s.aa+1) i x=aT κ (s.aa+1) i x:=fun i x aZ=>by
  have cE:(s.on o).get (.g (s.aa+1) i)=some x:=by rw[ag.j6,if_pos rfl];exact aZ
  refine(aV.obj _ i x cE).bC (aV.mn cE) I (fun m=>by simp [a5.back]) (fun b p=>?_);have B:=aV.nI aZ p;have O:b<w.heap.size:=by rcases aV.lJ ⟨_,i,x,cE,p⟩ with⟨C,e,ix,A⟩|⟨eZ,clock,A⟩<;> exact(Array.getElem?_eq_some_iff.1 A).1
  refine⟨he.kq b O (fun e=>bO i x aZ (e ▸ p)) B,fun y=>?_⟩;show κ'.F _=κ.F _;cases ka:κ.F ⟨b,y,none⟩ with
  |some v=>exact he.k.F _ _ ka
  |none=>
   cases U:κ'.F ⟨b,y,none⟩ with
   |none=>rfl
   |some v=>
    rcases he.nX ⟨b,y,none⟩ (by rw[U];simp) with ar|ar|ar
    ·exact absurd ka ar
    ·exact absurd ar (by simp only;omega)
    ·exact absurd ar B
 have get:∀d i x,(s'.on o).get (.g d i)=some x→(d=s.aa+1∧o[i]? =some x)∨(d≠s.aa+1∧s'.get (.g d i)=some x):=fun d i x h=>by
  rw[ag.j6,cF] at h;split at h
  ·rename_i ar;exact .inl ⟨ar,h⟩
  ·rename_i ar;exact .inr ⟨ar,h⟩
 have Gk:∀d i x b,(s'.on o).get (.g d i)=some x→aT (κ.back κ' (s.aa+1)) d i x=some b→(d=s.aa+1∧o[i]? =some x∧aT κ (s.aa+1) i x=some b)∨(s'.get (.g d i)=some x∧aT κ' d i x=some b):=fun d i x b h p=>by
  rcases get d i x h with⟨rfl,ar⟩|⟨_,ar⟩
  ·exact .inl ⟨rfl,ar,(M i x ar).2 ▸ p⟩
  ·exact .inr ⟨ar,(J d i x ar).2 ▸ p⟩
 have V:∀i x b,o[i]? =some x→aT κ (s.aa+1) i x=some b→b<w.heap.size:=fun i x b aZ p=>by
  have cE:(s.on o).get (.g (s.aa+1) i)=some x:=by rw[ag.j6,if_pos rfl];exact aZ
  rcases aV.lJ ⟨_,i,x,cE,p⟩ with⟨C,e,ix,A⟩|⟨eZ,clock,A⟩<;> exact(Array.getElem?_eq_some_iff.1 A).1
 have apart:∀i x b d j y,o[i]? =some x→aT κ (s.aa+1) i x=some b→s'.get (.g d j)=some y→aT κ' d j y=some b→False:=fun i x b d j y aZ p fb Y=>aV.nI aZ p (he.live b (V i x b aZ p) ⟨d,j,y,fb,Y⟩)
 refine⟨κ.back κ' (s.aa+1),⟨q.h6,fun d l h=>?_,fun d i x h=>?_,fun d i x e3 gX kH b h Z e hJ=>?_⟩,⟨by rw[ag.gG];exact I,by rw[ag.gG,ag.gG,cF],he.size,he.os,he.tape,he.output,fun b p df B=>he.kq b p df (fun h=>B h.up),fun b p h=>?_,fun a ab=>?_⟩,fun i=>by simp [a5.back]⟩
 ·rw[ag.B5,cF] at h;simp only[a5.back];split at h
  ·rename_i ar;simp only[a8] at h;rw[if_pos ar,ar];exact aV.len (s.aa+1) l (by rw[ag.B5,if_pos rfl,h])
  ·rename_i ar;rw[if_neg ar];exact q.len d l h
 ·rcases get d i x h with⟨rfl,ar⟩|⟨_,ar⟩
  ·exact(M i x ar).1
  ·exact(J d i x ar).1
 ·rcases Gk d i x b h e with⟨rfl,ar,ay⟩|⟨ar,ay⟩<;> rcases Gk e3 gX kH b Z hJ with⟨rfl,ch,dk⟩|⟨ch,dk⟩
  ·have cE:∀i x,o[i]? =some x→(s.on o).get (.g (s.aa+1) i)=some x:=fun i x aZ=>by rw[ag.j6,if_pos rfl];exact aZ
   exact aV.inj _ i x _ gX kH b (cE i x ar) (cE gX kH ch) ay dk
  ·exact(apart i x b e3 gX kH ar ay ch dk).elim
  ·exact(apart gX kH b d i x ch dk ar ay).elim
  ·exact q.inj d i x e3 gX kH b ar ch ay dk
 ·obtain⟨d,i,x,ar,ay⟩:=h;rcases Gk d i x b ar ay with⟨rfl,ch,dk⟩|⟨ch,dk⟩
  ·exact⟨s.aa+1,i,x,by rw[ag.j6,if_pos rfl];exact ch,dk⟩
  ·exact(he.live b p ⟨d,i,x,ch,dk⟩).up
 ·rcases he.nX a ab with ar|ar|ar
  ·exact .inl ar
  ·exact .inr (.inl ar)
  ·exact .inr (.inr ar.up)
theorem g3.under{l:Nat}{y r F:a5}{A p B:ag}{o o':List cO}{q H I:World}(eU:g3 l y A q r p H)(h:g3 l r (p.on o) H F (B.on o') I)(pf:∀i x b,o[i]? =some x→aT r (p.aa+1) i x=some b→q.heap.size≤b):g3 l y A q F B I:=by
 have cF:B.aa=p.aa:=by have:=h.aa;rw[ag.gG,ag.gG] at this;omega
 have hh:∀b,b<q.heap.size→Live r (p.on o) b→Live y A b:=fun b e bO=>by
  rcases bO.on with ar|⟨i,x,ar,ay⟩
  ·exact eU.live b e ar
  ·exact absurd (pf i x b ar ay) (by omega)
 refine⟨eU.k.trans (h.k.low (by rw[ag.gG,eU.aa];omega)),cF.trans eU.aa,Nat.le_trans eU.size h.size,h.os.trans eU.os,h.tape.trans eU.tape,h.output.trans eU.output,fun b e df J=>?_,fun b e bO=>?_,fun a M=>?_⟩
 ·rw[h.kq b (fL e eU.size) df (fun bO=>J (hh b e bO)),eU.kq b e df J]
 ·exact hh b e (h.live b (fL e eU.size) bO.up)
 ·rcases h.nX a M with ar|ar|ar
  ·exact eU.nX a ar
  ·exact .inr (.inl (Nat.le_trans eU.size ar))
  ·by_cases e:a.block<q.heap.size
   ·exact .inr (.inr (hh _ e ar))
   ·exact .inr (.inl (by omega))
section
variable{T:ki}{fy:Nat}{rd:Bool}
theorem e2{a b:ad}{c:Code}(h:dd T fy rd (.seq a b) c=true):∃x y,c=.seq x y∧dd T fy rd a x=true∧dd T fy rd b y=true:=by cases c<;> simp only[dd,bL,bm] at h;exact⟨_,_,rfl,h.1,h.2⟩
theorem fY{os:List cB}{c:Code}(h:dd T fy rd (.region none os) c=true):∃id ops,c=.region id ops false∧iM T fy ops os ops.toList=true:=by
 cases c with
 |region id ops d=>
  cases d with
  |true=>simp [dd] at h
  |false=>exact⟨id,ops,rfl,by simpa only[dd] using h⟩
 |_=>simp [dd] at h
theorem lC{o:br}{a b:ad}{c:Code}(h:dd T fy rd (.cond o a b) c=true):∃o' x y,c=.cond o' x y∧cp o o'=true∧dd T fy rd a x=true∧dd T fy rd b y=true:=by cases c<;> simp only[dd,bL,bm] at h;exact⟨_,_,_,rfl,h.1.1,h.1.2,h.2⟩
theorem kR{i:Nat}{a:ad}{c:Code}(h:dd T fy rd (.block i a) c=true):∃x,c=.block i x∧dd T fy rd a x=true:=by cases c<;> simp only[dd,bL,bm] at h;have e:=c4 h.1;subst e;exact⟨_,rfl,h.2⟩
theorem qL{m:g6}{a:ad}{c:Code}(h:dd T fy rd (.loop m a) c=true):∃x,c=.loop x∧dd T fy rd a x=true:=by cases c<;> simp only[dd,bL] at h;exact⟨_,rfl,h⟩
theorem nJ{i:Nat}{c:Code}(h:dd T fy rd (.exit i) c=true):c=.exit i:=by cases c<;> simp only[dd,bL] at h;have e:=c4 h;rw[e]
theorem zc{c:Code}(h:dd T fy rd .ret c=true):c=.ret:=by cases c<;> simp only[dd,bL] at h;rfl
theorem nc{ro:Option Nat}{P:Program}{Q:Exit→Act→World→Prop}{a:Act}{w:World}{c:Code}(h:dd T fy rd .skip c=true)(e:Q .normal a w):c.wpIn (vH ro) 0 P Q a w:=by
 cases c<;> simp only[dd,bL] at h
 ·exact wpIn_skip e
 ·exact wpIn_label e
end
def j7:Env:={F:=.not,au:=fun _=>.dead,call:=fun _ _ _=>.fail,loop:=fun step bC an s k=>dF step bC 0 an s k}
theorem Hx(P:Program):ms P j7:=⟨⟨0,fun _ _ _ _ _=>rfl⟩,fun _ _ _ _ _ h=>(by cases h),fun _ _ _ _ _ _ _ _ h=>(by cases h)⟩
theorem SN(κ:a5):jR κ j7.au:=fun _=>⟨.dead _,rfl⟩
theorem zd{ty:TypeId}{ρ:Operand→Value}{c:Call}{l:Nat}(aW:∃y,c.callee=.value y∧ρ y=.func (.yield l) #[] #[]):∀dst pos after guard,execOp ρ ⟨dst,.call c,ty,pos,after,guard⟩=Instr.yield l (c.args.map ρ):=by
 intro dst pos after guard;obtain⟨y,fb,e⟩:=aW;have ar:resolve ρ c ty=(Pure.pure {target:=.fn (.yield l) #[],args:= #[]++c.args.map ρ}:Sem Deferred):=by simp only[resolve,fb,e,Deferred.ofValue]
 show(do let d←resolve ρ c ty;invoke d.target d.args)=_;rw[ar];simp [invoke]
section
variable{P:Program}{T:ki}(eu:T.oO P){κ:a5}{s:ag}{w:World}{g:Nat→ae}{a:Act}{fy B:Nat}
include eu
theorem ih{os:List cB}{id:Nat}{ops:Array Oper}(q:iM T fy ops os ops.toList=true)(h:fm κ s w g a fy B j7.au){g':Nat→ae}{s':ag}(aJ:gF j7 os g s=some (g',s')){Q:Exit→Act→World→Prop}
  (r:∀κ' w' fz,e0 κ s w κ' s' w'→fm κ' s' w' g' fz fy B j7.au→Q .normal fz w'):(Code.region id ops false).wpIn (vH none) 0 P Q a w:=by
 obtain⟨hlen,y⟩:=hX q;refine wpIn_region (pD eu rfl (Hx P) (List.range ops.size) os (by rw[hlen];simp) (fun j i A da F=>?_) h aJ r);obtain⟨H,e⟩:=ez.1 da;rw[List.getElem_range] at e;subst e;have p:j<ops.size:=by simpa using H
 exact⟨ops[j],Array.getElem?_eq_getElem p,y j A _ F (by simp [p])⟩
omit eu in
theorem i6{o:br}{o':Operand}(e:cp o o'=true)(h:fm κ s w g a fy B j7.au){b:Bool}(p:ap j7.au g o=.bool b):a.eval o'=.bool b:=by have:=bk h.an h.au e;rw[p] at this;exact ds.gB (b:=b) this
end
def YO:List cB:=[⟨some 4,none,.alloc (List.replicate 40 (.bool false))⟩]
def W9:List cB:=[⟨some 8,none,.load none (.t 1)⟩,⟨some 9,none,.e8 1 40 (.t 4) (.t 8)⟩,⟨none,none,.store 1 (.t 9) (.c (.bool true))⟩]
def Xa:List cB:=[⟨some 10,none,.load none (.t 1)⟩,⟨some 5,none,.move (.t 10)⟩]
def Xb:List cB:=[⟨some 11,none,.move (.t 5)⟩,⟨some 12,none,.bin .geq (.t 11) (.c (.int .i64 0))⟩]
def Xc:List cB:=[⟨some 13,none,.move (.t 5)⟩,⟨some 14,none,.bin .sub (.t 13) (.c (.int .i64 1))⟩,⟨some 5,none,.move (.t 14)⟩]
def Xd:List cB:=[⟨some 15,none,.move (.t 5)⟩,⟨some 16,none,.e8 1 40 (.t 4) (.t 15)⟩,⟨some 17,none,.load none (.t 16)⟩,⟨some 18,none,.un .not (.t 17)⟩]
def Hy:List cB:=[⟨some 19,none,.move (.t 5)⟩,⟨some 20,none,.load none (.t 1)⟩,⟨some 21,none,.bin .neq (.t 19) (.t 20)⟩,⟨some 22,none,.move (.t 21)⟩,⟨some 23,(some (22,true)),.move (.t 0)⟩,⟨some 24,(some (22,true)),.move (.t 5)⟩,
 ⟨some 25,(some (22,true)),.ee (.t 23) [.t 24]⟩,⟨some 26,(some (22,true)),.un .not (.t 25)⟩,⟨some 27,none,.pick (.t 22) (.t 26) (.c (.bool false))⟩]
def Xe:List cB:=[⟨some 28,none,.load none (.t 2)⟩,⟨some 29,none,.move (.t 5)⟩,⟨some 30,none,.h7 12 (.t 28) (.t 29)⟩,⟨some 31,none,.fieldAddr 2 (.t 30)⟩,⟨some 32,none,.load none (.t 31)⟩,⟨some 33,none,.len false (.t 32)⟩,⟨some 34,none,.move (.c (.int .i64 0))⟩]
def Xf:List cB:=[⟨some 35,none,.bin .lss (.t 34) (.t 33)⟩]
def Xg:List cB:=[⟨some 36,none,.h7 1 (.t 32) (.t 34)⟩,⟨some 37,none,.load none (.t 36)⟩,⟨some 7,none,.move (.t 37)⟩]
def Sc:List cB:=[⟨some 38,none,.move (.t 7)⟩,⟨some 39,none,.e8 1 40 (.t 4) (.t 38)⟩,⟨none,none,.store 1 (.t 39) (.c (.bool true))⟩]
def Sd:List cB:=[⟨some 40,none,.bin .add (.t 34) (.c (.int .i64 1))⟩,⟨some 34,none,.move (.t 40)⟩]
def Xh:ad:=.seq (.region none Xf) (.seq (.cond (.t 35) .skip (.exit 2)) (.seq (.block 3 (.seq (.region none Xg) (.region none Sc))) (.region none Sd)))
def Se:ad:=.seq (.region none Xe) (.block 2 (.loop .e Xh))
def Sf:ad:=.seq (.seq (.region none Hy) (.cond (.t 27) .ret .skip)) Se
def Sg:ad:=.seq (.seq (.region none Xb) (.cond (.t 12) .skip (.exit 0))) (.seq (.block 1 (.seq (.seq (.region none Xd) (.cond (.t 18) (.exit 1) .skip)) Sf)) (.region none Xc))
def YP:ad:=.seq (.region none YO) (.seq (.region none W9) (.seq (.region none Xa) (.block 0 (.loop .e Sg))))
theorem dN{E:Env}{d:Option Nat}{op:fV}{os:List cB}{g:Nat→ae}{s s':ag}{v:ae}(h:aE E g s .ok .panic op=.ok v s'):gF E (⟨d,none,op⟩::os) g s=gF E os (ct g d v) s':=by simp only[gF,iX,fH,h,fZ]
def hQ(m:List Nat):List ae:=(List.range 40).map fun j=>.bool (m.elem j)
theorem mB(m:List Nat):(hQ m).length=40:=by simp [hQ]
theorem mC(m:List Nat){x:Nat}(h:x<40):(hQ m)[x]? =some (.bool (m.elem x)):=by simp [hQ,List.getElem?_range h]
theorem ze(m:List Nat){x:Nat}(h:x<40):dO (hQ m) x [.bool true]=hQ (x::m):=by
 apply List.ext_getElem?;intro j;by_cases da:j<40
 ·rw[gw _ _ _ (by rw[mB];simp;omega)];by_cases aZ:j=x
  ·subst aZ;rw[if_pos (by simp),mC _ da];simp
  ·rw[if_neg (by simp;omega),mC _ da,mC _ da]
   have:(x::m).elem j=m.elem j:=by simp only[List.elem_cons];rw[show(j==x)=false from by simpa using aZ]
   rw[this]
 ·rw[List.getElem?_eq_none (by rw[fs,mB];omega),List.getElem?_eq_none (by rw[mB];omega)]
structure vl (hh:ae) (l i:Nat) (k:Int) (g:Nat→ae):Prop where
 uE:g 0=.jQ l
 gZ:g 1=.bU [.int .i64 i]
 g9:g 2=.bU [hh]
 mh:g 4=.ref (.l 0) 0
 n7:g 5=.int .i64 k
structure pR (hh:ae) (l i:Nat) (g:Nat→ae):Prop where
 uE:g 0=.jQ l
 gZ:g 1=.bU [.int .i64 i]
 g9:g 2=.bU [hh]
 mh:g 4=.ref (.l 0) 0
abbrev dQ(s:ag)(m:List Nat):ag:=s.on [.cells (hQ m)]
theorem zf(s:ag)(m:List Nat){x:Nat}(h:x<40):fr j7 (dQ s m) .ok 1 (.ref (.l 0) (0+x*1)) (.bool true)=.ok .dead (dQ s (x::m)):=by have dI:(dQ s m).get (.l 0)=some (.cells (hQ m)):=rfl;simp only[fr,ae.fj,ae.cells,bM,cr,bc,hj,bA,ci,iT,dI,Nat.mul_one];have e:Nat.ble (x+1) (hQ m).length=true:=eK (by rw[mB];omega);simp only[j7,aN.not,e,ag.h8,ag.rz,Bool.true_or,bA,List.all_cons,List.all_nil,ae.eO,ci,ze m h];rfl
theorem Hz{n:Int}(ar: -2≤n)(ay:n≤100):IntKind.i64.wrap n=n:=by simp [IntKind.wrap,IntKind.bits,IntKind.signed];split<;> omega
theorem oQ(n:Nat):eD (.int .i64 (n:Int))=some n:=by simp [eD]
section
variable{s:ag}{hh:ae}{l i:Nat}{k:Int}{g:Nat→ae}{m:List Nat}
theorem p3(h:pR hh l i g)(bN:i<40):∃g',gF j7 W9 g (dQ s m)=some (g',dQ s (i::m))∧pR hh l i g':=by
 refine⟨_,(dN (v:=.int .i64 i) (s':=dQ s m) ?_).trans ((dN (v:=.ref (.l 0) (0+i*1)) (s':=dQ s m) ?_).trans ((dN (v:=.dead) (s':=dQ s (i::m)) ?_).trans rfl)),?_⟩
 ·simp only[aE,ap,h.gZ,dP,ew];rfl
 ·simp only[aE,ap,ct,h.mh,Nat.reduceEqDiff,if_false,if_true,hy,oQ];rw[show Nat.blt i 40=true from by rw[Nat.blt_eq];exact bN];rfl
 ·simp only[aE,ap,ct,if_true,ae.aq];exact zf s m bN
 ·exact⟨by simp [ct,h.uE],by simp [ct,h.gZ],by simp [ct,h.g9],by simp [ct,h.mh]⟩
theorem rF(h:pR hh l i g):∃g',gF j7 Xa g (dQ s m)=some (g',dQ s m)∧vl hh l i i g':=by
 refine⟨_,(dN (v:=.int .i64 i) (s':=dQ s m) ?_).trans ((dN (v:=.int .i64 i) (s':=dQ s m) ?_).trans rfl),?_⟩
 ·simp only[aE,ap,h.gZ,dP,ew];rfl
 ·simp only[aE,ap,ct,if_true];rfl
 ·exact⟨by simp [ct,h.uE],by simp [ct,h.gZ],by simp [ct,h.g9],by simp [ct,h.mh],by simp [ct]⟩
theorem BD(h:vl hh l i k g):∃g',gF j7 Xb g (dQ s m)=some (g',dQ s m)∧vl hh l i k g'∧g' 12=.bool (decide (k≥0)):=by
 refine⟨_,(dN (v:=.int .i64 k) (s':=dQ s m) ?_).trans ((dN (v:=.bool (decide (k≥0))) (s':=dQ s m) ?_).trans rfl),?_,?_⟩
 ·simp only[aE,ap,h.n7];rfl
 ·simp only[aE,ap,ct,if_true];rfl
 ·exact⟨by simp [ct,h.uE],by simp [ct,h.gZ],by simp [ct,h.g9],by simp [ct,h.mh],by simp [ct,h.n7]⟩
 ·simp [ct]
theorem YF(h:vl hh l i k g)(ar:0≤k)(ay:k<40):∃g',gF j7 Xc g (dQ s m)=some (g',dQ s m)∧vl hh l i (k-1) g':=by
 refine⟨_,(dN (v:=.int .i64 k) (s':=dQ s m) ?_).trans ((dN (v:=.int .i64 (k-1)) (s':=dQ s m) ?_).trans ((dN (v:=.int .i64 (k-1)) (s':=dQ s m) ?_).trans rfl)),?_⟩
 ·simp only[aE,ap,h.n7];rfl
 ·simp only[aE,ap,ct,if_true];show pQ j7 _ _ (some (.int .i64 (IntKind.i64.wrap (k-1))))=_;rw[Hz (by omega) (by omega)];rfl
 ·simp only[aE,ap,ct,if_true];rfl
 ·exact⟨by simp [ct,h.uE],by simp [ct,h.gZ],by simp [ct,h.g9],by simp [ct,h.mh],by simp [ct]⟩
theorem YG(h:vl hh l i k g){x:Nat}(c3:k=x)(aZ:x<40):∃g',gF j7 Xd g (dQ s m)=some (g',dQ s m)∧vl hh l i k g'∧g' 18=.bool (!m.elem x):=by
 subst c3;refine⟨_,(dN (v:=.int .i64 (x:Nat)) (s':=dQ s m) ?_).trans ((dN (v:=.ref (.l 0) (0+x*1)) (s':=dQ s m) ?_).trans ((dN (v:=.bool (m.elem x)) (s':=dQ s m) ?_).trans ((dN (v:=.bool (!m.elem x)) (s':=dQ s m) ?_).trans rfl))),?_,?_⟩
 ·simp only[aE,ap,h.n7];rfl
 ·simp only[aE,ap,ct,h.mh,Nat.reduceEqDiff,if_false,if_true,hy,oQ];rw[show Nat.blt x 40=true from by rw[Nat.blt_eq];exact aZ];rfl
 ·simp only[aE,ap,ct,if_true,dP,show(dQ s m).get (.l 0)=some (.cells (hQ m)) from rfl,bc,Nat.mul_one];have ar:=mC m aZ;obtain⟨e,he⟩:=ez.1 ar;rw[kk e,he];rfl
 ·simp only[aE,ap,ct,if_true];rfl
 ·exact⟨by simp [ct,h.uE],by simp [ct,h.gZ],by simp [ct,h.g9],by simp [ct,h.mh],by simp [ct,h.n7]⟩
 ·simp [ct]
end
theorem zg{es:List ae}{g2:List Nat}(h:pT es=some g2):es=g2.map fun n=>.int .i64 (n:Nat):=by
 induction es generalizing g2 with
 |nil=>simp only[pT,a8] at h;subst h;rfl
 |cons e es q=>
  unfold pT at h;split at h
  ·rename_i p;cases p
  ·rename_i n l p;cases p;split at h
   ·rename_i df;obtain⟨l',ar,ay⟩:=Option.map_eq_some_iff.1 h;subst ay;rw[fM,←q ar];simp [Int.toNat_of_nonneg df]
   ·cases h
  ·cases h
theorem B6{es:List ae}{A:List (List Nat)}(h:rC es=some A):A.length=es.length∧∀(j:Nat) (e:ae),es[j]? =some e→∃g2,A[j]? =some g2∧nr e=some g2:=by
 induction es generalizing A with
 |nil=>simp only[rC,a8] at h;subst h;exact⟨rfl,fun j e da=>by simp at da⟩
 |cons e es p=>
  simp only[rC] at h;obtain⟨g2,ar,ay⟩:=Option.bind_eq_some_iff.1 h;obtain⟨q,ch,dk⟩:=Option.map_eq_some_iff.1 ay;subst dk;obtain⟨i1,i2⟩:=p ch;refine⟨by simp [i1],fun j hJ da=>?_⟩;cases j with
  |zero=>simp at da;subst da;exact⟨g2,rfl,ar⟩
  |succ j=>exact i2 j hJ (by simpa using da)
theorem zh{e:ae}{g2:List Nat}(h:nr e=some g2):∃cs sY,e=.agg cs∧cs[2]? =some (.cm 1 (g2.map fun n=>.int .i64 (n:Nat)) sY):=by
 unfold nr at h;split at h
 ·rename_i cs;split at h
  ·rename_i es sY aW;exact⟨cs,sY,rfl,by rw[aW,zg h]⟩
  ·cases h
 ·cases h
theorem wN{sz:Nat}:∀(n:Nat) (cs:List ae) (j:Nat),j<n→(chunk sz n cs)[j]? =some (mW sz (cs.drop (j*sz)))
 |0,_,_,h=>absurd h (Nat.not_lt_zero _)
 |n+1,cs,0,_=>by simp [chunk]
 |n+1,cs,j+1,h=>by simp only[chunk,List.getElem?_cons_succ,wN n (cs.drop sz) j (by omega),List.drop_drop];rw[show sz+j*sz=(j+1)*sz by rw[eL];omega]
theorem HA{S:ag}{hh:ae}{es:List ae}{d:Nat}{κ:a5}{x:Value}(bD:ds κ d hh x)(he:dD S hh=some (12,es)){k:Nat}{e:ae}(c3:es[k]? =some e){g2:List Nat}(H:nr e=some g2):
  ∃p q sY,kd j7 S .ok 12 hh (.int .i64 (k:Nat))=.ok p S∧gv j7 S .ok 2 p=.ok q S∧dP j7 S .ok none q=.ok (.cm 1 (g2.map fun n=>.int .i64 (n:Nat)) sY) S:=by
 obtain⟨cs,sY,rfl,aW⟩:=zh H;have A:=(ez.1 c3).1;have cm:∀z h g',hh=.cm z h g'→z=12→h=es→∃p q sY,kd j7 S .ok 12 hh (.int .i64 (k:Nat))=.ok p S∧gv j7 S .ok 2 p=.ok q S∧dP j7 S .ok none q=.ok (.cm 1 (g2.map fun n=>.int .i64 (n:Nat)) sY) S:=fun z h g' ar ay ch=>by
  subst ar ay ch;refine⟨.bU cs,.bU (cs.drop 2),sY,?_,rfl,?_⟩
  ·simp only[kd,oQ,hj,ci,c3];rfl
  ·obtain⟨dk,r⟩:=ez.1 aW;simp only[dP,kk dk,r];rfl
 unfold dD at he;split at he
 ·split at he
  ·simp only[a8,eC] at he;exact cm _ _ _ rfl he.1 he.2
  ·cases he
 ·simp only[a8,eC] at he;exact cm _ _ _ rfl he.1 he.2
 ·simp at he
 ·rename_i a off len cap sz;split at he
  ·rename_i I cE;simp only at he;split at he
   ·rename_i B;simp only[a8,eC] at he;obtain⟨rfl,he⟩:=he;simp only[bm] at B;have hle:=dL B.1.2;have F:k<len:=by rw[←he,e5] at A;exact A
    have y:=c3;rw[←he,wN len _ k F] at y;have J:cs=((I.drop off).drop (k*12)).take 12:=by simp only[mW,a8,ae.agg.injEq] at y;exact y.symm
    rw[J,List.getElem?_take,if_pos (by omega),List.getElem?_drop,List.getElem?_drop] at aW;refine⟨.ref a (off+k*12),.ref a (off+k*12+2),sY,?_,rfl,?_⟩
    ·simp only[kd,oQ,hj,show Nat.blt k len=true from by rw[Nat.blt_eq];exact F,bA,ci];rfl
    ·rw[show off+(k*12+2)=off+k*12+2 by omega] at aW;obtain⟨dk,r⟩:=ez.1 aW;simp only[dP,cE,kk dk,r];rfl
   ·cases he
  ·cases he
 ·cases he
section
variable{s:ag}{hh:ae}{l i:Nat}{k:Int}{g:Nat→ae}{m:List Nat}
structure HB (hh:ae) (l i:Nat) (k:Int) (g2:List Nat) (q:Nat) (g:Nat→ae):Prop extends vl hh l i k g where
 LW:∃sY,g 32=.cm 1 (g2.map fun n=>.int .i64 (n:Nat)) sY
 HC:g 33=.int .i64 g2.length
 Gl:g 34=.int .i64 q
theorem YK(h:vl hh l i k g){x:Nat}(c3:k=x){es:List ae}{d:Nat}{κ:a5}{v:Value}(bD:ds κ d hh v)(he:dD (dQ s m) hh=some (12,es)){e:ae}(aZ:es[x]? =some e){g2:List Nat}(r:nr e=some g2):∃g',gF j7 Xe g (dQ s m)=some (g',dQ s m)∧HB hh l i k g2 0 g':=by
 subst c3;obtain⟨p,q,sY,ar,ay,ch⟩:=HA bD he aZ r;refine⟨_,(dN (v:=hh) (s':=dQ s m) ?_).trans ((dN (v:=.int .i64 (x:Nat)) (s':=dQ s m) ?_).trans ((dN (v:=p) (s':=dQ s m) ?_).trans ((dN (v:=q) (s':=dQ s m) ?_).trans ((dN (v:=.cm 1 (g2.map fun n=>.int .i64 (n:Nat)) sY) (s':=dQ s m) ?_).trans ((dN (v:=.int .i64 (g2.length:Nat)) (s':=dQ s m) ?_).trans ((dN (v:=.int .i64 0) (s':=dQ s m) ?_).trans rfl)))))),?_⟩
 ·simp only[aE,ap,h.g9,dP,ew];rfl
 ·simp only[aE,ap,ct,h.n7,Nat.reduceEqDiff,if_false];rfl
 ·simp only[aE,ap,ct,Nat.reduceEqDiff,if_false,if_true];exact ar
 ·simp only[aE,ap,ct,if_true];exact ay
 ·simp only[aE,ap,ct,if_true];exact ch
 ·simp only[aE,ap,ct,if_true,o0,ht];rfl
 ·simp only[aE,ap];rfl
 ·exact⟨⟨by simp [ct,h.uE],by simp [ct,h.gZ],by simp [ct,h.g9],by simp [ct,h.mh],by simp [ct,h.n7]⟩,⟨sY,by simp [ct]⟩,by simp [ct],by simp [ct]⟩
theorem W6{g2:List Nat}{q:Nat}(h:HB hh l i k g2 q g):∃g',gF j7 Xf g (dQ s m)=some (g',dQ s m)∧HB hh l i k g2 q g'∧g' 35=.bool (decide (q<g2.length)):=by
 refine⟨_,(dN (v:=.bool (decide ((q:Int)<g2.length))) (s':=dQ s m) ?_).trans rfl,?_,?_⟩
 ·simp only[aE,ap,h.HC,h.Gl];rfl
 ·obtain⟨sY,e⟩:=h.LW;exact⟨⟨by simp [ct,h.uE],by simp [ct,h.gZ],by simp [ct,h.g9],by simp [ct,h.mh],by simp [ct,h.n7]⟩,⟨sY,by simp [ct,e]⟩,by simp [ct,h.HC],by simp [ct,h.Gl]⟩
 ·simp [ct]
theorem YQ{g2:List Nat}{q x:Nat}(h:HB hh l i k g2 q g)(aZ:g2[q]? =some x):∃g',gF j7 Xg g (dQ s m)=some (g',dQ s m)∧HB hh l i k g2 q g'∧g' 7=.int .i64 x:=by
 obtain⟨sY,e⟩:=h.LW;refine⟨_,(dN (v:=.bU [.int .i64 x]) (s':=dQ s m) ?_).trans ((dN (v:=.int .i64 x) (s':=dQ s m) ?_).trans ((dN (v:=.int .i64 x) (s':=dQ s m) ?_).trans rfl)),?_,?_⟩
 ·simp only[aE,ap,e,h.Gl,kd,oQ,hj,ci,iy,aZ,eb];rfl
 ·simp only[aE,ap,ct,if_true,dP,ew];rfl
 ·simp only[aE,ap,ct,if_true];rfl
 ·exact⟨⟨by simp [ct,h.uE],by simp [ct,h.gZ],by simp [ct,h.g9],by simp [ct,h.mh],by simp [ct,h.n7]⟩,⟨sY,by simp [ct,e]⟩,by simp [ct,h.HC],by simp [ct,h.Gl]⟩
 ·simp [ct]
theorem YR{g2:List Nat}{q x:Nat}(h:HB hh l i k g2 q g)(e:g 7=.int .i64 x)(aZ:x<40):∃g',gF j7 Sc g (dQ s m)=some (g',dQ s (x::m))∧HB hh l i k g2 q g':=by
 obtain⟨sY,p⟩:=h.LW;refine⟨_,(dN (v:=.int .i64 x) (s':=dQ s m) ?_).trans ((dN (v:=.ref (.l 0) (0+x*1)) (s':=dQ s m) ?_).trans ((dN (v:=.dead) (s':=dQ s (x::m)) ?_).trans rfl)),?_⟩
 ·simp only[aE,ap,e];rfl
 ·simp only[aE,ap,ct,h.mh,Nat.reduceEqDiff,if_false,if_true,hy,oQ];rw[show Nat.blt x 40=true from by rw[Nat.blt_eq];exact aZ];rfl
 ·simp only[aE,ap,ct,if_true,ae.aq];exact zf s m aZ
 ·exact⟨⟨by simp [ct,h.uE],by simp [ct,h.gZ],by simp [ct,h.g9],by simp [ct,h.mh],by simp [ct,h.n7]⟩,⟨sY,by simp [ct,p]⟩,by simp [ct,h.HC],by simp [ct,h.Gl]⟩
theorem YS{g2:List Nat}{q:Nat}(h:HB hh l i k g2 q g)(f8:(q:Int)+1≤9223372036854775807):∃g',gF j7 Sd g (dQ s m)=some (g',dQ s m)∧HB hh l i k g2 (q+1) g':=by
 obtain⟨sY,e⟩:=h.LW;have hw:IntKind.i64.wrap ((q:Int)+1)=((q+1:Nat):Int):=by simp [IntKind.wrap,IntKind.bits,IntKind.signed];split<;> omega
 refine⟨_,(dN (v:=.int .i64 ((q+1:Nat):Int)) (s':=dQ s m) ?_).trans ((dN (v:=.int .i64 ((q+1:Nat):Int)) (s':=dQ s m) ?_).trans rfl),?_⟩
 ·simp only[aE,ap,h.Gl];show pQ j7 _ _ (some (.int .i64 (IntKind.i64.wrap ((q:Int)+1))))=_;rw[hw];rfl
 ·simp only[aE,ap,ct,if_true];rfl
 ·exact⟨⟨by simp [ct,h.uE],by simp [ct,h.gZ],by simp [ct,h.g9],by simp [ct,h.mh],by simp [ct,h.n7]⟩,⟨sY,by simp [ct,e]⟩,by simp [ct,h.HC],by simp [ct]⟩
end
section
variable{P:Program}{T:ki}(eu:T.oO P){s:ag}{hh:ae}{l i:Nat}{k:Int}{B:Nat}
include eu
theorem B7{c:Code}(M:dd T 41 false (.loop .e Xh) c=true){g2:List Nat}(N:∀x,x∈g2→x<40)(hlen:g2.length<9223372036854775807){κ:a5}{w:World}{g:Nat→ae}{a:Act}{m:List Nat}(h:fm κ (dQ s m) w g a 41 B j7.au)(cE:HB hh l i k g2 0 g):
  c.wpIn (vH none) 0 P (fun e fz w'=>e=.exit 2∧∃κ' g' iS,e0 κ (dQ s m) w κ' (dQ s iS) w'∧fm κ' (dQ s iS) w' g' fz 41 B j7.au∧vl hh l i k g'∧∀x,iS.elem x=(g2++m).elem x) a w:=by
 obtain⟨dY,rfl,ar⟩:=qL M;obtain⟨aE,aF,rfl,O,ay⟩:=e2 ar;obtain⟨aG,aH,rfl,U⟩:=fY O;obtain⟨aI,aJ,rfl,V,ch⟩:=e2 ay;obtain⟨aK,aL,ce,rfl,B2,Y,Z⟩:=lC V;obtain rfl:=nJ Z;obtain⟨aM,aN,rfl,y,aa⟩:=e2 ch;obtain⟨aO,rfl,y⟩:=kR y;obtain⟨aP,aQ,rfl,ab,ac⟩:=e2 y;obtain⟨aR,aS,rfl,ad⟩:=fY ab;obtain⟨aT,aU,rfl,af⟩:=fY ac;obtain⟨aV,aW,rfl,ag⟩:=fY aa;refine oe (fun n fz w'=>∃κ' g' q iS,n=g2.length-q∧q≤g2.length∧e0 κ (dQ s m) w κ' (dQ s iS) w'∧fm κ' (dQ s iS) w' g' fz 41 B j7.au∧HB hh l i k g2 q g'∧∀x,iS.elem x=(g2.take q++m).elem x) (fun n fz w' ah=>?_) (n:=g2.length) ⟨κ,g,0,m,rfl,Nat.zero_le _,.refl _ _ _,h,cE,fun x=>rfl⟩;obtain⟨aX,gZ,q,zb,df,f8,A,ai,aj,F⟩:=ah;obtain⟨g9,ak,H,I⟩:=W6 (s:=s) (m:=zb) aj;refine wpIn_seq (ih eu U ai ak fun al aY a0 J r=>?_);refine wpIn_seq ?_;by_cases p:q<g2.length
 ·refine wpIn_cond_true (i6 B2 r (b:=true) (by show g9 35=_;rw[I];simp [p])) (nc Y ?_);have aZ:g2[q]? =some g2[q]:=fB p;obtain⟨a1,am,an,ao⟩:=YQ (s:=s) (m:=zb) H aZ;refine wpIn_seq (wpIn_block (wpIn_seq (ih eu ad r am fun a2 a3 a4 ap aq=>?_)));obtain⟨mh,as,av⟩:=YR (s:=s) (m:=zb) an ao (N _ (w3 p));refine ih eu af aq as fun a6 a7 a8 aw ax=>?_
  obtain⟨n7,az,aA⟩:=YS (s:=s) (m:=g2[q]::zb) av (by omega);refine ih eu ag ax az fun aB a9 ba aC aD=>?_
  refine⟨g2.length-(q+1),by omega,aB,n7,q+1,g2[q]::zb,rfl,p,(((A.trans J).trans ap).trans aw).trans aC,aD,aA,fun x=>?_⟩;rw[List.take_succ_eq_append_getElem p]
  have:=F x;simp only[List.elem_eq_mem,List.mem_cons,List.mem_append,ps,or_false,decide_eq_decide] at this ⊢;rw[this];constructor
  ·rintro (h|h|h)
   ·exact .inl (.inr h)
   ·exact .inl (.inl h)
   ·exact .inr h
  ·rintro ((h|h)|h)
   ·exact .inr (.inl h)
   ·exact .inl h
   ·exact .inr (.inr h)
 ·refine wpIn_cond_false (i6 B2 r (b:=false) (by show g9 35=_;rw[I];simp [p])) (wpIn_exit ?_);refine⟨rfl,al,g9,zb,A.trans J,r,H.1,fun x=>?_⟩;rw[F x,jC (by omega)]
theorem HD{c:Code}(p:dd T 41 false Se c=true){es:List ae}{g2:List Nat}{x:Nat}{e:ae}(c3:k=x)(q:∀x,x∈g2→x<40)(hlen:g2.length<9223372036854775807){κ:a5}{w:World}{g:Nat→ae}{a:Act}{m:List Nat}(h:fm κ (dQ s m) w g a 41 B j7.au)(cE:vl hh l i k g)
  {d:Nat}{r:a5}{v:Value}(bD:ds r d hh v)(he:dD (dQ s m) hh=some (12,es))(aZ:es[x]? =some e)(y:nr e=some g2):
  c.wpIn (vH none) 0 P (fun e fz w'=>e=.normal∧∃κ' g' iS,e0 κ (dQ s m) w κ' (dQ s iS) w'∧fm κ' (dQ s iS) w' g' fz 41 B j7.au∧vl hh l i k g'∧∀x,iS.elem x=(g2++m).elem x) a w:=by
 obtain⟨Y,Z,rfl,A,ar⟩:=e2 p;obtain⟨aa,ab,rfl,F⟩:=fY A;obtain⟨ac,rfl,ay⟩:=kR ar;obtain⟨g9,H,I⟩:=YK (s:=s) (m:=m) cE c3 bD he aZ y;refine wpIn_seq (ih eu F h H fun ad af ag J M=>?_);refine wpIn_block (wpIn_mono (B7 eu ay q hlen M I) ?_)
 rintro e fz w' ⟨rfl,κ',g',iS,N,O,U,V⟩
 exact⟨rfl,κ',g',iS,J.trans N,O,U,V⟩
end
theorem fm.Xi{κ κ':a5}{s s':ag}{w w':World}{g:Nat→ae}{a:Act}{fy B l:Nat}{G:Nat→ae}(h:fm κ s w g a fy B G)(he:g3 l κ s w κ' s' w')(bO:l<B)(aV:cL κ' s' w'){v:ae}{x:Value}(aZ:ds κ' (s.aa+1) (v.aq s.aa) x){d e3:Option Nat}(cF:mQ fy d e3=true):fm κ' s' w' (ct g d v) (a.put e3 x) fy B G:=by
 have bI:vj κ' s' g a:=fun t=>by have:=(h.an t).mono he.k;rw[he.aa];exact this
 have q:Marks B w' a.defers:=by obtain⟨eU,nT,ar,ay,ch⟩:=h.defers;refine⟨Nat.le_trans eU he.size,nT,ar,ay,fun D p=>⟨(ch D p).1,?_⟩⟩;have dk:=(ch D p).2;rw[he.kq D (Array.getElem?_eq_some_iff.1 dk).1 (by have:=(ch D p).1;omega) (h.iq.wu dk)];exact dk
 cases d with
 |none=>
  cases e3 with
  |none=>exact⟨aV,bI,q,h.size,h.au.mono he.k⟩
  |some b=>simp [mQ] at cF
 |some n=>
  cases e3 with
  |none=>simp [mQ] at cF
  |some b=>
   simp only[mQ,bm] at cF;have e:=c4 cF.1;subst e;have df:n<a.tmps.size:=by rw[h.size];have:=cF.2;rw[Nat.blt_eq] at this;exact this
   refine⟨aV,fun t=>?_,q,by simp [Act.put,h.size],h.au.mono he.k⟩;simp only[ct];by_cases d6:t=n
   ·subst d6;rw[if_pos rfl,he.aa];simp only[Act.put,Array.getD_eq_getD_getElem?,Array.getElem?_setIfInBounds_self_of_lt df,Option.getD_some];exact aZ
   ·rw[if_neg d6]
    have:=bI t;simp only[Act.put,Array.getD_eq_getD_getElem?,Array.getElem?_setIfInBounds_ne (Ne.symm d6)] at this ⊢;exact this
structure we (ib:a5) (hl:ag) (i7:World) (κ:a5) (s:ag) (w:World):Prop where
 ext:e0 ib hl i7 κ s w
 loc:i7.heap.size≤κ.loc (s.aa+1) 0
section
variable{ib:a5}{hl:ag}{i7:World}{κ κ':a5}{s s':ag}{w w':World}{m iS:List Nat}{l:Nat}
theorem we.own(h:we ib hl i7 κ s w):∀i x b,([cO.cells (hQ m)]:List cO)[i]? =some x→aT κ (s.aa+1) i x=some b→i7.heap.size≤b:=fun i x b aZ e=>by
 cases i with
 |zero=>simp only[List.getElem?_cons_zero,a8] at aZ;subst aZ;simp only[aT,a8] at e;exact e ▸ h.loc
 |succ i=>simp at aZ
theorem we.Xj(h:we ib hl i7 κ s w)(aV:cL κ (dQ s m) w)(he:f6 κ κ' ((dQ s m).aa+1))(cF:s'.aa=s.aa):i7.heap.size≤κ'.loc (s'.aa+1) 0:=by rw[cF,he.loc (s.aa+1) 0 (by rw[ag.gG];omega) (aV.mn (d:=s.aa+1) (i:=0) (o:=.cells (hQ m)) (by rw[ag.j6,if_pos rfl];rfl))];exact h.loc
theorem we.step(h:we ib hl i7 κ s w)(aV:cL κ (dQ s m) w)(he:e0 κ (dQ s m) w κ' (dQ s' iS) w'):we ib hl i7 κ' s' w':=
 ⟨(g3.under (l:=i7.heap.size) h.ext.x he.x h.own).qw (aC _),h.Xj aV he.k (by have:=he.aa;rw[ag.gG,ag.gG] at this;omega)⟩
theorem we.m7(h:we ib hl i7 κ s w)(bO:l<i7.heap.size)(df:¬Live ib hl l):¬Live κ (dQ s m) l:=fun e=>by
 rcases e.on with ar|⟨i,x,ar,ay⟩
 ·exact df (h.ext.live l bO ar)
 ·exact absurd (h.own (m:=m) i x l ar ay) (by omega)
end
theorem l9(A:Nat→List Nat)(i:Nat):∀(n:Nat) (m iS:List Nat),(∀x,m.elem x=iS.elem x)→fD A i n m=fD A i n iS
 |0,_,_,_=>rfl
 |n+1,m,iS,h=>by
  have ay:∀x,(A n++m).elem x=(A n++iS).elem x:=fun x=>by have:=h x;simp only[List.elem_eq_mem,List.mem_append,decide_eq_decide] at this ⊢;rw[this]
  simp only[fD,h n,l9 A i n _ _ h,l9 A i n _ _ ay]
theorem xL{cs e:List ae}(h:ae.k7 cs e=true):cs=e:=(ae.iU cs e).1 h
theorem zi{κ:a5}{hl s:ag}{hh:ae}{D:Nat}{x:Value}(bD:ds κ D hh x)(p:D≤s.aa+1)(h:fE hl s (.bU [hh])=true)(o:List cO)(he:(dD hl hh).isSome=true):dD (s.on o) hh=dD hl hh:=by
 cases hh<;> try rfl
 case cm sz es g=>cases g<;> rfl
 case cD a off len cap sz=>
  cases a with
  |l i=>cases bD
  |g d i=>
   obtain⟨lh,e,cF,bN,_⟩:=ds.jq bD;have ar:(s.on o).get (.g d i)=s.get (.g d i):=by rw[ag.j6,if_neg (by omega)]
   simp only[fE] at h;split at h
   ·rename_i cs q ay ch
    have:=xL h;subst this;simp only[dD,ar,ay,ch]
   ·cases h
theorem zj{s:ag}{dw xs:List ae}(h:pU s 0 dw=some xs):∃(i:Nat) (hh:ae) (es:List ae) (A:List (List Nat)),dw=[.bU [.int .i64 i],.bU [hh]]∧dD s hh=some (12,es)∧rC es=some A∧i<es.length∧es.length≤40∧(∀g2,g2∈A→g2.length≤1000∧∀x,x∈g2→x<es.length)∧xs=(fD (A.getD · []) i (i+1) [i]).map fun k=>.int .i64 (k:Nat):=by
 unfold pU at h;split at h
 ·rename_i i hh _;obtain⟨p,ar,ay⟩:=Option.bind_eq_some_iff.1 h;obtain⟨z,es⟩:=p;cases hr:Nat.beq z 12 with
  |false=>rw[hr] at ay;cases ay
  |true=>
   rw[hr] at ay;simp only[ci] at ay
   have:=c4 hr;subst this;unfold yz at ay;split at ay
   ·rename_i A r;cases e:(decide (0≤i)&&Nat.blt i.toNat es.length&&Nat.ble es.length 40&&A.all (fun l=>Nat.ble l.length 1000&&l.all (Nat.blt · es.length))) with
    |false=>rw[e] at ay;cases ay
    |true=>rw[e] at ay;simp only[ci,a8] at ay;simp only[bm,cj,List.all_eq_true,Nat.blt_eq] at e;refine⟨i.toNat,hh,es,A,by rw[Int.toNat_of_nonneg e.1.1.1],ar,r,e.1.1.2,dL e.1.2,fun g2 q=>⟨dL (e.2 g2 q).1,(e.2 g2 q).2⟩,ay.symm⟩
   ·cases ay
 ·cases h
theorem Live.mono{κ κ':a5}{s:ag}{w:World}(aV:cL κ s w)(c3:f6 κ κ' (s.aa+1)){b:Nat}(h:Live κ s b):Live κ' s b:=by
 obtain⟨d,i,o,ar,ay⟩:=h;have cF:d<s.aa+1:=by have:=ag.fR ar;omega
 have bN:=aV.mn ar;refine⟨d,i,o,ar,?_⟩;cases o with
 |cells cs=>simp only[aT] at ay ⊢;rw[c3.loc d i cF bN];exact ay
 |map es=>simp only[aT] at ay ⊢;rw[c3.loc d i cF bN];exact ay
 |gone=>cases ay
 |tok n=>simp only[aT] at ay ⊢;obtain⟨x,ch,dk⟩:=Option.map_eq_some_iff.1 ay;rw[c3.kL d i n x cF bN ch];simp [dk]
theorem cL.Gm{κ:a5}{s:ag}{w:World}(aV:cL κ s w):∃κ',cL κ' s.push w∧f6 κ κ' (s.aa+1)∧e0 κ s w κ' s w:=by obtain⟨κ',ar,ay,ch,dk⟩:=aV.push;refine⟨κ',ar,ay,ay,rfl,aC _,rfl,rfl,rfl,fun _ _ _=>rfl,fun b _ ⟨d,i,o,gZ,g9⟩=>⟨d,i,o,gZ,by rw[←dk d i o gZ];exact g9⟩,fun a e=>.inl (by rw[ch] at e;exact e)⟩
def qM(J:Nat→ag→Prop)(e:ag→Option Obj→Prop)(N l:Nat)(ib:a5)(hl:ag)(i7 w':World):Prop:=(∃κ' s',e0 ib hl i7 κ' s' w'∧cL κ' s' w'∧J N s')∨∃κ' s',g3 l ib hl i7 κ' s' w'∧cL κ' s' w'∧e s' w'.heap[l]?
theorem qM.shut{J:Nat→ag→Prop}{r:ag→Option Obj→Prop}{N l:Nat}{ib:a5}{hl:ag}{i7 w' p:World}{nT:List Nat}(h:qM J r N l ib hl i7 w')(bO:l<i7.heap.size)(q:∀D,D∈nT→i7.heap.size≤D)(cF:∀D,D∈nT→w'.heap[D]? =some (.deferred (some [])))(hw:DI nT w' p):qM J r N l ib hl i7 p:=by
 have iq:∀{κ s},cL κ s w'→cL κ s p:=fun aV=>aV.heap fun b o ar ay=>by rw[hw.same b,ar];intro hm;rw[cF b hm] at ar;cases ar;rcases ay with⟨C,e,ix,ay⟩|⟨eZ,clock,ay⟩<;> cases ay
 rcases h with⟨κ',s',ar,ay,ch⟩|⟨κ',s',ar,ay,ch⟩
 ·exact .inl ⟨κ',s',ar.shut q hw,iq ay,ch⟩
 ·refine .inr ⟨κ',s',⟨ar.k,ar.aa,by rw[hw.size];exact ar.size,hw.os.trans ar.os,hw.tape.trans ar.tape,hw.output.trans ar.output,fun b y df bO=>?_,ar.live,ar.nX⟩,iq ay,?_⟩
  ·rw[hw.same b (fun hm=>by have:=q b hm;omega)];exact ar.kq b y df bO
  ·rw[hw.same l (fun hm=>by have:=q l hm;omega)];exact ch
section
variable{P:Program}{T:ki}(eu:T.oO P)
include eu
theorem B8{id:Nat}{r:Array Oper}(aU:iM T 41 r Hy r.toList=true){ib:a5}{hl:ag}{i7:World}{l:Nat}(bO:l<i7.heap.size)(aH:¬Live ib hl l){hh:ae}{i x:Nat}(bB:x≠i)
  {κ:a5}{s:ag}{w:World}{m:List Nat}{g:Nat→ae}{a:Act}(aV:we ib hl i7 κ s w)(h:fm κ (dQ s m) w g a 41 i7.heap.size j7.au)(cE:vl hh l i x g)
  {Rt:ag→Prop}{Rf:ag→Option Obj→Prop}
  (aX:∀(κ':a5) (w':World) (A:Value),we ib hl i7 κ' s w'→cL κ' s w'→ds κ' (s.aa+1) (.int .i64 x) A→YieldAt Fence.wide 0 P l #[A] w' fun e ac=>(e=.returned (.bool true)∧∃ad O,e0 κ' s w' ad O ac∧cL ad O ac∧Rt O)∨(e=.returned (.bool false)∧∃ad O,g3 l κ' s w' ad O ac∧cL ad O ac∧Rf O ac.heap[l]?))
  {Q:Exit→Act→World→Prop}
  (aY:∀κ' s' w' g' fz,we ib hl i7 κ' s' w'→fm κ' (dQ s' m) w' g' fz 41 i7.heap.size j7.au→vl hh l i x g'→g' 27=.bool false→Rt s'→Q .normal fz w')
  (aZ:∀κ' s' w' g' fz,g3 l ib hl i7 κ' s' w'→fm κ' (dQ s' m) w' g' fz 41 i7.heap.size j7.au→g' 27=.bool true→Rf s' w'.heap[l]?→Q .normal fz w'):
  (Code.region id r false).wpIn (vH none) 0 P Q a w:=by
 obtain⟨hlen,a0⟩:=hX aU;have eF:r.size=9:=by rw[←Array.length_toList,←hlen];rfl
 have op:∀j B,Hy[j]? =some B→∃o,r[j]? =some o∧nB T 41 r B o=true:=fun j B da=>by
  have aI:j<r.size:=by rw[eF];exact(ez.1 da).1
  exact⟨r[j],Array.getElem?_eq_getElem aI,a0 j B _ da (by simp [aI])⟩
 have one:∀{j:Nat} {B:cB} {κ:a5} {S S':ag} {w:World} {g:Nat→ae} {a:Act} {v:ae} {K:Act→World→Prop},Hy[j]? =some B→fm κ S w g a 41 i7.heap.size j7.au→iX j7 B g S=some (v,S')→
   (∀κ' w' fz,e0 κ S w κ' S' w'→fm κ' S' w' (ct g B.dst v) fz 41 i7.heap.size j7.au→K fz w')→wpOpIn (vH none) 0 P r Q j K a w:=fun {j B κ S S' w g a v K} da aJ he av=>by
  obtain⟨o,ar,ay⟩:=op j B da;exact od eu rfl (Hx P) aJ ar ay he av
 have nY:∀{d:Option Nat} {o:fV} {g:Nat→ae} {S S':ag} {v:ae},aE j7 g S .ok .panic o=.ok v S'→iX j7 ⟨d,none,o⟩ g S=some (v,S'):=fun h=>by simp only[iX,fH,h]
 have dI:∀{d:Option Nat} {o:fV} {g:Nat→ae} {S S':ag} {v:ae},g 22=.bool true→aE j7 g S .ok .panic o=.ok v S'→iX j7 ⟨d,some (22,true),o⟩ g S=some (v,S'):=fun a1 h=>by simp only[iX,fH,a1,beq_self_eq_true,h]
 refine wpIn_region ?_;rw[eF,show List.range 9=[0,1,2,3,4,5,6,7,8] from rfl];rw[wpOpsIn_cons];refine one rfl h (nY (v:=.int .i64 x) (S':=dQ s m) (by simp only[aE,ap,cE.n7];rfl)) fun bC bD dR a2 a3=>?_
 rw[wpOpsIn_cons];refine one rfl a3 (nY (v:=.int .i64 i) (S':=dQ s m) (by simp only[aE,ap,ct,cE.gZ,Nat.reduceEqDiff,if_false,dP,ew];rfl)) fun bE bF bG a4 a6=>?_
 rw[wpOpsIn_cons];refine one rfl a6 (nY (v:=.bool true) (S':=dQ s m) (by simp only[aE,ap,ct,Nat.reduceEqDiff,if_false,if_true];show pQ j7 _ _ (some (.bool ((x:Int) != i)))=_;rw[show((x:Int) != i)=true from by simp;omega];rfl)) fun bH bI bJ a7 a9=>?_
 rw[wpOpsIn_cons];refine one rfl a9 (nY (v:=.bool true) (S':=dQ s m) (by simp only[aE,ap,ct,if_true];rfl)) fun bK bL bM ba bb=>?_
 rw[wpOpsIn_cons];refine one rfl bb (dI (v:=.jQ l) (S':=dQ s m) (by simp [ct]) (by simp only[aE,ap,ct,cE.uE,Nat.reduceEqDiff,if_false];rfl)) fun bN bP bQ bc bd=>?_
 rw[wpOpsIn_cons];refine one rfl bd (dI (v:=.int .i64 x) (S':=dQ s m) (by simp [ct]) (by simp only[aE,ap,ct,cE.n7,Nat.reduceEqDiff,if_false];rfl)) fun U af I be q=>?_
 rw[wpOpsIn_cons];have he:=(((((a2.trans a4).trans a7).trans ba).trans bc).trans be);have J:we ib hl i7 U s af:=aV.step h.iq he;obtain⟨F,V⟩:∃F,F=ct (ct (ct (ct (ct (ct g (some 19) (.int .i64 x)) (some 20) (.int .i64 i)) (some 21) (.bool true)) (some 22) (.bool true)) (some 23) (.jQ l)) (some 24) (.int .i64 x):=⟨_,rfl⟩;have q:fm U (dQ s m) af F I 41 i7.heap.size j7.au:=by rw[V];exact q
 have ah:vl hh l i x F:=by rw[V];exact⟨by simp [ct,cE.uE],by simp [ct,cE.gZ],by simp [ct,cE.g9],by simp [ct,cE.mh],by simp [ct,cE.n7]⟩
 have aw:F 22=.bool true:=by rw[V];simp [ct]
 have bf:F 23=.jQ l:=by rw[V];simp [ct]
 have bg:F 24=.int .i64 x:=by rw[V];simp [ct]
 clear V;obtain⟨o,bh,aK⟩:=op 6 _ rfl;simp only[nB,bm] at aK;obtain⟨⟨aL,bi⟩,M⟩:=aK;unfold wpOpIn;simp only[bh];rw[q.wanted bi (b:=true) (by simp only[fH,aw,beq_self_eq_true])];simp only[↓reduceIte];refine⟨fun _ _=>trivial,?_⟩;simp only[en] at M;split at M
 ·rename_i ax bj;split at M
  ·rename_i y fb;simp only[bm] at M;have az:=bk q.an q.au M.1;have aA:=h9 q.an q.au _ _ M.2;rw[show ap j7.au F (.t 23)=.jQ l from bf] at az;simp only[fM,List.map_nil,show ap j7.au F (.t 24)=.int .i64 x from bg] at aA;have bl:I.eval y=.func (.yield l) #[] #[]:=by
    generalize I.eval y=z at az;cases az;rfl
   obtain⟨A,aM⟩:∃A,ax.args.toList.map I.eval=[A]:=List.length_eq_one_iff.1 (by rw[aA.1];rfl);have bn:ds U (s.aa+1) (.int .i64 x) A:=by have:=aA.2 0 _ A rfl (by rw[aM];rfl);rw[ds.ef (k:=.i64) (n:=x) this];exact .int _ _
   have bo:ax.args.map I.eval= #[A]:=by apply Array.ext';rw[Array.toList_map,aM]
   have hex:execOp I.eval o=Instr.yield l #[A]:=by have:=zd (ty:=o.type) (ρ:=I.eval) (c:=ax) (l:=l) ⟨y,fb,bl⟩ o.dst o.pos o.after o.guard;rw[bo] at this;rw[←this,←bj]
   obtain⟨fn,tmps,assign,body,bp,aN⟩:=aX U af A J q.iq.off bn;show o.uponIn (vH none) 0 P I _ Q ((execOp I.eval o).run P af);rw[hex,bp,Oper.uponIn_round];refine⟨fun ai=>(by cases ai),?_⟩;have rest:∀(b:Bool) (aj:a5) (p:ag) (H:World) (aB:Act),fm aj (dQ p m) H (ct F (some 25) (.bool b)) aB 41 i7.heap.size j7.au→
     (∀κ' w' g' fz,e0 aj (dQ p m) H κ' (dQ p m) w'→fm κ' (dQ p m) w' g' fz 41 i7.heap.size j7.au→vl hh l i x g'→g' 27=.bool (!b)→Q .normal fz w')→wpOpsIn (vH none) 0 P r Q [7,8] aB H:=fun b aj p H aB bq av=>by
    rw[wpOpsIn_cons];refine one rfl bq (dI (v:=.bool (!b)) (S':=dQ p m) (by simp [ct,aw]) (by simp only[aE,ap,ct,if_true];rfl)) fun N bR bS br bs=>?_
    rw[wpOpsIn_cons];refine one rfl bs (nY (v:=.bool (!b)) (S':=dQ p m) (by simp only[aE,ap,ct,aw,Nat.reduceEqDiff,if_false,if_true,mK,ci];rfl)) fun Y Z ak ab al=>?_
    exact av Y Z _ ak (br.trans ab) al ⟨by simp [ct,ah.uE],by simp [ct,ah.gZ],by simp [ct,ah.g9],by simp [ct,ah.mh],by simp [ct,ah.n7]⟩ (by simp [ct])
   have aO:∀(gX:Nat) (z:cO),([cO.cells (hQ m)]:List cO)[gX]? =some z→aT U (s.aa+1) gX z≠some l:=fun gX z hr ao=>by have:=J.own gX z l hr ao;omega
   refine⟨aN.1,fun c cs bt=>?_⟩;obtain⟨e,H,bu,aW⟩:=aN.2 c cs bt;refine⟨e,H,?_,aW⟩;rcases bu with⟨rfl,aj,p,aq,aC,bv⟩|⟨rfl,aj,p,aq,aC,bw⟩
   ·obtain⟨N,as,am,aP⟩:=q.iq.lay aq.x aC aO;have aQ:e0 U (dQ s m) af N (dQ p m) H:=am.ext (aq.kq l (fL bO J.ext.size) fun ai=>aH (J.ext.live l bO ai));refine rest true N p H _ (q.put aQ as (.bool true) aL) fun Y Z aD ak ab al aR aF=>?_
    exact aY Y p Z aD ak ((J.step q.iq aQ).step as ab) al aR aF bv
   ·obtain⟨N,as,am,aP⟩:=q.iq.lay aq aC aO;refine rest false N p H _ (q.Xi am bO as (.bool false) aL) fun Y Z aD ak ab al aR aF=>?_
    have aG:g3 l ib hl i7 N p H:=g3.under J.ext.x am J.own;have bx:p.aa=s.aa:=by have:=am.aa;rw[ag.gG,ag.gG] at this;omega
    have aS:∀gX z b,([cO.cells (hQ m)]:List cO)[gX]? =some z→aT N (p.aa+1) gX z=some b→i7.heap.size≤b:=fun gX z b hr ao=>by
     cases gX with
     |zero=>simp only[List.getElem?_cons_zero,a8] at hr;subst hr;simp only[aT,a8] at ao;rw[←ao,bx,aP 0];exact J.loc
     |succ gX=>simp at hr
    have bz:g3 l ib hl i7 Y p Z:=g3.under aG ab.x aS;refine aZ Y p Z aD ak bz al aF ?_;have bA:¬Live N (dQ p m) l:=fun ai=>by
     rcases ai.on with ar|⟨gX,z,ar,ay⟩
     ·exact aH (aG.live l bO ar)
     ·have:=aS gX z l ar ay;omega
    rw[ab.kq l (fL bO aG.size) bA];exact bw
  ·cases M
 ·cases M
end
theorem Xk(a b c:Value)(X:Array Value):((#[a]++[b,c].toArray)++X).getD 0 undef=a∧((#[a]++[b,c].toArray)++X).getD 1 undef=b∧((#[a]++[b,c].toArray)++X).getD 2 undef=c:=by refine⟨?_,?_,?_⟩<;> (rw[Array.getD_eq_getD_getElem?,Array.getElem?_append_left (by simp)];rfl)
theorem Gn{P:Program}{T:ki}(eu:T.oO P){f:Nat}{fn:Func}{c:Code}(bg:P.funcs[f]? =some fn)(aO:fn.body=some c)(bl:(fn.name== "runtime.NumGoroutine")=false)(bn:fn.results= #[])(bo:fn.ntmps=41)(aP:dd T 41 false YP c=true):yP P f 0:=by
 refine⟨⟨fn,bg,by simp [aO],bl⟩,?_⟩;intro dw xs ib hl i7 di l bp bq aA bO br dg J Y bs bt;obtain⟨i,hh,es,A,rfl,iJ,bu,bN,dh,aQ,fG⟩:=zj bp;obtain⟨dj,bv⟩:=B6 bu;unfold YP at aP;obtain⟨li,ru,rfl,bw,ar⟩:=e2 aP;obtain⟨dl,Hb,rfl,bx⟩:=fY bw;obtain⟨cg,pI,rfl,bz,ay⟩:=e2 ar;obtain⟨dm,gR,rfl,bA⟩:=fY bz;obtain⟨dn,dp,rfl,bB,ch⟩:=e2 ay;obtain⟨dq,dr,rfl,bC⟩:=fY bB;obtain⟨dt,rfl,dk⟩:=kR ch;obtain⟨du,rfl,aR⟩:=qL dk;unfold Sg at aR;obtain⟨dv,dx,rfl,bE,bF⟩:=e2 aR;obtain⟨dy,dz,rfl,bG,bH⟩:=e2 bE;obtain⟨dA,dB,rfl,bI⟩:=fY bG;obtain⟨dC,t3,dE,rfl,aS,bJ,bK⟩:=lC bH;obtain rfl:=nJ bK;obtain⟨dF,dG,rfl,bL,bM⟩:=e2 bF;obtain⟨aT,aU,rfl,bP⟩:=fY bM;obtain⟨jA,rfl,bQ⟩:=kR bL;obtain⟨dH,dI,rfl,bR,aW⟩:=e2 bQ;obtain⟨dJ,dK,rfl,bS,bT⟩:=e2 bR;obtain⟨dL,dM,rfl,bW⟩:=fY bS;obtain⟨dO,t5,dS,rfl,aX,bX,bY⟩:=lC bT;obtain rfl:=nJ bX;unfold Sf at aW;obtain⟨dT,bZ,rfl,b0,b1⟩:=e2 aW;obtain⟨dU,dV,rfl,b2,b3⟩:=e2 b0;obtain⟨dW,dX,rfl,aY⟩:=fY b2;obtain⟨dY,t6,dZ,rfl,aB,b4,aZ⟩:=lC b3;obtain rfl:=zc b4;refine CallsIn.mono (R:=fun e w'=>(∃v,e=.returned v)∧qM J Y xs.length l ib hl i7 w') ?_ (fun e w' h=>h);refine callsIn_of_wp_marks bg aO trivial (wpIn_mono (Q:=fun e fz w'=>(e=.normal∨e=.ret)∧Marks i7.heap.size w' fz.defers∧qM J Y xs.length l ib hl i7 w') ?_ ?_) rfl
 rotate_left
 ·rintro e fz w' ⟨he,⟨d0,nT,b5,b6,ad⟩,ka⟩
  have key:LeavesInM Fence.wide 0 P fn fz.tmps (fun e w'=>(∃v,e=.returned v)∧qM J Y xs.length l ib hl i7 w') fz.defers .returning w':=by
   rw[b5];refine ky nT w' b6 (fun D U=>(ad D U).2) fun d5 hw=>⟨.tuple #[],?_,⟨_,rfl⟩,ka.shut bO (fun D U=>(ad D U).1) (fun D U=>(ad D U).2) hw⟩
   simp [results,bn]
  rcases he with rfl |rfl <;> exact key
 obtain⟨v1,v2,rfl⟩:∃v1 v2,di=[v1,v2]:=by
  match di,aA.1 with
  |[v1,v2],_=>exact⟨v1,v2,rfl⟩
 have b7:=aA.2 0 _ v1 rfl rfl;have aD:=aA.2 1 _ v2 rfl rfl;obtain⟨d6,a0⟩:∃x,ds ib (hl.aa+1) hh x:=by generalize v2=z at aD;cases aD;rename_i a vs aV ka bD;exact⟨_,bD 0 hh rfl⟩
 obtain⟨af,aq,a1,b8⟩:=bq.Gm;have aq:cL af (hl.on []) i7:=aq;have b9:fm af (hl.on []) i7 (fun t=>if t=0 then .jQ l else if t=1 then .bU [.int .i64 i] else if t=2 then .bU [hh] else .dead) {tmps:=(#[Value.func (.yield l) #[] #[]]++[v1,v2].toArray)++Array.replicate (fn.ntmps-(#[Value.func (.yield l) #[] #[]]++[v1,v2].toArray).size) undef,defers:=[]} 41 i7.heap.size j7.au:=by
  refine⟨aq,fun t=>?_,Marks.nil (aC _),by simp [bo],SN _⟩;obtain⟨ev,dR,a2⟩:=Xk (.func (.yield l) #[] #[]) v1 v2 (Array.replicate (fn.ntmps-(#[Value.func (.yield l) #[] #[]]++[v1,v2].toArray).size) undef);have U:hl.aa+1≤(hl.on []).aa+1:=by rw[ag.gG];omega
  by_cases a3:t=0
  ·subst a3;show ds af _ (.jQ l) _;rw[ev];exact .jQ l
  ·by_cases a4:t=1
   ·subst a4;show ds af _ (.bU [.int .i64 i]) _;rw[dR];exact(b7.mono a1).up U
   ·by_cases lq:t=2
    ·subst lq;show ds af _ (.bU [hh]) _;rw[a2];exact(aD.mono a1).up U
    ·simp only[a3,a4,lq,if_false];exact .dead _
 refine wpIn_seq (ih eu bx b9 ((dN (v:=.ref (.l 0) 0) (s':=dQ hl []) rfl).trans rfl) fun aF ca a2 aG aH=>?_);have cb:we ib hl i7 aF hl ca:=by
  refine⟨(g3.under (l:=i7.heap.size) b8.x aG.x (fun i x b h=>by simp at h)).qw (aC _),?_⟩;refine Nat.le_of_not_lt fun cc=>?_
  have cE:(dQ hl []).get (.g (hl.aa+1) 0)=some (.cells (hQ [])):=by rw[ag.j6,if_pos rfl];rfl
  have cd:Live aF (dQ hl []) (aF.loc (hl.aa+1) 0):=⟨_,0,_,cE,rfl⟩;have ar:=aG.live _ cc cd;rcases ar.on with ar|⟨gX,z,ar,_⟩
  ·exact aH.iq.nI (i:=0) (x:=.cells (hQ [])) rfl rfl (Live.mono aq.off (aG.k.low (by rw[ag.gG];omega)) ar)
  ·simp at ar
 have ce:pR hh l i (ct (fun t=>if t=0 then .jQ l else if t=1 then .bU [.int .i64 i] else if t=2 then .bU [hh] else .dead) (some 4) (.ref (.l 0) 0)):=⟨by simp [ct],by simp [ct],by simp [ct],by simp [ct]⟩;obtain⟨d8,ad,cf⟩:=p3 (s:=hl) (m:=[]) ce (by omega);refine wpIn_seq (ih eu bA aH ad fun d9 ea eb cj a6=>?_);obtain⟨mh,ck,cl⟩:=rF (s:=hl) (m:=[i]) cf;refine wpIn_seq (ih eu bC a6 ck fun a7 cm ec cn co=>?_);have cp:we ib hl i7 a7 hl cm:=(cb.step aH.iq cj).step a6.iq cn;have cq:([.bU [.int .i64 i],.bU [hh]]:List ae).all (fE hl hl)=true:=by
  simp only[List.all_cons,List.all_nil,Bool.and_true,show fE hl hl (.bU [.int .i64 i])=true from rfl,eT];cases hh<;> try rfl
  rename_i a off len cap sz;simp only[fE];unfold dD at iJ;simp only at iJ;split at iJ
  ·rename_i cs cv;rw[cv];exact(ae.iU cs cs).2 rfl
  ·cases iJ
 refine wpIn_block (oe (fun n fz w'=>∃κ' s' g' iS j,we ib hl i7 κ' s' w'∧fm κ' (dQ s' iS) w' g' fz 41 i7.heap.size j7.au∧vl hh l i ((n:Int)-1) g'∧n≤i+1∧J j s'∧j≤xs.length∧([.bU [.int .i64 i],.bU [hh]]:List ae).all (fE hl s')=true∧xs.drop j=(fD (A.getD · []) i n iS).map fun k=>.int .i64 (k:Nat)) (fun n fz w' cw=>?_) (n:=i+1)
  ⟨a7,hl,mh,[i],0,cp,co,by rw[show(((i+1:Nat):Int)-1)=(i:Int) by omega];exact cl,aC _,bs,Nat.zero_le _,cq,by rw[bV,fG]⟩)
 obtain⟨ed,r,n7,p,j,cx,a8,cy,ee,as,a9,aI,av⟩:=cw;obtain⟨ba,cz,bb,aJ⟩:=BD (s:=r) (m:=p) cy;refine wpIn_seq (wpIn_seq (ih eu bI a8 cz fun cA ef eg cC ab=>?_));have bc:=cx.step a8.iq cC;cases n with
 |zero=>
  refine wpIn_cond_false (i6 aS ab (b:=false) (by show ba 12=_;rw[aJ];simp)) (wpIn_exit ?_);refine⟨.inl rfl,ab.defers,.inl ⟨cA,r,bc.ext,ab.iq.off,?_⟩⟩
  have:xs.length=j:=by have:=congrArg List.length av;simp only[List.length_drop,fD,List.map_nil,cr] at this;omega
  rw[this];exact as
 |succ x=>
  have cD:((x+1:Nat):Int)-1=(x:Int):=by omega
  rw[cD] at bb aJ;refine wpIn_cond_true (i6 aS ab (b:=true) (by show ba 12=_;rw[aJ];simp)) (nc bJ ?_);have next:∀(ah:a5) (Z:ag) (ai:List Nat) (ac:World) (M:Nat→ae) (aj:Act) (ak:Nat),we ib hl i7 ah Z ac→fm ah (dQ Z ai) ac M aj 41 i7.heap.size j7.au→vl hh l i x M→J ak Z→ak≤xs.length→([.bU [.int .i64 i],.bU [hh]]:List ae).all (fE hl Z)=true→xs.drop ak=(fD (A.getD · []) i x ai).map (fun k=>.int .i64 (k:Nat))→
    (Code.region aT aU false).wpIn (vH none) 0 P (Exit.then (fun fz w'=>∃m,m<x+1∧∃κ' s' g' iS j,we ib hl i7 κ' s' w'∧fm κ' (dQ s' iS) w' g' fz 41 i7.heap.size j7.au∧vl hh l i ((m:Int)-1) g'∧m≤i+1∧J j s'∧j≤xs.length∧([.bU [.int .i64 i],.bU [hh]]:List ae).all (fE hl s')=true∧xs.drop j=(fD (A.getD · []) i m iS).map fun k=>.int .i64 (k:Nat)) (Exit.inBlock 0 fun e fz w'=>(e=.normal∨e=.ret)∧Marks i7.heap.size w' fz.defers∧qM J Y xs.length l ib hl i7 w')) aj ac:=fun ah Z ai ac M aj ak al N B cG cH cI cJ=>by
   obtain⟨V,cK,am⟩:=YF (s:=Z) (m:=ai) B (by omega) (by omega);exact ih eu bP N cK fun F I O aK q=>⟨x,Nat.lt_succ_self x,F,Z,V,ai,ak,al.step N.iq aK,q,am,by omega,cG,cH,cI,cJ⟩
  refine wpIn_seq (wpIn_block ?_);obtain⟨M,cM,B,bd⟩:=YG (s:=r) (m:=p) (x:=x) bb rfl (by omega);refine wpIn_seq (wpIn_seq (ih eu bW ab cM fun ah ac aj cN N=>?_));have al:=bc.step ab.iq cN;cases an:p.elem x with
  |false=>refine wpIn_cond_true (i6 aX N (b:=true) (by show M 18=_;rw[bd,an];rfl)) (wpIn_exit ?_);refine next ah r p ac M aj j al N B as a9 aI ?_;rw[av];simp only[fD,an,cond_false]
  |true=>
   refine wpIn_cond_false (i6 aX N (b:=false) (by show M 18=_;rw[bd,an];rfl)) (nc bY ?_);have hex:es[x]? =some es[x]:=fB (by omega);obtain⟨g2,aL,cO⟩:=bv x _ hex;have be:A.getD x []=g2:=by simp [List.getD_eq_getElem?_getD,aL]
   have cP:∀y,y∈g2→y<40:=fun y fb=>by have:=(aQ g2 (List.mem_of_getElem? aL)).2 y fb;omega
   have cQ:∀s':ag,s'.aa=hl.aa→([.bU [.int .i64 i],.bU [hh]]:List ae).all (fE hl s')=true→∀o,dD (s'.on o) hh=some (12,es):=fun s' cF c3 o=>by rw[zi a0 (by omega) (by simp only[List.all_cons,List.all_nil,Bool.and_true,bm] at c3;exact c3.2) o (by rw[iJ];rfl)];exact iJ
   have cR:g2.length<9223372036854775807:=by have:=(aQ g2 (List.mem_of_getElem? aL)).1;omega
   have bf:∀(F:a5) (H:ag) (I:World) (V:Nat→ae) (O:Act) (ao:Nat),we ib hl i7 F H I→fm F (dQ H p) I V O 41 i7.heap.size j7.au→vl hh l i x V→J ao H→ao≤xs.length→([.bU [.int .i64 i],.bU [hh]]:List ae).all (fE hl H)=true→xs.drop ao=(fD (A.getD · []) i x (g2++p)).map (fun k=>.int .i64 (k:Nat))→
     bZ.wpIn (vH none) 0 P (Exit.inBlock 1 (Exit.then ((Code.region aT aU false).wpIn (vH none) 0 P (Exit.then (fun fz w'=>∃m,m<x+1∧∃κ' s' g' iS j,we ib hl i7 κ' s' w'∧fm κ' (dQ s' iS) w' g' fz 41 i7.heap.size j7.au∧vl hh l i ((m:Int)-1) g'∧m≤i+1∧J j s'∧j≤xs.length∧([.bU [.int .i64 i],.bU [hh]]:List ae).all (fE hl s')=true∧xs.drop j=(fD (A.getD · []) i m iS).map fun k=>.int .i64 (k:Nat)) (Exit.inBlock 0 fun e fz w'=>(e=.normal∨e=.ret)∧Marks i7.heap.size w' fz.defers∧qM J Y xs.length l ib hl i7 w'))) (Exit.then (fun fz w'=>∃m,m<x+1∧∃κ' s' g' iS j,we ib hl i7 κ' s' w'∧fm κ' (dQ s' iS) w' g' fz 41 i7.heap.size j7.au∧vl hh l i ((m:Int)-1) g'∧m≤i+1∧J j s'∧j≤xs.length∧([.bU [.int .i64 i],.bU [hh]]:List ae).all (fE hl s')=true∧xs.drop j=(fD (A.getD · []) i m iS).map fun k=>.int .i64 (k:Nat)) (Exit.inBlock 0 fun e fz w'=>(e=.normal∨e=.ret)∧Marks i7.heap.size w' fz.defers∧qM J Y xs.length l ib hl i7 w')))) O I:=fun F H I V O ao aw q am cS cT bh cU=>by
    refine wpIn_mono (HD eu b1 rfl cP cR q am a0 (cQ H aw.ext.aa bh _) hex cO) ?_
    rintro e cV cW ⟨rfl,cX,cY,cZ,c0,c1,c2,c5⟩
    refine next cX H cZ cW cY cV ao (aw.step q.iq c0) c1 c2 cS cT bh ?_;rw[cU,l9 _ _ _ _ _ c5]
   refine wpIn_seq (wpIn_seq ?_);by_cases aM:x=i
   ·
    subst aM;have c6:gF j7 Hy M (dQ r p)=some (ct (ct (ct (ct (ct (ct (ct (ct (ct M (some 19) (.int .i64 x)) (some 20) (.int .i64 x)) (some 21) (.bool false)) (some 22) (.bool false)) (some 23) (.d7 [])) (some 24) (.d7 [])) (some 25) (.d7 [])) (some 26) (.d7 [])) (some 27) (.bool false),dQ r p):=by
     have ax:∀{d:Option Nat} {op:fV} {os:List cB} {g:Nat→ae} {s:ag},g 22=.bool false→gF j7 (⟨d,some (22,true),op⟩::os) g s=gF j7 os (ct g d (.d7 [])) s:=fun h=>by simp only[gF,iX,fH,h,show(false==true)=false from rfl,fZ]
     refine(dN (v:=.int .i64 x) (s':=dQ r p) (by simp only[aE,ap,B.n7];rfl)).trans ?_;refine(dN (v:=.int .i64 x) (s':=dQ r p) (by simp only[aE,ap,ct,B.gZ,Nat.reduceEqDiff,if_false,dP,ew];rfl)).trans ?_;refine(dN (v:=.bool false) (s':=dQ r p) (by simp only[aE,ap,ct,Nat.reduceEqDiff,if_false,if_true];show pQ j7 _ _ (some (.bool ((x:Int) != x)))=_;rw[show((x:Int) != x)=false from by simp];rfl)).trans ?_
     refine(dN (v:=.bool false) (s':=dQ r p) (by simp only[aE,ap,ct,if_true];rfl)).trans ?_;refine(ax (by simp [ct])).trans ((ax (by simp [ct])).trans ((ax (by simp [ct])).trans ((ax (by simp [ct])).trans ?_)));exact(dN (v:=.bool false) (s':=dQ r p) (by simp only[aE,ap,ct,Nat.reduceEqDiff,if_false,if_true,mK,cond_false];rfl)).trans rfl
    refine ih eu aY N c6 fun F I O aK q=>?_
    refine wpIn_cond_false (i6 aB q (b:=false) (by simp [ap,ct])) (nc aZ ?_);refine bf F r I _ O j (al.step N.iq aK) q ⟨by simp [ct,B.uE],by simp [ct,B.gZ],by simp [ct,B.g9],by simp [ct,B.mh],by simp [ct,B.n7]⟩ as a9 aI ?_;rw[av];simp only[fD,an,ci,hj,be]
   ·have e6:Nat.beq x i=false:=by
     cases c7:Nat.beq x i with
     |false=>rfl
     |true=>exact absurd (c4 c7) aM
    have bi:xs.drop j=.int .i64 (x:Nat)::(fD (A.getD · []) i x (g2++p)).map (fun k=>.int .i64 (k:Nat)):=by rw[av];simp only[fD,an,ci,e6,cond_false,be,fM]
    have bj:xs[j]? =some (.int .i64 (x:Nat)):=by have:=congrArg (fun l:List ae=>l[0]?) bi;simpa using this
    have c8:j<xs.length:=(ez.1 bj).1;have c9:xs.drop (j+1)=(fD (A.getD · []) i x (g2++p)).map (fun k=>.int .i64 (k:Nat)):=by rw[←List.tail_drop,bi];rfl
    refine B8 eu aY bO br aM al N B (Rt:=fun bk=>J (j+1) bk∧([.bU [.int .i64 i],.bU [hh]]:List ae).all (fE hl bk)=true) (Rf:=Y) (fun κ' w' da db dc de=>?_) (fun F H I V O aw q am aN az=>?_) (fun F H I V O df q aN az=>?_)
    ·have:=bt j _ da κ' r w' bj db.ext dc as aI de;exact this
    ·refine wpIn_cond_false (i6 aB q (b:=false) aN) (nc aZ ?_);exact bf F H I V O (j+1) aw q am az.1 c8 az.2 c9
    ·refine wpIn_cond_true (i6 aB q (b:=true) aN) (wpIn_ret ?_);exact⟨.inr rfl,q.defers,.inr ⟨F,H,df,q.iq.off,az⟩⟩
end Go.Ab
end
