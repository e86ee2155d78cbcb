/- A part of the proof: no condition. -/
import Derived.Test.YtgdnbfijkagodaaGreatDoorA2
import Derived.WideKeyArgs
import Derived.ChangeArms
import Derived.ChangeSame
import Derived.ChangeOld
import Derived.OpenShut
set_option linter.unusedSectionVars false
set_option linter.unusedSimpArgs false
section
namespace Go.Ab
variable{T:Nat→Option c4}{G:Nat→ae}{X:Nat→List ae→ag→ah}{s:ag}{k:bd}
theorem qK(q b:Nat)(at_:Option Loc)(x y:ae):(aV T G X).fO s k q b at_ x y=gj (gz G (aA T G X) bQ) s k q b at_ x y:=rfl
theorem jX(sz:Nat)(es:List ae)(ar:ae.aZ es=true)(av:(es.all fun e=>e.fa&&Nat.beq e.cells.length sz)=true):(aV T G X).a9 s k sz es=k (.bW sz es .exact) s:=by show(bif ae.aZ es&&es.all (fun e=>e.fa&&Nat.beq e.cells.length sz) then _ else _)=_;rw[ar,av];rfl
theorem yC(ev:IntKind)(n:Int):(aV T G X).a9 s k 1 [.int ev n]=k (.bW 1 [.int ev n] .exact) s:=rfl
inductive gS (S:ag):eZ→Nat→Prop
 |nil:gS S .nil 0
 |dx (j n:Nat) (dm:0<n) (h:S.own[j]? =some (.tok n)):gS S (.dx (.l j)) n
theorem gS.inv{S:ag}{g:eZ}{n:Nat}(h:gS S g n):(g=.nil∧n=0)∨∃j,g=.dx (.l j)∧0<n∧S.own[j]? =some (.tok n):=by
 cases h with
 |nil=>exact .inl ⟨rfl,rfl⟩
 |dx j n dm h=>exact .inr ⟨j,rfl,dm,h⟩
theorem gS.new{S:ag}{g:eZ}{n:Nat}(h:gS S g n)(o:cU):gS (S.new o) g n:=by
 cases h with
 |nil=>exact .nil
 |dx j n dm h=>refine .dx j n dm ?_;have cX:=(ec.1 h).1;simp only[ag.new];rw[gm cX];exact h
structure Grown (S S':ag) (g:eZ):Prop where
 up:S'.up=S.up
 ro:S'.ro=S.ro
 len:S.own.length≤S'.own.length
 own:∀j o,S.own[j]? =some o→g≠.dx (.l j)→S'.own[j]? =some o
theorem Grown.child{s S S':ag}{g:eZ}(h:Grown S S' g)(f4:Child s S):Child s S':=⟨h.up.trans f4.up,h.ro.trans f4.ro⟩
theorem Grown.grow{S S':ag}{g g':eZ}{n:Nat}(h:Grown S S' g)(cb:gS S g' n)(eR:∀j,g'=.dx (.l j)→g≠.dx (.l j)):gS S' g' n:=by
 cases cb with
 |nil=>exact .nil
 |dx j n dm e=>exact .dx j n dm (h.own j _ e (eR j rfl))
theorem Grown.aa{S S':ag}{g:eZ}(h:Grown S S' g):S'.aa=S.aa:=by simp [ag.aa,h.up,h.ro]
theorem sX{R:ah}{S:ag}{es new:List ae}{g g2:eZ}{q bytes:Nat}(cb:gS S g es.length)(dm:new≠[])(r:(es.length+new.length)*bytes≤1099511627776)(aY:(new.flatMap ae.cells).all ae.eB=true)
  (cZ:∀g' S',gS S' g' (es.length+new.length)→g'≠.nil→(g≠.nil→g'=g)→(g=.nil→g'=.dx (.l S.own.length))→Grown S S' g→k (.bW q (es++new) g') S'=R)(u:∀a,g2≠.dx a:=by intro a h;cases h):
  (aV T G X).fO S k q bytes (some (.l 0)) (.bW q es g) (.bW q new g2)=R:=by
 rw[qK];unfold gj;simp only;unfold hL;rw[show dv S (.bW q new g2)=some (q,new) from by cases g2<;> first|rfl |exact absurd rfl (u _)];simp only[ft,eI];rw[show Nat.ble ((es.length+new.length)*bytes) 1099511627776=true from et r];simp only[bH];cases new with
 |nil=>exact absurd rfl dm
 |cons c cs=>
  rcases cb.inv with⟨rfl,y⟩|⟨j,rfl,lo,h⟩
  ·simp only[ag.hn];refine cZ _ _ (.dx _ _ (by simp;omega) ?_) (by simp) (fun h=>absurd rfl h) (fun _=>rfl) ⟨rfl,rfl,by simp [ag.new],fun j o h _=>?_⟩
   ·simp [ag.new]
   ·simp only[ag.new];rw[gm (ec.1 h).1];exact h
  ·have e:S.get (.l j)=some (.tok es.length):=h;simp only[e,ft,aY,bz,bH];show(match S.set (.l j) (.tok (es.length+(c::cs).length)) with |some s=>k (.bW q (es++c::cs) (.dx (.l j))) s|none=>.fail)=R;simp only[ag.set];refine cZ _ _ (.dx _ _ (by simp;omega) ?_) (by simp) (fun _=>rfl) (fun h=>by simp at h) ⟨rfl,rfl,by simp,fun i o bL eR=>?_⟩
   ·simp [(ec.1 h).1]
   ·have:j≠i:=fun e=>eR (by rw[e])
    simp only;rw[lL this];exact bL
def gw{α:Type}(l:List α):eZ:=if l.isEmpty then .nil else .any
theorem oo{S:ag}{sz:Nat}{es:List ae}{g:eZ}(cb:gS S g es.length)(aU:ae.aZ es=true:=by rfl):freeze S (.bW sz es g)=some (.bW sz es (gw es)):=by
 rcases cb.inv with⟨rfl,h⟩|⟨j,rfl,dm,h⟩
 ·have:es=[]:=jE h;subst this;rfl
 ·cases es with
  |nil=>simp at dm
  |cons e es=>show jU S sz (e::es)=_;unfold jU;rw[if_pos aU];rfl
theorem hb{S:ag}(a:Loc)(off len cap sz:Nat)(ev:IntKind)(i:Nat)(h:i<len):(aV T G X).cc S k sz (.cO a off len cap sz) (.int ev (i:Int))=k (.ref a (off+i*sz)) S:=by show kK (gz G (aA T G X) bQ) S k sz (.cO a off len cap sz) (.int ev (i:Int))=_;unfold kK;rw[g9];simp only[ft,show Nat.blt i len=true from by simp [Nat.blt_eq,h],bz,bH];rfl
theorem iN{S:ag}{j o:Nat}{cs:List ae}{c:ae}(h:S.own[j]? =some (.cells cs))(aY:cs[o]? =some c):(aV T G X).aw S k none (.ref (.l j) o)=k c S:=by
 rw[hB];simp only[dY];rw[show S.get (.l j)=some (.cells cs) from h];simp only[eU]
 have:cs.drop o=c::cs.drop (o+1):=by have e:=(ec.1 aY);rw[iP e.1,e.2]
 rw[this];rfl
theorem yD(z:ae):∀c:Nat,(List.replicate c [z]).flatten=List.replicate c z
 |0=>rfl
 |c+1=>by simp [List.replicate_succ,yD z c]
theorem pS(z:ae)(bytes l c:Nat)(ar:l≤c)(av:c*bytes≤1099511627776):(aV T G X).lg s k [z] bytes (.int .i64 (l:Int)) (.int .i64 (c:Int))=k (.cO (.l s.own.length) 0 l c 1) (s.new (.cells (List.replicate c z))):=by show nn (gz G (aA T G X) bQ) s k [z] bytes (.int .i64 (l:Int)) (.int .i64 (c:Int))=_;unfold nn;rw[g9,g9];simp only[show Nat.ble l c=true from et ar,show Nat.ble (c*bytes) 1099511627776=true from et av,bz,bH];show k _ (s.new (.cells (List.replicate c [z]).flatten))=_;rw[yD];rfl
theorem vQ:∀(l:List ae),(∀e,e∈l→e.cells=[e])→chunk 1 l.length l=l
 |[],_=>rfl
 |c::l,h=>by
  simp only[bP,chunk,mn,dT,b9];rw[vQ l (fun e he=>h e (by simp [he]))]
  have:=h c (by simp);congr 1;show y8 c=c;cases c with
  |agg xs=>exfalso;have av:xs=[ae.agg xs]:=this;have bV:=congrArg (SizeOf.sizeOf:List ae→Nat) av;simp only[List.cons.sizeOf_spec,List.nil.sizeOf_spec,ae.agg.sizeOf_spec] at bV;omega
  |_=>rfl
abbrev U(n:Nat):ae:=.int .u32 (n:Int)
theorem iO(a:Int):IntKind.wrap .u64 a=a%18446744073709551616:=by unfold IntKind.wrap;simp [show IntKind.bits .u64=64 from rfl,show IntKind.signed .u64=false from rfl]
theorem wrap_u32(a:Int):IntKind.wrap .u32 a=a%4294967296:=by unfold IntKind.wrap;simp [show IntKind.bits .u32=32 from rfl,show IntKind.signed .u32=false from rfl]
theorem dA(a b:Nat):(aV T G X).aj s k (al .add (.int .u64 (a:Int)) (.int .u64 (b:Int)))=k (.int .u64 (((a+b)%18446744073709551616:Nat):Int)) s:=by rw[fp,iO];congr 2
def rN(a b:Nat):Nat:=(((a:Int)-(b:Int))%18446744073709551616).toNat
theorem dB(a b:Nat):(aV T G X).aj s k (al .sub (.int .u64 (a:Int)) (.int .u64 (b:Int)))=k (.int .u64 ((rN a b:Nat):Int)) s:=by rw[fK,iO];congr 2;rw[rN,Int.toNat_of_nonneg (by omega)]
theorem dj(a:Nat):(aV T G X).aj s k (al .sub (.int .u64 (a:Int)) (.int .u64 1))=k (.int .u64 ((rN a 1:Nat):Int)) s:=dB a 1
theorem dM(a b:Nat):(aV T G X).aj s k (al .mul (.int .u64 (a:Int)) (.int .u64 (b:Int)))=k (.int .u64 (((a*b)%18446744073709551616:Nat):Int)) s:=by rw[f0,iO];congr 2
theorem K7(a b:Nat):(aV T G X).aj s k (al .add (.int .u32 (a:Int)) (.int .u32 (b:Int)))=k (.int .u32 (((a+b)%4294967296:Nat):Int)) s:=by rw[fp,wrap_u32];congr 2
theorem HE(a b:Nat)(h:b≠0)(e:a<18446744073709551616):(aV T G X).aj s k (al .quo (.int .u64 (a:Int)) (.int .u64 (b:Int)))=k (.int .u64 ((a/b:Nat):Int)) s:=by
 rw[Mz _ _ _ (by omega),iO];congr 2
 have:((a:Int)).tdiv (b:Int)=((a/b:Nat):Int):=by rw[Int.tdiv_eq_ediv_of_nonneg (by omega)];rfl
 rw[this];have av:a/b≤a:=Nat.div_le_self _ _;generalize a/b=q at *;omega
theorem zN(a b:Nat)(h:b≠0):(aV T G X).aj s k (al .rem (.int .u64 (a:Int)) (.int .u64 (b:Int)))=k (.int .u64 ((a%b:Nat):Int)) s:=by rw[MA _ _ _ (by omega)];congr 2
theorem zO(ev:IntKind)(a c:Nat)(h:c≤64):(aV T G X).aj s k (al .shl (.int .u64 (a:Int)) (.int ev (c:Int)))=k (.int .u64 ((a*2^c%18446744073709551616:Nat):Int)) s:=by
 have e:al .shl (.int .u64 (a:Int)) (.int ev (c:Int))=some (.int .u64 (IntKind.wrap .u64 ((a:Int)*2^(min (c:Int).toNat 64)))):=by
  have dm:¬((c:Int)<0):=by omega
  simp [al,lO,dm,show IntKind.bits .u64=64 from rfl]
 rw[e,cN,iO,Int.toNat_natCast,Nat.min_eq_left h];congr 2
theorem zP(ev:IntKind)(a c:Nat)(h:c≤64):(aV T G X).aj s k (al .shr (.int .u64 (a:Int)) (.int ev (c:Int)))=k (.int .u64 ((a/2^c:Nat):Int)) s:=by
 have e:al .shr (.int .u64 (a:Int)) (.int ev (c:Int))=some (.int .u64 ((a:Int).fdiv (2^(min (c:Int).toNat 64)))):=by
  have dm:¬((c:Int)<0):=by omega
  simp [al,lO,dm,show IntKind.bits .u64=64 from rfl]
 rw[e,cN,Int.toNat_natCast,Nat.min_eq_left h];congr 2;rw[show((2:Int)^c)=((2^c:Nat):Int) from by simp,Int.fdiv_eq_ediv_of_nonneg _ (Int.natCast_nonneg _)];rfl
theorem vR(ev:IntKind)(a c:Nat)(h:c≤32):(aV T G X).aj s k (al .shr (.int .u32 (a:Int)) (.int ev (c:Int)))=k (.int .u32 ((a/2^c:Nat):Int)) s:=by
 have e:al .shr (.int .u32 (a:Int)) (.int ev (c:Int))=some (.int .u32 ((a:Int).fdiv (2^(min (c:Int).toNat 32)))):=by
  have dm:¬((c:Int)<0):=by omega
  simp [al,lO,dm,show IntKind.bits .u32=32 from rfl]
 rw[e,cN,Int.toNat_natCast,Nat.min_eq_left h];congr 2;rw[show((2:Int)^c)=((2^c:Nat):Int) from by simp,Int.fdiv_eq_ediv_of_nonneg _ (Int.natCast_nonneg _)];rfl
theorem EK(ev:IntKind)(a c:Nat)(h:c≤32):(aV T G X).aj s k (al .shl (.int .u32 (a:Int)) (.int ev (c:Int)))=k (.int .u32 ((a*2^c%4294967296:Nat):Int)) s:=by
 have e:al .shl (.int .u32 (a:Int)) (.int ev (c:Int))=some (.int .u32 (IntKind.wrap .u32 ((a:Int)*2^(min (c:Int).toNat 32)))):=by
  have dm:¬((c:Int)<0):=by omega
  simp [al,lO,dm,show IntKind.bits .u32=32 from rfl]
 rw[e,cN,wrap_u32,Int.toNat_natCast,Nat.min_eq_left h];congr 2
theorem cE(a:Nat):(aV T G X).aj s k (al .shl (.int .u64 (a:Int)) (.int .u64 32))=k (.int .u64 ((a*4294967296%18446744073709551616:Nat):Int)) s:=zO .u64 a 32 (by decide)
theorem cF(a:Nat):(aV T G X).aj s k (al .shr (.int .u64 (a:Int)) (.int .u64 32))=k (.int .u64 ((a/4294967296:Nat):Int)) s:=zP .u64 a 32 (by decide)
theorem cM(a:Nat):(aV T G X).aj s k (al .shr (.int .u64 (a:Int)) (.int .u64 63))=k (.int .u64 ((a/9223372036854775808:Nat):Int)) s:=zP .u64 a 63 (by decide)
theorem dn(ev:IntKind)(a:Nat):(aV T G X).bY s k .u32 (.int ev (a:Int))=k (.int .u32 ((a%4294967296:Nat):Int)) s:=by show k (.int .u32 (IntKind.wrap .u32 (a:Int))) s=_;rw[wrap_u32];congr 2
theorem hS(a:Nat)(h:a<4294967296):(aV T G X).bY s k .u64 (.int .u32 (a:Int))=k (.int .u64 (a:Int)) s:=by show k (.int .u64 (IntKind.wrap .u64 (a:Int))) s=_;rw[iO];congr 2;omega
theorem iw(a b:Nat)(h:a+b<9223372036854775808):(aV T G X).aj s k (al .add (.int .i64 (a:Int)) (.int .i64 (b:Int)))=k (.int .i64 ((a+b:Nat):Int)) s:=by rw[fp,eP _ (by omega) (by omega)];congr 2
theorem lh(a b:Nat)(h:b≤a)(av:a<9223372036854775808):(aV T G X).aj s k (al .sub (.int .i64 (a:Int)) (.int .i64 (b:Int)))=k (.int .i64 ((a-b:Nat):Int)) s:=by rw[fK,eP _ (by omega) (by omega)];congr 2;omega
theorem hT(a:Nat)(h:a+1<9223372036854775808):(aV T G X).aj s k (al .add (.int .i64 (a:Int)) (.int .i64 1))=k (.int .i64 ((a+1:Nat):Int)) s:=iw a 1 h
theorem ii(a:Nat)(h:1≤a)(av:a<9223372036854775808):(aV T G X).aj s k (al .sub (.int .i64 (a:Int)) (.int .i64 1))=k (.int .i64 ((a-1:Nat):Int)) s:=lh a 1 h av
theorem BA(a:Nat)(h:2≤a)(av:a<9223372036854775808):(aV T G X).aj s k (al .sub (.int .i64 (a:Int)) (.int .i64 2))=k (.int .i64 ((a-2:Nat):Int)) s:=lh a 2 h av
theorem sY(a:Nat)(av:a<9223372036854775808):(aV T G X).aj s k (al .quo (.int .i64 (a:Int)) (.int .i64 32))=k (.int .i64 ((a/32:Nat):Int)) s:=by
 rw[Mz _ _ _ (by omega)]
 have:((a:Int)).tdiv 32=((a/32:Nat):Int):=by rw[Int.tdiv_eq_ediv_of_nonneg (by omega)];rfl
 rw[this,eP _ (by omega) (by omega)]
theorem sZ(a:Nat):(aV T G X).aj s k (al .rem (.int .i64 (a:Int)) (.int .i64 32))=k (.int .i64 ((a%32:Nat):Int)) s:=by rw[MA _ _ _ (by omega)];congr 2
theorem Su(a b:Nat)(e:a<18446744073709551616)(h:b<18446744073709551616):((BitVec.ofInt 64 (a:Int) &&& BitVec.ofInt 64 (b:Int)).toNat:Int)=((a &&& b:Nat):Int):=by
 rw[BitVec.toNat_and];simp -implicitDefEqProofs only[BitVec.toNat_ofInt];congr 1;have ar:(((a:Int)%((2^64:Nat):Int))).toNat=a:=by omega
 have av:(((b:Int)%((2^64:Nat):Int))).toNat=b:=by omega
 rw[ar,av]
theorem K8(a:Nat)(h:a<18446744073709551616):(aV T G X).aj s k (al .and (.int .u64 (a:Int)) (.int .u64 4294967295))=k (.int .u64 ((a%4294967296:Nat):Int)) s:=by
 have e:al .and (.int .u64 (a:Int)) (.int .u64 ((4294967295:Nat):Int))=some (.int .u64 (IntKind.wrap .u64 ((BitVec.ofInt 64 (a:Int) &&& BitVec.ofInt 64 ((4294967295:Nat):Int)).toNat:Int))):=by simp -implicitDefEqProofs only[al,gr,↓reduceIte];rfl
 show(aV T G X).aj s k (al .and (.int .u64 (a:Int)) (.int .u64 ((4294967295:Nat):Int)))=_;rw[e,Su a _ h (by omega),cN,iO];congr 2
 have:a &&& 4294967295=a%4294967296:=Nat.and_two_pow_sub_one_eq_mod a 32;rw[this];omega
theorem EL(a b:Nat)(e:a<18446744073709551616)(h:b<18446744073709551616):((BitVec.ofInt 64 (a:Int) ||| BitVec.ofInt 64 (b:Int)).toNat:Int)=((a ||| b:Nat):Int):=by
 rw[BitVec.toNat_or];simp -implicitDefEqProofs only[BitVec.toNat_ofInt];congr 1;have ar:(((a:Int)%((2^64:Nat):Int))).toNat=a:=by omega
 have av:(((b:Int)%((2^64:Nat):Int))).toNat=b:=by omega
 rw[ar,av]
theorem ZJ(q b p:Nat)(h:b<2^p)(fE:q*2^p+b<18446744073709551616):(aV T G X).aj s k (al .or (.int .u64 ((q*2^p:Nat):Int)) (.int .u64 (b:Int)))=k (.int .u64 ((q*2^p+b:Nat):Int)) s:=by
 have e:al .or (.int .u64 ((q*2^p:Nat):Int)) (.int .u64 (b:Int))=some (.int .u64 (IntKind.wrap .u64 ((BitVec.ofInt 64 ((q*2^p:Nat):Int) ||| BitVec.ofInt 64 (b:Int)).toNat:Int))):=by simp -implicitDefEqProofs only[al,gr,↓reduceIte];rfl
 rw[e,EL _ _ (by omega) (by omega),cN,iO];congr 2
 have:q*2^p ||| b=q*2^p+b:=by rw[ez,←Nat.two_pow_add_eq_or_of_lt h]
 rw[this];omega
theorem vS(q b:Nat)(e:b<4294967296)(fE:q<4294967296):(aV T G X).aj s k (al .or (.int .u64 ((q*4294967296:Nat):Int)) (.int .u64 (b:Int)))=k (.int .u64 ((q*4294967296+b:Nat):Int)) s:=ZJ q b 32 e (by omega)
theorem hc(l:List Nat):ae.aZ (l.map U)=true:=by
 induction l with
 |nil=>rfl
 |cons x l e=>simp -implicitDefEqProofs only[fH,ae.aZ,e,Bool.and_true];rfl
def oq(d:Nat)(g:eZ):Prop:=∀a,g=.dx a→∃e i,a=.g e i∧e≤d
theorem oq.not{g:eZ}(h:∀a,g≠.dx a)(d:Nat):oq d g:=fun a e=>absurd e (h a)
theorem oq.le{d e:Nat}{g:eZ}(h:oq d g)(cP:d≤e):oq e g:=fun a r=>by obtain⟨x,i,ar,av⟩:=h a r;exact⟨x,i,ar,Nat.le_trans av cP⟩
inductive l3 (s:ag):ae→List Nat→Prop
 |bW (l:List Nat) (g:eZ) (cb:oq s.aa g):l3 s (.bW 1 (l.map U) g) l
 |cO (d j off cap:Nat) (cs:List ae) (l:List Nat) (cP:d≤s.aa) (cb:s.get (.g d j)=some (.cells cs)) (bN:(cs.drop off).take l.length=l.map U) (hle:off+l.length≤cs.length) (aY:l.length≤cap):l3 s (.cO (.g d j) off l.length cap 1) l
def Si(s S:ag):Prop:=s.aa≤S.aa∧∀d j o,d≤s.aa→s.get (.g d j)=some o→S.get (.g d j)=some o
theorem Si.refl(s:ag):Si s s:=⟨aD _,fun _ _ _ _ h=>h⟩
theorem Si.trans{s S S':ag}(h:Si s S)(k:Si S S'):Si s S':=⟨Nat.le_trans h.1 k.1,fun d j o cP e=>k.2 d j o (Nat.le_trans cP h.1) (h.2 d j o cP e)⟩
theorem Child.aa{s S:ag}(h:Child s S):S.aa=s.aa+1:=by simp [ag.aa,h.up,h.ro];omega
theorem Child.oV{s S:ag}(h:Child s S):Si s S:=by
 refine⟨by rw[h.aa];omega,fun d j o cP e=>?_⟩;have ar:=h.aa;simp -implicitDefEqProofs only[ag.get] at e ⊢;rw[if_neg (by omega),if_pos (by omega),h.up,h.ro];by_cases dH:d=s.aa
 ·rw[if_pos dH] at e
  have:S.aa-1-d=0:=by omega
  rw[this];simpa using e
 ·rw[if_neg dH,if_pos (by omega)] at e
  have:S.aa-1-d=(s.aa-1-d)+1:=by omega
  rw[this];simpa using e
theorem Si.new(s:ag)(o:cU):Si s (s.new o):=by
 refine⟨aD _,fun d j x cP e=>?_⟩;simp -implicitDefEqProofs only[ag.get] at e ⊢
 have:(s.new o).aa=s.aa:=rfl;rw[this];split
 ·rename_i h;rw[if_pos h] at e;have cX:=(ec.1 e).1;simp -implicitDefEqProofs only[ag.new];rw[gm cX];exact e
 ·rename_i h;rw[if_neg h] at e;exact e
theorem l3.oV{s S:ag}{v:ae}{l:List Nat}(h:l3 s v l)(bM:Si s S):l3 S v l:=by
 cases h with
 |bW l g cb=>exact .bW l g (cb.le bM.1)
 |cO d j off cap cs l cP cb bN hle aY=>exact .cO d j off cap cs l (Nat.le_trans cP bM.1) (bM.2 d j _ cP cb) bN hle aY
theorem l3.ap{s:ag}{v:ae}{l:List Nat}(h:l3 s v l)(d:Nat):v.ap d=v:=by
 cases h with
 |bW l g cb=>
  cases g with
  |dx a=>obtain⟨x,i,rfl,_⟩:=cb a rfl;rfl
  |_=>rfl
 |cO=>rfl
theorem l3.len{S:ag}{v:ae}{l:List Nat}(h:l3 S v l)(k:bd)(S':ag):(aV T G X).cW S' k false v=k (.int .i64 (l.length:Int)) S':=by
 cases h with
 |bW l g cb=>rw[aB,ep]
 |cO=>rfl
theorem l3.get{S:ag}{v:ae}{l:List Nat}(h:l3 S v l)(ev:IntKind)(i:Nat)(bL:i<l.length)(k:bd):(aV T G X).cc S (fun v S=>(aV T G X).aw S k none v) 1 v (.int ev (i:Int))=k (U (l.getD i 0)) S:=by
 cases h with
 |bW l g cb=>rw[k3 1 _ g ev i (U (l.getD i 0)) (by simp [List.getD,bL])];rfl
 |cO d j off cap cs l cP cb bN hle aY=>
  rw[hb _ _ _ _ _ _ _ bL,hB];simp -implicitDefEqProofs only[dY,cb,eU,Nat.mul_one];have r:off+i<cs.length:=by omega
  rw[iP r];have e:cs[off+i]=U (l.getD i 0):=by
   have ar:((cs.drop off).take l.length)[i]? =(l.map U)[i]?:=by rw[bN]
   rw[List.getElem?_take,if_pos bL,List.getElem?_drop,ei r] at ar;simp [bL] at ar;rw[ar];simp [List.getD,bL]
  rw[e];rfl
theorem l3.ptr{S:ag}{v:ae}{l:List Nat}(h:l3 S v l)(ev:IntKind)(i:Nat)(bL:i<l.length):∃p,(∀(S':ag) (k:bd),(aV T G X).cc S' k 1 v (.int ev (i:Int))=k p S')∧∀k:bd,(aV T G X).aw S k none p=k (U (l.getD i 0)) S:=by
 have cb:=fun k=>h.get (T:=T) (G:=G) (X:=X) ev i bL k
 cases h with
 |bW l g r=>
  have e:=fun(S':ag) (k:bd)=>k3 (T:=T) (G:=G) (X:=X) (s:=S') (k:=k) 1 (l.map U) g ev i (U (l.getD i 0)) (by simp [List.getD,bL])
  refine⟨_,e,fun k=>?_⟩
  have:=cb k;rw[e] at this;exact this
 |cO d j off cap cs l cP r bN hle aY=>
  have e:=fun(S':ag) (k:bd)=>hb (T:=T) (G:=G) (X:=X) (S:=S') (k:=k) (.g d j) off l.length cap 1 ev i bL
  refine⟨_,e,fun k=>?_⟩
  have:=cb k;rw[e] at this;exact this
def pt(g:eZ)(len n:Nat):eZ:=
 match g with
 |.nil=>.nil
 |.exact=>if n=len then .exact else .any
 |.dx a=>if 0=0∧n=len then .dx a else .any
 |.any=>.any
def pu(v:ae)(n:Nat):ae:=
 match v with
 |.bW z es g=>.bW z (es.take n) (pt g es.length n)
 |.cO a off _ cap z=>.cO a off n cap z
 |v=>v
theorem vT{g:eZ}(cb:∀a,g≠.dx a)(len n:Nat):∀a,pt g len n≠.dx a:=fun a=>by
 cases g with
 |dx b=>exact absurd rfl (cb b)
 |nil=>intro e;cases e
 |exact=>intro e;simp -implicitDefEqProofs only[pt] at e;split at e<;> cases e
 |any=>intro e;cases e
theorem K9{d:Nat}{g:eZ}(cb:oq d g)(len n:Nat):oq d (pt g len n):=fun a e=>by
 cases g with
 |dx b=>
  simp -implicitDefEqProofs only[pt] at e;split at e
  ·exact cb a e
  ·cases e
 |nil=>cases e
 |exact=>simp -implicitDefEqProofs only[pt] at e;split at e<;> cases e
 |any=>cases e
theorem l3.slice{S:ag}{v:ae}{l:List Nat}(h:l3 S v l)(n:Nat)(dm:n≤l.length)(k:bd)(S':ag):(aV T G X).ls 1 v none (some (.int .i64 (n:Int))) none S' k=k (pu v n) S':=by
 cases h with
 |bW l g cb=>show m9 1 (.bW 1 (l.map U) g) none (some (.int .i64 (n:Int))) none S' k=_;unfold m9;simp -implicitDefEqProofs only[p1,g9,ft,Nat.zero_le,et (Nat.zero_le n),show Nat.ble n (l.map U).length=true from et (by simpa using dm),show pN g 0 n (l.map U)=true from by cases g<;> first|rfl |(simp -implicitDefEqProofs only[pN,hc,Bool.or_true]),bz,bH,b9,Nat.sub_zero,List.map_take];cases g<;> first|rfl |simp [pu,pt]
 |cO d j off cap cs l cP cb bN hle aY=>show m9 1 (.cO (.g d j) off l.length cap 1) none (some (.int .i64 (n:Int))) none S' k=_;unfold m9;simp -implicitDefEqProofs only[p1,g9,ft,et (Nat.zero_le n),show Nat.ble n cap=true from et (by omega),show Nat.ble cap cap=true from et (aD _),et aY,bz,bH,Nat.sub_zero,Nat.zero_mul,Nat.add_zero,ite_self];rfl
theorem l3.cut{S:ag}{v:ae}{l:List Nat}(h:l3 S v l)(n:Nat)(dm:n≤l.length):l3 S (pu v n) (l.take n):=by
 cases h with
 |bW l g cb=>show l3 S (.bW 1 ((l.map U).take n) (pt g (l.map U).length n)) (l.take n);rw[←List.map_take];exact .bW _ _ (K9 cb _ _)
 |cO d j off cap cs l cP cb bN hle aY=>
  have e:(l.take n).length=n:=by simp;omega
  have:=l3.cO (s:=S) d j off cap cs (l.take n) cP cb (by
   rw[e];have ar:((cs.drop off).take l.length).take n=(l.map U).take n:=by rw[bN]
   rw[List.take_take,Nat.min_eq_left dm] at ar;rw[ar,List.map_take]) (by omega) (by omega)
  rwa [e] at this
theorem l4:∀(l:List Nat) (n:Nat) (cs:List ae),n=l.length→cs.take n=l.map U→chunk 1 n cs=l.map U
 |[],n,cs,dm,_=>by subst dm;rfl
 |x::l,n,cs,dm,h=>by
  subst dm;cases cs with
  |nil=>simp at h
  |cons c cs=>simp -implicitDefEqProofs only[bP,cY,fH,List.cons.injEq] at h;simp -implicitDefEqProofs only[bP,chunk,dT,b9];rw[l4 l l.length cs rfl h.2,fH,h.1];rfl
def jK(v:ae)(l:List Nat):Prop:=∃g,v=.bW 1 (l.map U) g∧∀a,g≠.dx a
theorem jK.rd{v:ae}{l:List Nat}(h:jK v l)(s:ag):l3 s v l:=by obtain⟨g,rfl,cb⟩:=h;exact .bW l g (oq.not cb _)
theorem jK.nil:jK (.bW 1 [] .nil) []:=⟨.nil,rfl,fun a e=>by cases e⟩
theorem l3.same{s S:ag}{v:ae}{l:List Nat}(h:l3 s v l)(f4:Child s S):Ab.freeze S v=some v:=by
 have e:=f4.aa;cases h with
 |bW l g cb=>
  show eC S _=_;cases g with
  |dx a=>obtain⟨x,i,rfl,a5⟩:=cb a rfl;simp -implicitDefEqProofs only[eC,gu];rw[if_pos (by omega)]
  |_=>rfl
 |cO d j off cap cs l cP cb bN hle aY=>show eC S (.cO (.g d j) off l.length cap 1)=_;simp -implicitDefEqProofs only[eC,gu];rw[if_neg (by omega),if_pos (by omega)]
theorem nb{S:ag}{j off n cap:Nat}{cs:List ae}(l:List Nat)(dm:n=l.length)(cb:S.own[j]? =some (.cells cs))(bN:(cs.drop off).take l.length=l.map U)(hle:off+l.length≤cs.length):∃fL,Ab.freeze S (.cO (.g S.aa j) off n cap 1)=some fL∧jK fL l:=by
 subst dm;refine⟨.bW 1 (l.map U) (if l.length=cap then .exact else .any),?_,_,rfl,fun a=>?_⟩
 ·show eC S (.cO (.g S.aa j) off l.length cap 1)=_;simp -implicitDefEqProofs only[eC,gu,if_true,gx,cb];rw[l4 l l.length (cs.drop off) rfl bN,hc];rw[if_pos];simp -implicitDefEqProofs only[Nat.mul_one,eI,bl];exact⟨et hle,rfl⟩
 ·split<;> (intro e;cases e)
theorem l3.freeze{s S:ag}{v:ae}{l:List Nat}(h:l3 S v l)(f4:Child s S):∃fL,Ab.freeze S v=some fL∧l3 s fL l:=by
 have A:=f4.aa;cases h with
 |bW l g cb=>
  cases g with
  |dx a=>
   obtain⟨x,i,rfl,a5⟩:=cb a rfl;by_cases r:x<S.aa
   ·refine⟨.bW 1 (l.map U) (.dx (.g x i)),?_,.bW l _ (fun a e=>⟨x,i,by cases e;rfl,by omega⟩)⟩;show(if x<S.aa then some (ae.bW 1 (l.map U) (.dx (.g x i))) else _)=_;rw[if_pos r]
   ·refine⟨.bW 1 (l.map U) .any,?_,.bW l _ (fun a e=>by cases e)⟩;show(if x<S.aa then _ else jU S 1 (l.map U))=_;unfold jU;rw[if_neg r,if_pos (hc l)]
  |nil=>exact⟨_,rfl,.bW l _ (fun a e=>by cases e)⟩
  |exact=>exact⟨_,rfl,.bW l _ (fun a e=>by cases e)⟩
  |any=>exact⟨_,rfl,.bW l _ (fun a e=>by cases e)⟩
 |cO d j off cap cs l cP cb bN hle aY=>
  by_cases e:d=S.aa
  ·subst e;have y:S.own[j]? =some (.cells cs):=by simpa [ag.get] using cb
   refine⟨.bW 1 (l.map U) (if l.length=cap then .exact else .any),?_,.bW l _ (fun a=>?_)⟩
   ·show eC S (.cO (.g S.aa j) off l.length cap 1)=_;simp -implicitDefEqProofs only[eC,gu,if_true,gx,y];rw[l4 l l.length (cs.drop off) rfl bN,hc];rw[if_pos];simp -implicitDefEqProofs only[Nat.mul_one,eI,bl];exact⟨et hle,rfl⟩
   ·split<;> (intro e;cases e)
  ·have u:d<S.aa:=by omega
   refine⟨.cO (.g d j) off l.length cap 1,?_,.cO d j off cap cs l (by omega) ?_ bN hle aY⟩
   ·show eC S (.cO (.g d j) off l.length cap 1)=_;simp -implicitDefEqProofs only[eC,gu];rw[if_neg e,if_pos u]
   ·simp -implicitDefEqProofs only[ag.get] at cb ⊢;rw[if_neg e,if_pos u,f4.up,f4.ro] at cb;by_cases dH:d=s.aa
    ·rw[if_pos dH]
     have:S.aa-1-d=0:=by omega
     rw[this] at cb;simpa using cb
    ·rw[if_neg dH,if_pos (by omega)]
     have:S.aa-1-d=(s.aa-1-d)+1:=by omega
     rw[this] at cb;simpa using cb
theorem l3.own{S:ag}{j off n cap:Nat}{cs:List ae}(l:List Nat)(dm:n=l.length)(cb:S.own[j]? =some (.cells cs))(bN:(cs.drop off).take l.length=l.map U)(hle:off+l.length≤cs.length)(aY:l.length≤cap):l3 S (.cO (.g S.aa j) off n cap 1) l:=by subst dm;exact .cO S.aa j off cap cs l (aD _) (by simpa [ag.get] using cb) bN hle aY
def gW(S:ag)(j:Nat)(l:List Nat):Prop:=S.own[j]? =some (.cells (l.map U))
def ag.put(S:ag)(j:Nat)(l:List Nat):ag:={S with own:=S.own.set j (.cells (l.map U))}
theorem gW.put{S:ag}{j:Nat}{l:List Nat}(h:gW S j l)(l':List Nat):gW (S.put j l') j l':=by have cX:=(ec.1 h).1;simp [gW,ag.put,cX]
theorem Child.put{s S:ag}(h:Child s S)(j:Nat)(l:List Nat):Child s (S.put j l):=⟨h.up,h.ro⟩
theorem gW.get{S:ag}{j:Nat}{l:List Nat}(h:gW S j l)(i n cap:Nat)(bL:i<l.length)(dm:i<n)(k:bd):(aV T G X).cc S (fun v S=>(aV T G X).aw S k none v) 1 (.cO (.l j) 0 n cap 1) (.int .i64 (i:Int))=k (U (l.getD i 0)) S:=by rw[hb _ _ _ _ _ _ _ dm,iN h (c:=U (l.getD i 0)) (by simp [List.getD,bL])]
theorem gW.gH{S:ag}{j:Nat}{l:List Nat}(h:gW S j l)(i n cap x:Nat)(bL:i<l.length)(dm:i<n)(k:bd):(aV T G X).cc S (fun v S=>(aV T G X).bX S k 1 v (U x)) 1 (.cO (.l j) 0 n cap 1) (.int .i64 (i:Int))=k .dead (S.put j (l.set i x)):=by rw[hb _ _ _ _ _ _ _ dm,kj];have e:(U x).fa=true:=rfl;simp -implicitDefEqProofs only[fe,e,ae.cells,bP,cB,bf,ft,bz,bH];unfold h1;rw[show S.get (.l j)=some (.cells (l.map U)) from h];simp -implicitDefEqProofs only[Nat.mul_one,bP,cB,bf,show Nat.ble (i+1) (l.map U).length=true from et (by simp;omega),show S.gO (.l j) [U x]=true from by simp [ag.gO,ag.oZ],List.all_cons,show(U x).eB=true from rfl,List.all_nil,bz,bH];show k .dead {S with own:=S.own.set j (.cells ((l.map U).set i (U x)))}=_;rw[ag.put,List.map_set]
theorem gW.make(S:ag)(n:Nat):gW (S.new (.cells (List.replicate n (U 0)))) S.own.length (List.replicate n 0):=by simp [gW,ag.new]
theorem gW.rd{S:ag}{j:Nat}{l:List Nat}(h:gW S j l)(n cap:Nat)(dm:n≤l.length)(aY:n≤cap):l3 S (.cO (.g S.aa j) 0 n cap 1) (l.take n):=by refine l3.own (l.take n) (by simp;omega) h ?_ (by simp;omega) (by simp;omega);simp [List.map_take]
theorem ix(d i o l c z:Nat):ae.ap d (.cO (.l i) o l c z)=.cO (.g d i) o l c z:=rfl
theorem tB:∀l:List Nat,(l.map U).flatMap ae.cells=l.map U
 |[]=>rfl
 |x::l=>by simp -implicitDefEqProofs only[fH,List.flatMap_cons,tB l];rfl
theorem tC:∀l:List Nat,(l.map U).all ae.eB=true
 |[]=>rfl
 |x::l=>by simp -implicitDefEqProofs only[fH,List.all_cons,tC l,Bool.and_true];rfl
theorem l3.lH{S:ag}{v:ae}{l:List Nat}(h:l3 S v l):dv S v=some (1,l.map U):=by
 cases h with
 |bW l g cb=>
  cases g with
  |dx a=>simp -implicitDefEqProofs only[dv,hc,if_true]
  |_=>rfl
 |cO d j off cap cs l cP cb bN hle aY=>simp -implicitDefEqProofs only[dv,cb];rw[l4 l l.length (cs.drop off) rfl bN,hc];rw[if_pos];simp -implicitDefEqProofs only[Nat.mul_one,eI,bl];exact⟨et hle,rfl⟩
theorem BB(vs cs:List ae)(h:vs.length≤cs.length):dL cs 0 vs=vs++cs.drop vs.length:=by
 apply List.ext_getElem?;intro j;rw[gQ _ _ _ (by omega)];by_cases cX:j<vs.length
 ·rw[if_pos (by omega),gm cX];rfl
 ·rw[if_neg (by omega),i7 (by omega),List.getElem?_drop];congr 1;omega
theorem gW.copy{S:ag}{v:ae}{l e:List Nat}{j n:Nat}(h:gW S j e)(bM:l3 S v l)(bN:l.length≤e.length)(dm:n=e.length)(k:bd):(aV T G X).rM S k 1 (.cO (.l j) 0 n n 1) v=k (.int .i64 (l.length:Int)) (S.put j (l++e.drop l.length)):=by subst dm;show lQ _ S k 1 (.cO (.l j) 0 e.length e.length 1) v=_;unfold lQ;simp -implicitDefEqProofs only[ft,bH];unfold copyV;simp -implicitDefEqProofs only[bM.lH,show S.get (.l j)=some (.cells (e.map U)) from h,ep,Nat.min_eq_left bN,ft,eI,bf,Nat.mul_one,et (aD _)];rw[show(l.map U).take l.length=l.map U from i6 (by simp),tB,tC];simp -implicitDefEqProofs only[bH];rw[BB _ _ (by simpa using bN)];simp -implicitDefEqProofs only[ep];show k _ {S with own:=S.own.set j (.cells (l.map U++(e.map U).drop l.length))}=_;rw[←List.map_drop,←List.map_append];rfl
theorem s0{S:ag}{j n:Nat}{cs vs:List ae}(h:S.own[j]? =some (.cells cs))(ar:vs.length=n)(av:cs.length=n)(bV:vs.all ae.eB=true):(aV T G X).bX S k n (.ref (.l j) 0) (.agg vs)=k .dead {S with own:=S.own.set j (.cells vs)}:=by
 rw[kj];unfold fe;simp -implicitDefEqProofs only[ae.fa,ae.cells,ar,ft,bz,bH];unfold h1;rw[show S.get (.l j)=some (.cells cs) from h];have e:dL cs 0 vs=vs:=tA _ _ (by omega);have dH:Nat.ble (0+vs.length) cs.length=true:=et (by omega);have r:S.gO (.l j) vs=true:=by simp [ag.gO,ag.oZ]
 simp -implicitDefEqProofs only[dH,r,bV,bz,bH,e];rfl
theorem vU{S:ag}{j n:Nat}{cs:List ae}(h:S.own[j]? =some (.cells cs))(dm:cs.length=n):k2 S (.ref (.l j) 0) (some n)=some (.agg cs):=by unfold k2;simp -implicitDefEqProofs only[show S.get (.l j)=some (.cells cs) from h,bf,b9];rw[if_pos (et (by omega)),i6 (by omega)]
theorem jK.freeze{v:ae}{l:List Nat}(h:jK v l)(S:ag):Ab.freeze S v=some v:=by obtain⟨g,rfl,cb⟩:=h;show eC S _=_;cases g<;> first|rfl |exact absurd rfl (cb _)
theorem jK.ap{v:ae}{l:List Nat}(h:jK v l)(d:Nat):v.ap d=v:=(h.rd default).ap d
theorem jK.eC{v:ae}{l:List Nat}(h:jK v l)(S:ag):Ab.eC S v=some v:=by obtain⟨g,rfl,cb⟩:=h;cases g<;> first|rfl |exact absurd rfl (cb _)
theorem jK.bc{v:ae}{l:List Nat}(h:jK v l):v.bc=true:=by obtain⟨g,rfl,cb⟩:=h;cases g<;> first|rfl |exact absurd rfl (cb _)
theorem jK.eB{v:ae}{l:List Nat}(h:jK v l):v.eB=true:=by obtain⟨g,rfl,cb⟩:=h;rfl
theorem jK.cut{v:ae}{l:List Nat}(h:jK v l)(n:Nat):jK (pu v n) (l.take n):=by obtain⟨g,rfl,cb⟩:=h;exact⟨pt g (l.map U).length n,by simp [pu,List.map_take],vT cb _ _⟩
theorem jK.e8(l:List Nat):jK (.bW 1 (l.map U) .exact) l:=⟨.exact,rfl,fun a e=>by cases e⟩
theorem La{S:ag}{j:Nat}{l:List Nat}(h:gW S j l):S.put j l=S:=by
 obtain⟨own,up,ro⟩:=S;simp -implicitDefEqProofs only[gW] at h;simp -implicitDefEqProofs only[ag.put];congr 1;apply List.ext_getElem?;intro i;by_cases e:j=i
 ·subst e;rw[List.getElem?_set_self (ec.1 h).1,h]
 ·rw[lL e]
theorem gW.HF{S:ag}{i j:Nat}{l:List Nat}(h:gW S j l)(eR:i≠j)(l':List Nat):gW (S.put i l') j l:=by simp -implicitDefEqProofs only[gW,ag.put] at h ⊢;rw[lL eR];exact h
theorem gW.new{S:ag}{j:Nat}{l:List Nat}(h:gW S j l)(o:cU):gW (S.new o) j l:=by simp -implicitDefEqProofs only[gW,ag.new] at h ⊢;rw[gm (ec.1 h).1];exact h
theorem gW.lt{S:ag}{j:Nat}{l:List Nat}(h:gW S j l):j<S.own.length:=(ec.1 h).1
theorem ot(a:ae)(l:List ae):(aV T G X).ca s k 0 (.d0 (a::l))=k a s:=gA _ _ _ rfl
theorem ou(a b:ae)(l:List ae):(aV T G X).ca s k 1 (.d0 (a::b::l))=k b s:=gA _ _ _ rfl
theorem vV(a b c:ae)(l:List ae):(aV T G X).ca s k 2 (.d0 (a::b::c::l))=k c s:=gA _ _ _ rfl
theorem tD(l:List Nat):(aV T G X).a9 s k 1 (l.map U)=k (.bW 1 (l.map U) .exact) s:=by
 refine jX 1 _ (hc l) ?_
 induction l with
 |nil=>rfl
 |cons x l e=>simp -implicitDefEqProofs only[fH,List.all_cons,e,Bool.and_true];rfl
end Go.Ab
end
section
namespace Go.Ab
def pv:ag:={own:=[],up:=[],ro:=[]}
def fB(w:World):bj:={F:=fun a=>if a.spot=none then w.cell? a else none,n:=fun _=>0,loc:=fun _ _=>0,lC:=fun _ _ _=>none}
theorem c5.init(w:World):c5 (fB w) pv w:=by
 have e:∀d i,pv.get (.g d i)=none:=by intro d i;simp [ag.get,pv]
 refine⟨fun a v h=>?_,fun d l h=>?_,fun d i o h=>?_,fun d i o fQ hF o' b h=>?_⟩
 ·simp only[fB] at h;split at h
  ·rename_i a7;exact⟨a7,h⟩
  ·cases h
 ·unfold ag.ao pv at h;simp at h;simp [h,fB]
 ·rw[e] at h;cases h
 ·rw[e] at h;cases h
structure Left (w w':World):Prop where
 size:w.heap.size≤w'.heap.size
 os:w'.os=w.os
 tape:w'.tape=w.tape
 output:w'.output=w.output
 Ew:∀b,b<w.heap.size→w'.heap[b]? =w.heap[b]?
theorem fx.left{w w':World}{κ':bj}{s':ag}(h:fx (fB w) pv w κ' s' w'):Left w w':=
 ⟨h.size,h.os,h.tape,h.output,fun b e=>h.kS b e (fun⟨d,i,o,cb,_⟩=>by simp [ag.get,pv] at cb)⟩
section
variable{P:Program}(hm:P.follows .mixedOrders=true){T:kN}(eN:T.pQ P){rG:Nat→Option c4}(yq:EH P T rG){G:Nat→ae}{X:Nat→List ae→ag→ah}(kL:Zv P rG G X)
include hm eN yq kL
theorem BC{n f:Nat}{args:List ae}{s':ag}{w:World}{xs:List Value}(h:call .not rG G X n f args pv=.ok (.bool true) s')(br:rG f≠none)(dV:ko (fB w) G)(a5:eu (fB w) 1 args xs):
  Calls P f xs.toArray w fun e w'=>e=.returned (.bool true)∧Left w w':=by
 have y:∃fn,P.funcs[f]? =some fn∧fn.body.isSome=true∧(fn.name== "runtime.NumGoroutine")=false:=by
  cases ed:rG f with
  |none=>exact absurd ed br
  |some A=>
   obtain⟨fn,ar,av⟩:=yq f A ed;unfold vE at av;cases r:fn.body with
   |none=>rw[r] at av;cases av
   |some c=>rw[r] at av;simp only[bl,Bool.not_eq_true'] at av;exact⟨fn,ar,by simp [r],av.1.1.1.1⟩
 have B:∀x w',mD (fB w) pv w (.bool true) s' x w'→x=.bool true∧Left w w':=fun x w' ⟨κ',ar,_,bV⟩=>by exact⟨dC.gY (b:=true) bV,ar.left⟩
 rcases(vG hm eN yq kL n 0).ok f args pv _ s' (fB w) w xs h (c5.init w) dV a5 with⟨x,w',ar,av⟩|⟨ar,av⟩
 ·obtain⟨fn,F,u,H⟩:=y;exfalso;have I:¬fn.name= "runtime.NumGoroutine" :=by simpa using H
  cases r:fn.body with
  |none=>rw[r] at u;cases u
  |some c=>simp [callFunc,F,I,r] at ar
 ·exact av.mono fun e w' ⟨x,he,J⟩=>by obtain⟨dH,K⟩:=B x w' J;exact⟨by rw[he,dH],K⟩
end
inductive p2 where
 |bool|int (k:IntKind)|str|bW (e:p2)|gH (jJ:List p2)
mutual
def p2.size:p2→Nat
 |.gH jJ=>p2.pw jJ
 |_=>1
def p2.pw:List p2→Nat
 |[]=>0
 |s::ui=>s.size+p2.pw ui
end
def elemV:List ae→ae
 |[c]=>c
 |cs=>.agg cs
section
variable{H:Type}
mutual
def ij:p2→DataW H→List ae
 |.bool,d=>match d with |.lit (.bool b)=>[.bool b]|_=>[]
 |.int k,d=>match d with |.lit (.int _ n)=>[.int k n]|_=>[]
 |.str,d=>match d with |.lit (.string e8)=>[.str (e8.map UInt8.toNat)]|_=>[]
 |.bW e,d=>match d with |.slice es _=>[.bW e.size (es.map fun x=>elemV (ij e x)) .any]|_=>[.bW e.size [] .nil]
 |.gH jJ,d=>match d with |.agg h9=>ov jJ h9|_=>[]
def ov:List p2→List (DataW H)→List ae
 |[],_=>[]
 |s::ui,l=>match l with |d::h9=>ij s d++ov ui h9|[]=>[]
end
mutual
def jY:p2→DataW H→Prop
 |.bool,d=>∃b,d=.lit (.bool b)
 |.int k,d=>∃n,d=.lit (.int k n)∧(Lit.int k n).wf=true
 |.str,d=>∃e8,d=.lit (.string e8)∧e8.length≤maxLen
 |.bW e,d=>d=.nil∨∃es rest,d=.slice es rest∧es.length+rest.length≤maxLen∧∀x,x∈es→jY e x
 |.gH jJ,d=>∃h9,d=.agg h9∧lI jJ h9
def lI:List p2→List (DataW H)→Prop
 |[],l=>l=[]
 |s::ui,l=>∃d h9,l=d::h9∧jY s d∧lI ui h9
end
mutual
def mJ(P:Program):p2→TypeId→Bool
 |.bool,t=>match P.underlying t with |some .bool=>true|_=>false
 |.int k,t=>match P.underlying t with |some (.int lN)=>decide (lN=k)|_=>false
 |.str,t=>match P.underlying t with |some .string=>true|_=>false
 |.bW e,t=>match P.underlying t with |some (.slice u)=>mJ P e u&&Nat.beq (P.cellsOf u) e.size&&Nat.blt 0 e.size|_=>false
 |.gH jJ,t=>match P.underlying t with |some (.struct sJ)=>s3 P jJ sJ.toList 0&&Nat.beq (P.cellsOf t) (p2.pw jJ)|_=>false
def s3(P:Program):List p2→List Field→Nat→Bool
 |[],sJ,_=>match sJ with |[]=>true|_=>false
 |s::ui,sJ,off=>match sJ with |f::sJ=>Nat.beq f.offset off&&Nat.beq (P.cellsOf f.type) s.size&&mJ P s f.type&&s3 P ui sJ (off+s.size)|[]=>false
end
structure HG (κ:bj) (D:Nat) (n:Nat) (as:List ae) (cs:List Value):Prop where
 Sv:eu κ D as cs
 len:cs.length=n
 ref:ae.aZ as=true
 one:∀c,c∈as→c.cells=[c]
theorem HG.MB{κ:bj}{D n:Nat}{as:List ae}{cs:List Value}(h:HG κ D n as cs):as.length=n:=by rw[←h.Sv.1,h.len]
theorem HG.elem{κ:bj}{D n:Nat}{as:List ae}{cs:List Value}(h:HG κ D n as cs):(elemV as).cells=as∧(elemV as).bc=true:=by
 unfold elemV;split
 ·rename_i c
  have:=h.ref;simp only[ae.aZ,Bool.and_true] at this;exact⟨h.one c (by simp),this⟩
 ·exact⟨rfl,by simpa [ae.bc] using h.ref⟩
theorem rO:∀{a b:List ae},ae.aZ a=true→ae.aZ b=true→ae.aZ (a++b)=true
 |[],b,_,h=>h
 |x::a,b,h,k=>by simp only[ae.aZ,bl] at h;simp only[List.cons_append,ae.aZ,h.1,rO h.2 k,bz]
theorem HG.append{κ:bj}{D n m:Nat}{as e8:List ae}{cs h9:List Value}(h:HG κ D n as cs)(k:HG κ D m e8 h9):HG κ D (n+m) (as++e8) (cs++h9):=
 ⟨h.Sv.append k.Sv,by simp [h.len,k.len],rO h.ref k.ref,fun c aY=>by
  rcases List.mem_append.1 aY with ar|ar
  ·exact h.one c ar
  ·exact k.one c ar⟩
theorem HG.single{κ:bj}{D:Nat}{a:ae}{v:Value}(h:dC κ D a v)(aU:a.bc=true)(ar:a.cells=[a]):HG κ D 1 [a] [v]:=
 ⟨.cons h (.nil _ _),rfl,by simp [ae.aZ,aU],fun c aY=>by simp only[List.mem_singleton] at aY;subst aY;exact ar⟩
variable{enc:TypeId×Value→H}{P:Program}{w:World}
mutual
theorem px(D:Nat):∀(EM:p2) (t:TypeId) (fuel:Nat) (cs:List Value) (d:DataW H) (eb:List MemPlace),mJ P EM t=true→DataW.trod enc P w 0 (fun _=>true) true fuel t cs=some (d,eb)→
  HG (fB w) D EM.size (ij EM d) cs∧jY EM d
 |.bool,t,fuel,cs,d,eb,a7,h=>by
  simp only[mJ] at a7;split at a7<;> try cases a7
  rename_i hu;obtain⟨b,rfl,e⟩:=DataW.trod_bool hu h;cases e;exact⟨.single (.bool b) rfl rfl,by simp only[jY];exact⟨b,rfl⟩⟩
 |.int k,t,fuel,cs,d,eb,a7,h=>by
  simp only[mJ] at a7;split at a7<;> try cases a7
  rename_i lN hu;have cZ:lN=k:=of_decide_eq_true a7;subst cZ;obtain⟨n,rfl,e,hw⟩:=DataW.trod_int hu h;cases e;exact⟨.single (.int lN n) rfl rfl,by simp only[jY];exact⟨n,rfl,hw⟩⟩
 |.str,t,fuel,cs,d,eb,a7,h=>by
  simp only[mJ] at a7;split at a7<;> try cases a7
  rename_i hu;obtain⟨s,rfl,e,hw⟩:=DataW.trod_string hu h;cases e;exact⟨.single (.str _ s rfl) rfl rfl,by simp only[jY];exact⟨_,rfl,hw⟩⟩
 |.bW e,t,fuel,cs,d,eb,a7,h=>by
  simp only[mJ] at a7;split at a7<;> try cases a7
  rename_i u hu;simp only[bl] at a7;obtain⟨⟨af0,e3⟩,lo⟩:=a7;have e3:=dh e3;have lo:0<e.size:=by simpa [Nat.blt_eq] using lo
  rcases DataW.trod_slice hu h with⟨rfl,dH⟩|⟨a,len,cap,lH,rest,n,rfl,rfl,dH,_,ub,oM,hlen,iH,af1,_⟩
  ·cases dH;exact⟨.single (.kQ _) rfl rfl,by simp only[jY];exact .inl trivial⟩
  ·cases dH;have row:∀i,i<len→∃x r,lH[i]? =some x∧(∀j,j<e.size→w.cell? (a.add (i*e.size+j))=r[j]?)∧HG (fB w) D e.size (ij e x.1) r∧jY e x.1:=fun i bL=>by
    have ar:=iH i bL;obtain⟨x,a5⟩:∃x,lH[i]? =some x:=⟨_,ei (by omega)⟩;rw[a5] at ar;obtain⟨r,aU,av⟩:=Option.bind_eq_some_iff.1 ar;obtain⟨_,sR,vj⟩:=World.cells?_some aU;obtain⟨k1,qb⟩:=px D e u n r x.1 x.2 af0 av;refine⟨x,r,a5,fun j cX=>?_,k1,qb⟩
    have:=vj j (by omega);rw[add_add,e3] at this;exact this
   have ZK:=(af1 rfl).1;have ji:∀y,y∈lH→∃r,HG (fB w) D e.size (ij e y.1) r∧jY e y.1:=fun y eM=>by
    obtain⟨i,bL,eM⟩:=List.getElem_of_mem eM;obtain⟨x,r,a5,_,k1,qb⟩:=row i (by omega)
    have:x=y:=by rw[ei bL,eM] at a5;exact(Option.some.inj a5).symm
    subst this;exact⟨r,k1,qb⟩
   have HH:∀y,y∈(lH.map (·.1)).map (fun x=>elemV (ij e x))→y.cells.length=e.size∧y.bc=true:=fun y eM=>by simp only[List.map_map,List.mem_map,Function.comp] at eM;obtain⟨z,g8,rfl⟩:=eM;obtain⟨r,k1,_⟩:=ji z g8;exact⟨by rw[k1.elem.1,k1.MB],k1.elem.2⟩
   have xJ:((lH.map (·.1)).map (fun x=>elemV (ij e x))).length=len:=by simp [hlen]
   have MC:=e6 ((lH.map (·.1)).map (fun x=>elemV (ij e x))) e.size (fun y eM=>(HH y eM).1);rw[xJ] at MC;have cell:∀j,j<len*e.size→∃c v,(((lH.map (·.1)).map (fun x=>elemV (ij e x))).flatMap ae.cells)[j]? =some c∧w.cell? (a.add j)=some v∧dC (fB w) D c v:=fun j cX=>by
    have fE:j/e.size<len:=Nat.div_lt_of_lt_mul (by rw[ez];exact cX);have io:j%e.size<e.size:=Nat.mod_lt _ lo;have u2:j/e.size*e.size+j%e.size=j:=by rw[ez];exact Nat.div_add_mod j e.size
    obtain⟨x,r,a5,aY,k1,_⟩:=row _ fE;have aY:=aY _ io;rw[u2] at aY;have dH:((lH.map (·.1)).map (fun x=>elemV (ij e x)))[j/e.size]? =some (elemV (ij e x.1)):=by simp [a5]
    have f1:=nJ _ e.size _ _ (fun y eM=>(HH y eM).1) dH _ io;rw[u2,k1.elem.1] at f1;obtain⟨c,EN⟩:∃c,(ij e x.1)[j%e.size]? =some c:=⟨_,ei (by rw[k1.MB];exact io)⟩;obtain⟨v,bM,ZL⟩:=k1.Sv.get EN;exact⟨c,v,by rw[f1,EN],by rw[aY,bM],ZL⟩
   have MD:0<len→a.spot=none:=fun eS=>by
    obtain⟨c,v,_,bM,_⟩:=cell 0 (Nat.mul_pos eS lo)
    have:a.add 0=a:=by simp [Addr.add]
    rw[this] at bM;exact World.cell?_spot bM
   refine⟨.single ?_ (by simp [ae.bc]) rfl,?_⟩
   ·have key:dC (fB w) D (.bW e.size ((lH.map (·.1)).map (fun x=>elemV (ij e x))) .any) (.slice (some a) ((lH.map (·.1)).map (fun x=>elemV (ij e x))).length cap):=by
     refine .bW e.size _ .any a cap (fun j=>(w.cell? (a.add j)).getD undef) trivial (by rw[xJ];exact ub) (fun eR=>MD ?_) (fun y eM=>(HH y eM).1) (.inl fun y eM=>(HH y eM).2) (fun j cX=>?_) (fun j c aY=>?_)
     ·rw[←xJ];exact List.length_pos_iff.2 eR
     ·rw[MC] at cX;obtain⟨c,v,_,bM,_⟩:=cell j cX;have eS:0<len:=Nat.pos_of_ne_zero fun ma=>by rw[ma] at cX;simp at cX
      simp only[fB,mx (MD eS),if_true,bM,Option.getD_some]
     ·have cX:j<len*e.size:=by rw[←MC];exact(ec.1 aY).1
      obtain⟨n2,v,kT,bM,ZL⟩:=cell j cX;rw[aY] at kT;cases kT;simp only[bM,Option.getD_some];exact ZL
    rw[xJ] at key;exact key
   ·simp only[jY];refine .inr ⟨_,_,rfl,by simp [hlen,ZK];omega,fun x a5=>?_⟩;simp only[List.mem_map] at a5;obtain⟨y,eM,rfl⟩:=a5;exact(ji y eM).choose_spec.2
 |.gH jJ,t,fuel,cs,d,eb,a7,h=>by
  simp only[mJ] at a7;split at a7<;> try cases a7
  rename_i sJ hu;simp only[bl] at a7;have e3:=dh a7.2;obtain⟨xs,n,rfl,dH,bN,f7,br⟩:=DataW.trod_struct hu h;cases dH
  have:=rP D jJ sJ.toList 0 n cs xs a7.1 (by simpa using f7) (by rw[bN,e3];omega) (fun i f bL=>by simpa using br i f (by simpa using bL));refine⟨?_,?_⟩
  ·simpa [ij,p2.size] using this.1
  ·simp only[jY];exact⟨_,rfl,this.2⟩
theorem rP(D:Nat):∀(ui:List p2) (sJ:List Field) (off n:Nat) (cs:List Value) (xs:List (DataW H×List MemPlace)),s3 P ui sJ off=true→xs.length=sJ.length→cs.length=off+p2.pw ui→
  (∀(i:Nat) (f:Field),sJ[i]? =some f→DataW.trod enc P w 0 (fun _=>true) true n f.type ((cs.drop f.offset).take (P.cellsOf f.type))=xs[i]?)→
  HG (fB w) D (p2.pw ui) (ov ui (xs.map (·.1))) (cs.drop off)∧lI ui (xs.map (·.1))
 |[],sJ,off,n,cs,xs,a7,a5,bN,br=>by
  cases sJ with
  |cons f sJ=>simp [s3] at a7
  |nil=>obtain rfl:xs=[]:=jE (by simpa using a5);simp only[p2.pw,Nat.add_zero] at bN;rw[mm (by omega)];exact⟨⟨.nil _ _,rfl,rfl,fun c aY=>by simp [ov] at aY⟩,by simp [lI]⟩
 |s::ui,sJ,off,n,cs,xs,a7,a5,bN,br=>by
  cases sJ with
  |nil=>simp [s3] at a7
  |cons f sJ=>
   simp only[s3,bl] at a7;obtain⟨⟨⟨ar,av⟩,bV⟩,dD⟩:=a7;have ar:=dh ar;have av:=dh av;cases xs with
   |nil=>simp at a5
   |cons x xs=>
    have s4:=br 0 f rfl;simp only[List.getElem?_cons_zero] at s4;rw[ar,av] at s4;obtain⟨k1,qb⟩:=px D s f.type n _ x.1 x.2 bV s4;simp only[p2.pw] at bN;obtain⟨BD,aet⟩:=rP D ui sJ (off+s.size) n cs xs dD (by simpa using a5) (by omega) (fun i xt bL=>by simpa using br (i+1) xt (by simpa using bL));refine⟨?_,?_⟩
    ·have dH:cs.drop off=(cs.drop off).take s.size++cs.drop (off+s.size):=by
      rw[←List.drop_drop];exact(List.take_append_drop _ _).symm
     rw[dH];simpa [ov,p2.pw] using k1.append BD
    ·simp only[fH,lI];exact⟨_,_,rfl,qb,aet⟩
end
end
end Go.Ab
end
section
namespace Go.Ab
open Go.ChangeShapes Go.WideShapes
section
variable{H:Type}{enc:TypeId×Value→H}{P:Program}
def BE:p2→DataW H→ae
 |.gH jJ,d=>.agg (ij (.gH jJ) d)
 |EM,d=>(ij EM d).headD .dead
theorem EO{W:World}(D:Nat){EM:p2}{t:TypeId}{v:Value}{d:DataW H}{eb:List MemPlace}{base:Nat}(a7:mJ P EM t=true)(bM:Value.okWide P W .any base t v)(h:DataW.Trod enc P W 0 (fun _=>true) true t v d eb):
  dC (fB W) D (BE EM d) v∧jY EM d:=by
 obtain⟨fuel,h⟩:=h;obtain⟨ar,av⟩:=px D EM t fuel _ d eb a7 h;refine⟨?_,av⟩;have single:EM.size=1→(∀cs,v≠.agg cs)→dC (fB W) D ((ij EM d).headD .dead) v:=fun g8 eR=>by
  have aY:v.cells.toList=[v]:=by
   cases v<;> try rfl
   exact absurd rfl (eR _)
  rw[aY] at ar;have r:=ar.MB;rw[g8] at r
  match fE:ij EM d,r with
  |[c],_=>obtain⟨x,a5,aU⟩:=ar.Sv.get (j:=0) (c:=c) (by rw[fE];rfl);cases a5;exact aU
 cases EM with
 |gH jJ=>
  simp only[mJ] at a7;split at a7<;> try cases a7
  rename_i sJ hu;unfold Value.okWide at bM;rw[hu] at bM;obtain⟨cs,rfl,_,_⟩:=bM;exact .agg _ cs.toList ar.Sv.1 ar.Sv.2
 |bool=>
  refine single rfl fun cs e=>?_
  subst e;simp only[mJ] at a7;split at a7<;> try cases a7
  rename_i hu;simp [Value.okWide,hu,Cell.okWide,Cell.ok] at bM
 |int k=>
  refine single rfl fun cs e=>?_
  subst e;simp only[mJ] at a7;split at a7<;> try cases a7
  rename_i hu;simp [Value.okWide,hu,Cell.okWide,Cell.ok] at bM
 |str=>
  refine single rfl fun cs e=>?_
  subst e;simp only[mJ] at a7;split at a7<;> try cases a7
  rename_i hu;simp [Value.okWide,hu,Cell.okWide,Cell.ok] at bM
 |bW e=>
  refine single rfl fun cs e=>?_
  subst e;simp only[mJ] at a7;split at a7<;> try cases a7
  rename_i hu;simp [Value.okWide,hu,Cell.okWide,Cell.ok] at bM
def ME:List p2→List (DataW H)→List ae
 |s::ui,d::h9=>BE s d::ME ui h9
 |_,_=>[]
def vW(P:Program):List p2→List TypeId→Bool
 |[],[]=>true
 |s::ui,t::e=>mJ P s t&&vW P ui e
 |_,_=>false
theorem tE{W:World}(D:Nat){base:Nat}:∀(r:List p2) (e:List TypeId) (vs:List Value) (h9:List (DataW H)) (eb:List MemPlace),vW P r e=true→(∀(j:Nat) t v,e[j]? =some t→vs[j]? =some v→Value.okWide P W .any base t v)→
  DataW.TrodAll enc P W 0 (fun _=>true) true e vs h9 eb→eu (fB W) D (ME r h9) vs∧lI r h9
 |[],[],vs,h9,eb,_,_,h=>by
  cases vs with
  |cons v vs=>simp [DataW.TrodAll] at h
  |nil=>
   cases h9 with
   |cons d h9=>simp [DataW.TrodAll] at h
   |nil=>exact⟨.nil _ _,by simp [lI]⟩
 |s::ui,[],_,_,_,a7,_,_=>by simp [vW] at a7
 |[],t::e,_,_,_,a7,_,_=>by simp [vW] at a7
 |s::ui,t::e,vs,h9,eb,a7,bM,h=>by
  cases vs with
  |nil=>cases h9<;> simp [DataW.TrodAll] at h
  |cons v vs=>
   cases h9 with
   |nil=>simp [DataW.TrodAll] at h
   |cons d h9=>simp only[DataW.TrodAll] at h;obtain⟨p,q,ar,av,_⟩:=h;simp only[vW,bl] at a7;obtain⟨k1,qb⟩:=EO D a7.1 (bM 0 t v rfl rfl) ar;obtain⟨BD,aet⟩:=tE D ui e vs h9 q a7.2 (fun j Sg fL ed u=>bM (j+1) Sg fL (by simpa using ed) (by simpa using u)) av;refine⟨.cons k1 BD,?_⟩;simp only[lI];exact⟨_,_,rfl,qb,aet⟩
theorem Left.sameAt{W e:World}(h:Left W e){p:MemPlace}(fz:p.block<W.heap.size):W.sameAt e p:=by
 cases p with
 |cell b off=>show e.cell? _=W.cell? _;unfold World.cell?;simp only[h.Ew b fz]
 |map b=>exact h.Ew b fz
theorem yE{W r:World}(bN:laidOutB P=true)(u:Left W r):∀(e:List TypeId) (vs:List Value) (h9:List (DataW H)) (eb:List MemPlace),(∀t,t∈e→P.readableRec t=true∧t<P.types.size)→(∀p,p∈eb→p.block<W.heap.size)→
  DataW.TrodAll enc P W 0 (fun _=>true) true e vs h9 eb→DataW.TrodAll enc P r 0 (fun b=>decide (b<W.heap.size)) true e vs h9 eb
 |[],vs,h9,eb,_,_,h=>by cases vs<;> cases h9<;> simp only[DataW.TrodAll] at h ⊢;exact h
 |t::e,vs,h9,eb,ed,fz,h=>by
  cases vs with
  |nil=>cases h9<;> simp [DataW.TrodAll] at h
  |cons v vs=>
   cases h9 with
   |nil=>simp [DataW.TrodAll] at h
   |cons d h9=>
    simp only[DataW.TrodAll] at h ⊢;obtain⟨p,q,ar,av,rfl⟩:=h;have aU:=ed t (by simp);exact⟨p,q,WideElems.Trod_stays bN aU.1 aU.2 ar (fun x a5=>u.sameAt (fz x (by simp [a5]))) (fun x a5=>by simpa using fz x (by simp [a5])),
     yE bN u e vs h9 q (fun Sg y=>ed Sg (by simp [y])) (fun x a5=>fz x (by simp [a5])) av,rfl⟩
theorem Left.keptBut{W e:World}(h:Left W e)(may:MemPlace→Prop):W.keptBut e may:=by
 refine⟨h.os,h.output,fun i bL=>?_⟩;rw[h.Ew i bL]
 have:∃o,W.heap[i]? =some o:=⟨_,Array.getElem?_eq_getElem bL⟩;obtain⟨o,r⟩:=this;rw[r];cases o<;> simp
theorem EP{f:Func}{s:ChangeSpec}{W A:World}{args:Array Value}{h9 gs:List (DataW H)}{before:List MemPlace}(r:DataW.Whole enc P f.params.toList s.vars false W args.toList h9 gs before)(bM:s.vars=[])
  (br:∀(l:List (DataW H)),l.length=f.params.size→s.fn H l= {results:=[.lit (.bool true)],args:=l,vars:=[]}){tb:TypeId}(J:f.resultTypes= #[tb])(K:P.underlying tb=some .bool)(bN:laidOutB P=true)
  (M:∀t,t∈f.params.toList→P.readableRec t=true∧t<P.types.size)(B:Left W A):s.post enc P f false true false false W args (.bool true) A:=by
 have N:=r;have F:=r.lt;obtain⟨p,q,I,u,rfl,_,_⟩:=r;rw[bM] at u;have O:gs=[]∧q=[]:=by cases gs<;> simp [DataW.TrodVars] at u;exact⟨rfl,u⟩
 obtain⟨rfl,rfl⟩:=O;have hlen:∀(e:List TypeId) (vs:List Value) (h9:List (DataW H)) (eb:List MemPlace),DataW.TrodAll enc P W 0 (fun _=>true) true e vs h9 eb→h9.length=e.length:=by
  intro e
  induction e with
  |nil=>intro vs h9 eb h;cases vs<;> cases h9<;> simp [DataW.TrodAll] at h ⊢
  |cons t e U=>intro vs h9 eb h;cases vs<;> cases h9<;> simp only[DataW.TrodAll] at h;obtain⟨_,_,_,av,_⟩:=h;simp [U _ _ _ av]
 have y:=br (h9++[]) (by simpa using hlen _ _ _ _ I);refine⟨h9,[],p++[],[],p,[],N,?_,?_,?_,B.keptBut _,fun h=>by cases h⟩
 ·rw[y,J];exact⟨[],[],⟨1,by simp [DataW.trod,Value.cells,K]⟩,rfl,rfl⟩
 ·rw[y];simp only[qw] at F ⊢;exact yE bN B _ _ _ _ M F I
 ·rw[y,bM];rfl
end
end Go.Ab
end
section
namespace Go.Ab
def aeu:Value→ae
 |.bool b=>.bool b
 |.int k n=>.int k n
 |.string _=>.str []
 |.pointer _=>.hJ
 |.slice _ _ _=>.bW 0 [] .nil
 |.map _=>.fh
 |.nilFunc=>.hZ
 |.nilIface=>.hK
 |_=>.dead
noncomputable def MF(P:Program):kN:={d8:=fun t=>P.underlying t,info:=fun t=>(P.info? t).bind fun i=>i.zero.map fun z=>(i.size,i.bytes,z),Zu:=fun t=>match (P.info? t).bind (·.zero) with |some z=>z.cells.toList.map aeu|none=>[],eqs:=fun t=> !P.stoodInHeld t&& !P.eqGuardType P.depth t}
theorem MG{o:Option TypeInfo}{n b:Nat}{z:Value}(h:(o.bind fun i=>i.zero.map fun z=>(i.size,i.bytes,z))=some (n,b,z)):∃i,o=some i∧i.size=n∧i.bytes=b∧i.zero=some z:=by obtain⟨i,bL,h⟩:=Option.bind_eq_some_iff.1 h;obtain⟨Zt,g8,h⟩:=Option.map_eq_some_iff.1 h;cases h;exact⟨i,bL,rfl,rfl,g8⟩
theorem rQ(P:Program):(MF P).pQ P where
 d8:=fun _ _ h=>h
 info:=fun t _ _ _ h=>MG (o:=P.info? t) h
 eqs:=fun t h=>by have e:(!P.stoodInHeld t&& !P.eqGuardType P.depth t)=true:=h;simpa using e
 Ex:=fun _ _ h=>by cases h
noncomputable def aev(P:Program)(n:Nat):kN:={MF P with Ex:=fun f j=>Nat.beq f n&&Nat.beq j 0}
theorem Sw(P:Program)(n:Nat)(h:Bg P n 0):(aev P n).pQ P where
 d8:=(rQ P).d8
 info:=(rQ P).info
 eqs:=(rQ P).eqs
 Ex:=fun f j e=>by have e:(Nat.beq f n&&Nat.beq j 0)=true:=e;simp only[bl] at e;have ar:=dh e.1;have av:=dh e.2;subst ar;subst av;exact h
def ag.on(s:ag)(o:List cU):ag:={own:=o,up:=s.own::s.up,ro:=s.ro}
theorem ag.g4(s:ag)(o:List cU):(s.on o).aa=s.aa+1:=s.jf
theorem ag.EQ(s:ag)(o:List cU)(d:Nat):(s.on o).ao d=if d=s.aa+1 then some o else s.ao d:=by
 have h:=s.q7 d;unfold ag.ao at h ⊢;rw[ag.g4];rw[ag.jf] at h;by_cases ar:d=s.aa+1
 ·simp [ar,ag.on]
 ·simp only[ar,↓reduceIte] at h ⊢;exact h
theorem ag.kD(s:ag)(o:List cU)(d i:Nat):(s.on o).get (.g d i)=if d=s.aa+1 then o[i]? else s.get (.g d i):=by rw[ag.mw,ag.mw,ag.EQ];split<;> rfl
theorem ag.HI(s:ag)(o:List cU){d i:Nat}{b:cU}(h:s.get (.g d i)=some b):(s.on o).get (.g d i)=some b:=by rw[ag.kD,if_neg (by have:=ag.gy h;omega)];exact h
theorem c5.off{κ:bj}{s:ag}{o:List cU}{w:World}(h:c5 κ (s.on o) w):c5 κ s w:=h.pop (s:=s.on o) rfl
theorem Live.on{κ:bj}{s:ag}{o:List cU}{b:Nat}(h:Live κ (s.on o) b):Live κ s b∨∃i x,o[i]? =some x∧bi κ (s.aa+1) i x=some b:=by
 obtain⟨d,i,x,ar,av⟩:=h;rw[ag.kD] at ar;split at ar
 ·rename_i cP;exact .inr ⟨i,x,ar,by rw[←cP];exact av⟩
 ·exact .inl ⟨d,i,x,ar,av⟩
theorem Live.up{κ:bj}{s:ag}{o:List cU}{b:Nat}(h:Live κ s b):Live κ (s.on o) b:=by obtain⟨d,i,x,ar,av⟩:=h;exact⟨d,i,x,s.HI o ar,av⟩
theorem c5.ow{κ:bj}{s:ag}{o:List cU}{w:World}(a7:c5 κ (s.on o) w){i:Nat}{x:cU}{b:Nat}(a5:o[i]? =some x)(e:bi κ (s.aa+1) i x=some b):¬Live κ s b:=fun⟨d,j,y,ar,av⟩=>by have:=a7.inj (s.aa+1) i x d j y b (by rw[ag.kD,if_pos rfl];exact a5) (s.HI o ar) e av;have cP:=ag.gy ar;omega
def bj.back(κ κ':bj)(D:Nat):bj:=
 {F:=κ'.F,n:=fun d=>if d=D then κ.n d else κ'.n d,loc:=fun d i=>if d=D then κ.loc d i else κ'.loc d i,lC:=fun d i m=>if d=D then κ.lC d i m else κ'.lC d i m}
theorem c5.lay{l:Nat}{κ κ':bj}{s s':ag}{o:List cU}{w w':World}(a7:c5 κ (s.on o) w)(he:hx l κ s w κ' s' w')(u:c5 κ' s' w')(bN:∀i x,o[i]? =some x→bi κ (s.aa+1) i x≠some l):
  ∃I,c5 I (s'.on o) w'∧hx l κ (s.on o) w I (s'.on o) w'∧(∀i,I.loc (s.aa+1) i=κ.loc (s.aa+1) i):=by
 have cP:s'.aa=s.aa:=he.aa;have N:gV κ' (κ.back κ' (s.aa+1)) (s'.aa+1):=by
  refine⟨fun _ _ h=>h,fun d A=>?_,fun d i A _=>?_,fun d i m x A _ h=>?_⟩
  ·simp only[bj.back];rw[if_neg (by omega)];exact aD _
  ·simp only[bj.back];rw[if_neg (by omega)]
  ·simp only[bj.back];rw[if_neg (by omega)];exact h
 have J:gV κ (κ.back κ' (s.aa+1)) (s.aa+1+1):=by
  refine⟨he.k.F,fun d A=>?_,fun d i A bL=>?_,fun d i m x A bL h=>?_⟩
  ·simp only[bj.back];split
   ·exact aD _
   ·exact he.k.n d (by omega)
  ·simp only[bj.back];split
   ·rfl
   ·exact he.k.loc d i (by omega) bL
  ·simp only[bj.back];split
   ·exact h
   ·exact he.k.lC d i m x (by omega) bL h
 have K:∀d i x,s'.get (.g d i)=some x→AP (κ.back κ' (s.aa+1)) d i w' x∧bi (κ.back κ' (s.aa+1)) d i x=bi κ' d i x:=fun d i x h=>(u.obj d i x h).bU (u.nH h) (N.low (by have:=ag.gy h;omega)) (fun m=>by simp only[bj.back];rw[if_neg (by have:=ag.gy h;omega)]) (fun b _=>⟨rfl,fun _=>rfl⟩)
 have M:∀i x,o[i]? =some x→AP (κ.back κ' (s.aa+1)) (s.aa+1) i w' x∧bi (κ.back κ' (s.aa+1)) (s.aa+1) i x=bi κ (s.aa+1) i x:=fun i x a5=>by
  have cb:(s.on o).get (.g (s.aa+1) i)=some x:=by rw[ag.kD,if_pos rfl];exact a5
  refine(a7.obj _ i x cb).bU (a7.nH cb) J (fun m=>by simp [bj.back]) (fun b r=>?_);have H:=a7.ow a5 r;have O:b<w.heap.size:=by rcases a7.md ⟨_,i,x,cb,r⟩ with⟨C,e,jG,B⟩|⟨fm,clock,B⟩<;> exact(Array.getElem?_eq_some_iff.1 B).1
  refine⟨he.kS b O (fun e=>bN i x a5 (e ▸ r)) H,fun y=>?_⟩;show κ'.F _=κ.F _;cases h7:κ.F ⟨b,y,none⟩ with
  |some v=>exact he.k.F _ _ h7
  |none=>
   cases U:κ'.F ⟨b,y,none⟩ with
   |none=>rfl
   |some v=>
    rcases he.o4 ⟨b,y,none⟩ (by rw[U];simp) with ar|ar|ar
    ·exact absurd h7 ar
    ·exact absurd ar (by simp only;omega)
    ·exact absurd ar H
 have get:∀d i x,(s'.on o).get (.g d i)=some x→(d=s.aa+1∧o[i]? =some x)∨(d≠s.aa+1∧s'.get (.g d i)=some x):=fun d i x h=>by
  rw[ag.kD,cP] at h;split at h
  ·rename_i ar;exact .inl ⟨ar,h⟩
  ·rename_i ar;exact .inr ⟨ar,h⟩
 have Lb:∀d i x b,(s'.on o).get (.g d i)=some x→bi (κ.back κ' (s.aa+1)) d i x=some b→(d=s.aa+1∧o[i]? =some x∧bi κ (s.aa+1) i x=some b)∨(s'.get (.g d i)=some x∧bi κ' d i x=some b):=fun d i x b h r=>by
  rcases get d i x h with⟨rfl,ar⟩|⟨_,ar⟩
  ·exact .inl ⟨rfl,ar,(M i x ar).2 ▸ r⟩
  ·exact .inr ⟨ar,(K d i x ar).2 ▸ r⟩
 have V:∀i x b,o[i]? =some x→bi κ (s.aa+1) i x=some b→b<w.heap.size:=fun i x b a5 r=>by
  have cb:(s.on o).get (.g (s.aa+1) i)=some x:=by rw[ag.kD,if_pos rfl];exact a5
  rcases a7.md ⟨_,i,x,cb,r⟩ with⟨C,e,jG,B⟩|⟨fm,clock,B⟩<;> exact(Array.getElem?_eq_some_iff.1 B).1
 have apart:∀i x b d j y,o[i]? =some x→bi κ (s.aa+1) i x=some b→s'.get (.g d j)=some y→bi κ' d j y=some b→False:=fun i x b d j y a5 r eM Y=>a7.ow a5 r (he.live b (V i x b a5 r) ⟨d,j,y,eM,Y⟩)
 refine⟨κ.back κ' (s.aa+1),⟨u.iG,fun d l h=>?_,fun d i x h=>?_,fun d i x fQ hF kI b h Z e hX=>?_⟩,⟨by rw[ag.g4];exact J,by rw[ag.g4,ag.g4,cP],he.size,he.os,he.tape,he.output,fun b r dm H=>he.kS b r dm (fun h=>H h.up),fun b r h=>?_,fun a ab=>?_⟩,fun i=>by simp [bj.back]⟩
 ·rw[ag.EQ,cP] at h;simp only[bj.back];split at h
  ·rename_i ar;simp only[bm] at h;rw[if_pos ar,ar];exact a7.len (s.aa+1) l (by rw[ag.EQ,if_pos rfl,h])
  ·rename_i ar;rw[if_neg ar];exact u.len d l h
 ·rcases get d i x h with⟨rfl,ar⟩|⟨_,ar⟩
  ·exact(M i x ar).1
  ·exact(K d i x ar).1
 ·rcases Lb d i x b h e with⟨rfl,ar,av⟩|⟨ar,av⟩<;> rcases Lb fQ hF kI b Z hX with⟨rfl,bV,dD⟩|⟨bV,dD⟩
  ·have cb:∀i x,o[i]? =some x→(s.on o).get (.g (s.aa+1) i)=some x:=fun i x a5=>by rw[ag.kD,if_pos rfl];exact a5
   exact a7.inj _ i x _ hF kI b (cb i x ar) (cb hF kI bV) av dD
  ·exact(apart i x b fQ hF kI ar av bV dD).elim
  ·exact(apart hF kI b d i x bV dD ar av).elim
  ·exact u.inj d i x fQ hF kI b ar bV av dD
 ·obtain⟨d,i,x,ar,av⟩:=h;rcases Lb d i x b ar av with⟨rfl,bV,dD⟩|⟨bV,dD⟩
  ·exact⟨s.aa+1,i,x,by rw[ag.kD,if_pos rfl];exact bV,dD⟩
  ·exact(he.live b r ⟨d,i,x,bV,dD⟩).up
 ·rcases he.o4 a ab with ar|ar|ar
  ·exact .inl ar
  ·exact .inr (.inl ar)
  ·exact .inr (.inr ar.up)
theorem hx.under{l:Nat}{A y H:bj}{B r F:ag}{o o':List cU}{u I J:World}(eS:hx l A B u y r I)(h:hx l y (r.on o) I H (F.on o') J)(qk:∀i x b,o[i]? =some x→bi y (r.aa+1) i x=some b→u.heap.size≤b):hx l A B u H F J:=by
 have cP:F.aa=r.aa:=by have:=h.aa;rw[ag.g4,ag.g4] at this;omega
 have hG:∀b,b<u.heap.size→Live y (r.on o) b→Live A B b:=fun b e bN=>by
  rcases bN.on with ar|⟨i,x,ar,av⟩
  ·exact eS.live b e ar
  ·exact absurd (qk i x b ar av) (by omega)
 refine⟨eS.k.trans (h.k.low (by rw[ag.g4,eS.aa];omega)),cP.trans eS.aa,Nat.le_trans eS.size h.size,h.os.trans eS.os,h.tape.trans eS.tape,h.output.trans eS.output,fun b e dm K=>?_,fun b e bN=>?_,fun a M=>?_⟩
 ·rw[h.kS b (gd e eS.size) dm (fun bN=>K (hG b e bN)),eS.kS b e dm K]
 ·exact hG b e (h.live b (gd e eS.size) bN.up)
 ·rcases h.o4 a M with ar|ar|ar
  ·exact eS.o4 a ar
  ·exact .inr (.inl (Nat.le_trans eS.size ar))
  ·by_cases e:a.block<u.heap.size
   ·exact .inr (.inr (hG _ e ar))
   ·exact .inr (.inl (by omega))
section
variable{T:kN}{fV:Nat}{rd:Bool}
theorem fq{a b:ad}{c:Code}(h:dq T fV rd (.seq a b) c=true):∃x y,c=.seq x y∧dq T fV rd a x=true∧dq T fV rd b y=true:=by cases c<;> simp only[dq,b4,bl] at h;exact⟨_,_,rfl,h.1,h.2⟩
theorem gp{os:List cS}{c:Code}(h:dq T fV rd (.region none os) c=true):∃id ops,c=.region id ops false∧jl T fV ops os ops.toList=true:=by
 cases c with
 |region id ops d=>
  cases d with
  |true=>simp [dq] at h
  |false=>exact⟨id,ops,rfl,by simpa only[dq] using h⟩
 |_=>simp [dq] at h
theorem l5{o:bF}{a b:ad}{c:Code}(h:dq T fV rd (.cond o a b) c=true):∃o' x y,c=.cond o' x y∧cH o o'=true∧dq T fV rd a x=true∧dq T fV rd b y=true:=by cases c<;> simp only[dq,b4,bl] at h;exact⟨_,_,_,rfl,h.1.1,h.1.2,h.2⟩
theorem li{i:Nat}{a:ad}{c:Code}(h:dq T fV rd (.block i a) c=true):∃x,c=.block i x∧dq T fV rd a x=true:=by cases c<;> simp only[dq,b4,bl] at h;have e:=dh h.1;subst e;exact⟨_,rfl,h.2⟩
theorem rR{m:f5}{a:ad}{c:Code}(h:dq T fV rd (.loop m a) c=true):∃x,c=.loop x∧dq T fV rd a x=true:=by cases c<;> simp only[dq,b4] at h;exact⟨_,rfl,h⟩
theorem ox{i:Nat}{c:Code}(h:dq T fV rd (.exit i) c=true):c=.exit i:=by cases c<;> simp only[dq,b4] at h;have e:=dh h;rw[e]
theorem BF{c:Code}(h:dq T fV rd .ret c=true):c=.ret:=by cases c<;> simp only[dq,b4] at h;rfl
theorem nS{ro:Option Nat}{P:Program}{Q:Exit→Act→World→Prop}{a:Act}{w:World}{c:Code}(h:dq T fV rd .skip c=true)(e:Q .normal a w):c.wpIn (xM ro) 0 P Q a w:=by
 cases c<;> simp only[dq,b4] at h
 ·exact wpIn_skip e
 ·exact wpIn_label e
end
def kE:Env:={F:=.not,au:=fun _=>.dead,call:=fun _ _ _=>.fail,loop:=fun step bU ao s k=>dS step bU 0 ao s k}
theorem MH(P:Program):m4 P kE:=⟨⟨0,fun _ _ _ _ _=>rfl⟩,fun _ _ _ _ _ h=>(by cases h),fun _ _ _ _ _ _ _ _ h=>(by cases h)⟩
theorem ZM(κ:bj):ko κ kE.au:=fun _=>⟨.dead _,rfl⟩
theorem BG{ty:TypeId}{ρ:Operand→Value}{c:Call}{l:Nat}(aY:∃y,c.callee=.value y∧ρ y=.func (.yield l) #[] #[]):∀dst pos after guard,execOp ρ ⟨dst,.call c,ty,pos,after,guard⟩=Instr.yield l (c.args.map ρ):=by
 intro dst pos after guard;obtain⟨y,eM,e⟩:=aY;have ar:resolve ρ c ty=(Pure.pure {target:=.fn (.yield l) #[],args:= #[]++c.args.map ρ}:Sem Deferred):=by simp only[resolve,eM,e,Deferred.ofValue]
 show(do let d←resolve ρ c ty;invoke d.target d.args)=_;rw[ar];simp [invoke]
section
variable{P:Program}{T:kN}(eN:T.pQ P){κ:bj}{s:ag}{w:World}{g:Nat→ae}{a:Act}{fV B:Nat}
include eN
theorem iI{os:List cS}{id:Nat}{ops:Array Oper}(dk:jl T fV ops os ops.toList=true)(h:fJ κ s w g a fV B kE.au){g':Nat→ae}{s':ag}(aU:g3 kE os g s=some (g',s')){Q:Exit→Act→World→Prop}
  (u:∀κ' w' fY,fx κ s w κ' s' w'→fJ κ' s' w' g' fY fV B kE.au→Q .normal fY w'):(Code.region id ops false).wpIn (xM none) 0 P Q a w:=by
 obtain⟨hlen,y⟩:=ib dk;refine wpIn_region (qF eN rfl (MH P) (List.range ops.size) os (by rw[hlen];simp) (fun j i A cX F=>?_) h aU u);obtain⟨H,e⟩:=ec.1 cX;rw[List.getElem_range] at e;subst e;have r:j<ops.size:=by simpa using H
 exact⟨ops[j],Array.getElem?_eq_getElem r,y j A _ F (by simp [r])⟩
omit eN in
theorem jB{o:bF}{o':Operand}(e:cH o o'=true)(h:fJ κ s w g a fV B kE.au){b:Bool}(r:aq kE.au g o=.bool b):a.eval o'=.bool b:=by have:=bu h.ao h.au e;rw[r] at this;exact dC.gY (b:=b) this
end
def af2:List cS:=[⟨some 4,none,.alloc (List.replicate 40 (.bool false))⟩]
def aew:List cS:=[⟨some 8,none,.load none (.t 1)⟩,⟨some 9,none,.fv 1 40 (.t 4) (.t 8)⟩,⟨none,none,.store 1 (.t 9) (.c (.bool true))⟩]
def aex:List cS:=[⟨some 10,none,.load none (.t 1)⟩,⟨some 5,none,.move (.t 10)⟩]
def aey:List cS:=[⟨some 11,none,.move (.t 5)⟩,⟨some 12,none,.bin .geq (.t 11) (.c (.int .i64 0))⟩]
def aez:List cS:=[⟨some 13,none,.move (.t 5)⟩,⟨some 14,none,.bin .sub (.t 13) (.c (.int .i64 1))⟩,⟨some 5,none,.move (.t 14)⟩]
def aeA:List cS:=[⟨some 15,none,.move (.t 5)⟩,⟨some 16,none,.fv 1 40 (.t 4) (.t 15)⟩,⟨some 17,none,.load none (.t 16)⟩,⟨some 18,none,.un .not (.t 17)⟩]
def MI:List cS:=[⟨some 19,none,.move (.t 5)⟩,⟨some 20,none,.load none (.t 1)⟩,⟨some 21,none,.bin .neq (.t 19) (.t 20)⟩,⟨some 22,none,.move (.t 21)⟩,⟨some 23,(some (22,true)),.move (.t 0)⟩,⟨some 24,(some (22,true)),.move (.t 5)⟩,
 ⟨some 25,(some (22,true)),.eA (.t 23) [.t 24]⟩,⟨some 26,(some (22,true)),.un .not (.t 25)⟩,⟨some 27,none,.pick (.t 22) (.t 26) (.c (.bool false))⟩]
def aeB:List cS:=[⟨some 28,none,.load none (.t 2)⟩,⟨some 29,none,.move (.t 5)⟩,⟨some 30,none,.jb 12 (.t 28) (.t 29)⟩,⟨some 31,none,.fieldAddr 2 (.t 30)⟩,⟨some 32,none,.load none (.t 31)⟩,⟨some 33,none,.len false (.t 32)⟩,⟨some 34,none,.move (.c (.int .i64 0))⟩]
def aeC:List cS:=[⟨some 35,none,.bin .lss (.t 34) (.t 33)⟩]
def aeD:List cS:=[⟨some 36,none,.jb 1 (.t 32) (.t 34)⟩,⟨some 37,none,.load none (.t 36)⟩,⟨some 7,none,.move (.t 37)⟩]
def Zc:List cS:=[⟨some 38,none,.move (.t 7)⟩,⟨some 39,none,.fv 1 40 (.t 4) (.t 38)⟩,⟨none,none,.store 1 (.t 39) (.c (.bool true))⟩]
def Zd:List cS:=[⟨some 40,none,.bin .add (.t 34) (.c (.int .i64 1))⟩,⟨some 34,none,.move (.t 40)⟩]
def aeE:ad:=.seq (.region none aeC) (.seq (.cond (.t 35) .skip (.exit 2)) (.seq (.block 3 (.seq (.region none aeD) (.region none Zc))) (.region none Zd)))
def Ze:ad:=.seq (.region none aeB) (.block 2 (.loop .e aeE))
def Zf:ad:=.seq (.seq (.region none MI) (.cond (.t 27) .ret .skip)) Ze
def Zg:ad:=.seq (.seq (.region none aey) (.cond (.t 12) .skip (.exit 0))) (.seq (.block 1 (.seq (.seq (.region none aeA) (.cond (.t 18) (.exit 1) .skip)) Zf)) (.region none aez))
def af3:ad:=.seq (.region none af2) (.seq (.region none aew) (.seq (.region none aex) (.block 0 (.loop .e Zg))))
theorem dX{E:Env}{d:Option Nat}{op:gk}{os:List cS}{g:Nat→ae}{s s':ag}{v:ae}(h:aM E g s .ok .panic op=.ok v s'):g3 E (⟨d,none,op⟩::os) g s=g3 E os (cK g d v) s':=by simp only[g3,jx,f8,h,fF]
def h3(m:List Nat):List ae:=(List.range 40).map fun j=>.bool (m.elem j)
theorem nc(m:List Nat):(h3 m).length=40:=by simp [h3]
theorem nd(m:List Nat){x:Nat}(h:x<40):(h3 m)[x]? =some (.bool (m.elem x)):=by simp [h3,List.getElem?_range h]
theorem BH(m:List Nat){x:Nat}(h:x<40):dL (h3 m) x [.bool true]=h3 (x::m):=by
 apply List.ext_getElem?;intro j;by_cases cX:j<40
 ·rw[gQ _ _ _ (by rw[nc];simp;omega)];by_cases a5:j=x
  ·subst a5;rw[if_pos (by simp),nd _ cX];simp
  ·rw[if_neg (by simp;omega),nd _ cX,nd _ cX]
   have:(x::m).elem j=m.elem j:=by simp only[List.elem_cons];rw[show(j==x)=false from by simpa using a5]
   rw[this]
 ·rw[List.getElem?_eq_none (by rw[fR,nc];omega),List.getElem?_eq_none (by rw[nc];omega)]
structure xp (hG:ae) (l i:Nat) (k:Int) (g:Nat→ae):Prop where
 s4:g 0=.km l
 hj:g 1=.bh [.int .i64 i]
 g2:g 2=.bh [hG]
 ns:g 4=.ref (.l 0) 0
 im:g 5=.int .i64 k
structure qW (hG:ae) (l i:Nat) (g:Nat→ae):Prop where
 s4:g 0=.km l
 hj:g 1=.bh [.int .i64 i]
 g2:g 2=.bh [hG]
 ns:g 4=.ref (.l 0) 0
abbrev dZ(s:ag)(m:List Nat):ag:=s.on [.cells (h3 m)]
theorem BI(s:ag)(m:List Nat){x:Nat}(h:x<40):fe kE (dZ s m) .ok 1 (.ref (.l 0) (0+x*1)) (.bool true)=.ok .dead (dZ s (x::m)):=by have dH:(dZ s m).get (.l 0)=some (.cells (h3 m)):=rfl;simp only[fe,ae.fa,ae.cells,bP,cB,bf,ft,bz,bH,h1,dH,Nat.mul_one];have e:Nat.ble (x+1) (h3 m).length=true:=et (by rw[nc];omega);simp only[kE,aX.not,e,ag.gO,ag.oZ,Bool.true_or,bz,List.all_cons,List.all_nil,ae.eB,bH,BH m h];rfl
theorem MJ{n:Int}(ar: -2≤n)(av:n≤100):IntKind.i64.wrap n=n:=by simp [IntKind.wrap,IntKind.bits,IntKind.signed];split<;> omega
theorem pT(n:Nat):e1 (.int .i64 (n:Int))=some n:=by simp [e1]
section
variable{s:ag}{hG:ae}{l i:Nat}{k:Int}{g:Nat→ae}{m:List Nat}
theorem pY(h:qW hG l i g)(bL:i<40):∃g',g3 kE aew g (dZ s m)=some (g',dZ s (i::m))∧qW hG l i g':=by
 refine⟨_,(dX (v:=.int .i64 i) (s':=dZ s m) ?_).trans ((dX (v:=.ref (.l 0) (0+i*1)) (s':=dZ s m) ?_).trans ((dX (v:=.dead) (s':=dZ s (i::m)) ?_).trans rfl)),?_⟩
 ·simp only[aM,aq,h.hj,dY,eU];rfl
 ·simp only[aM,aq,cK,h.ns,Nat.reduceEqDiff,if_false,if_true,hM,pT];rw[show Nat.blt i 40=true from by rw[Nat.blt_eq];exact bL];rfl
 ·simp only[aM,aq,cK,if_true,ae.ap];exact BI s m bL
 ·exact⟨by simp [cK,h.s4],by simp [cK,h.hj],by simp [cK,h.g2],by simp [cK,h.ns]⟩
theorem q6(h:qW hG l i g):∃g',g3 kE aex g (dZ s m)=some (g',dZ s m)∧xp hG l i i g':=by
 refine⟨_,(dX (v:=.int .i64 i) (s':=dZ s m) ?_).trans ((dX (v:=.int .i64 i) (s':=dZ s m) ?_).trans rfl),?_⟩
 ·simp only[aM,aq,h.hj,dY,eU];rfl
 ·simp only[aM,aq,cK,if_true];rfl
 ·exact⟨by simp [cK,h.s4],by simp [cK,h.hj],by simp [cK,h.g2],by simp [cK,h.ns],by simp [cK]⟩
theorem Ep(h:xp hG l i k g):∃g',g3 kE aey g (dZ s m)=some (g',dZ s m)∧xp hG l i k g'∧g' 12=.bool (decide (k≥0)):=by
 refine⟨_,(dX (v:=.int .i64 k) (s':=dZ s m) ?_).trans ((dX (v:=.bool (decide (k≥0))) (s':=dZ s m) ?_).trans rfl),?_,?_⟩
 ·simp only[aM,aq,h.im];rfl
 ·simp only[aM,aq,cK,if_true];rfl
 ·exact⟨by simp [cK,h.s4],by simp [cK,h.hj],by simp [cK,h.g2],by simp [cK,h.ns],by simp [cK,h.im]⟩
 ·simp [cK]
theorem afV(h:xp hG l i k g)(ar:0≤k)(av:k<40):∃g',g3 kE aez g (dZ s m)=some (g',dZ s m)∧xp hG l i (k-1) g':=by
 refine⟨_,(dX (v:=.int .i64 k) (s':=dZ s m) ?_).trans ((dX (v:=.int .i64 (k-1)) (s':=dZ s m) ?_).trans ((dX (v:=.int .i64 (k-1)) (s':=dZ s m) ?_).trans rfl)),?_⟩
 ·simp only[aM,aq,h.im];rfl
 ·simp only[aM,aq,cK,if_true];show qV kE _ _ (some (.int .i64 (IntKind.i64.wrap (k-1))))=_;rw[MJ (by omega) (by omega)];rfl
 ·simp only[aM,aq,cK,if_true];rfl
 ·exact⟨by simp [cK,h.s4],by simp [cK,h.hj],by simp [cK,h.g2],by simp [cK,h.ns],by simp [cK]⟩
theorem afW(h:xp hG l i k g){x:Nat}(cZ:k=x)(a5:x<40):∃g',g3 kE aeA g (dZ s m)=some (g',dZ s m)∧xp hG l i k g'∧g' 18=.bool (!m.elem x):=by
 subst cZ;refine⟨_,(dX (v:=.int .i64 (x:Nat)) (s':=dZ s m) ?_).trans ((dX (v:=.ref (.l 0) (0+x*1)) (s':=dZ s m) ?_).trans ((dX (v:=.bool (m.elem x)) (s':=dZ s m) ?_).trans ((dX (v:=.bool (!m.elem x)) (s':=dZ s m) ?_).trans rfl))),?_,?_⟩
 ·simp only[aM,aq,h.im];rfl
 ·simp only[aM,aq,cK,h.ns,Nat.reduceEqDiff,if_false,if_true,hM,pT];rw[show Nat.blt x 40=true from by rw[Nat.blt_eq];exact a5];rfl
 ·simp only[aM,aq,cK,if_true,dY,show(dZ s m).get (.l 0)=some (.cells (h3 m)) from rfl,bf,Nat.mul_one];have ar:=nd m a5;obtain⟨e,he⟩:=ec.1 ar;rw[iP e,he];rfl
 ·simp only[aM,aq,cK,if_true];rfl
 ·exact⟨by simp [cK,h.s4],by simp [cK,h.hj],by simp [cK,h.g2],by simp [cK,h.ns],by simp [cK,h.im]⟩
 ·simp [cK]
end
theorem BJ{es:List ae}{hv:List Nat}(h:n7 es=some hv):es=hv.map fun n=>.int .i64 (n:Nat):=by
 induction es generalizing hv with
 |nil=>simp only[n7,bm] at h;subst h;rfl
 |cons e es u=>
  unfold n7 at h;split at h
  ·rename_i r;cases r
  ·rename_i n l r;cases r;split at h
   ·rename_i dm;obtain⟨l',ar,av⟩:=Option.map_eq_some_iff.1 h;subst av;rw[fH,←u ar];simp [Int.toNat_of_nonneg dm]
   ·cases h
  ·cases h
theorem ER{es:List ae}{A:List (List Nat)}(h:o2 es=some A):A.length=es.length∧∀(j:Nat) (e:ae),es[j]? =some e→∃hv,A[j]? =some hv∧lR e=some hv:=by
 induction es generalizing A with
 |nil=>simp only[o2,bm] at h;subst h;exact⟨rfl,fun j e cX=>by simp at cX⟩
 |cons e es r=>
  simp only[o2] at h;obtain⟨hv,ar,av⟩:=Option.bind_eq_some_iff.1 h;obtain⟨u,bV,dD⟩:=Option.map_eq_some_iff.1 av;subst dD;obtain⟨i1,i2⟩:=r bV;refine⟨by simp [i1],fun j hX cX=>?_⟩;cases j with
  |zero=>simp at cX;subst cX;exact⟨hv,rfl,ar⟩
  |succ j=>exact i2 j hX (by simpa using cX)
theorem BK{e:ae}{hv:List Nat}(h:lR e=some hv):∃cs qp,e=.agg cs∧cs[2]? =some (.bW 1 (hv.map fun n=>.int .i64 (n:Nat)) qp):=by
 unfold lR at h;split at h
 ·rename_i cs;split at h
  ·rename_i es qp aY;exact⟨cs,qp,rfl,by rw[aY,BJ h]⟩
  ·cases h
 ·cases h
theorem yF{sz:Nat}:∀(n:Nat) (cs:List ae) (j:Nat),j<n→(chunk sz n cs)[j]? =some (mn sz (cs.drop (j*sz)))
 |0,_,_,h=>absurd h (Nat.not_lt_zero _)
 |n+1,cs,0,_=>by simp [chunk]
 |n+1,cs,j+1,h=>by simp only[chunk,List.getElem?_cons_succ,yF n (cs.drop sz) j (by omega),List.drop_drop];rw[show sz+j*sz=(j+1)*sz by rw[e9];omega]
theorem MK{S:ag}{hG:ae}{es:List ae}{d:Nat}{κ:bj}{x:Value}(bM:dC κ d hG x)(he:dv S hG=some (12,es)){k:Nat}{e:ae}(cZ:es[k]? =some e){hv:List Nat}(F:lR e=some hv):
  ∃p q qp,kK kE S .ok 12 hG (.int .i64 (k:Nat))=.ok p S∧gP kE S .ok 2 p=.ok q S∧dY kE S .ok none q=.ok (.bW 1 (hv.map fun n=>.int .i64 (n:Nat)) qp) S:=by
 obtain⟨cs,qp,rfl,aY⟩:=BK F;have y:=(ec.1 cZ).1;have bW:∀z h g',hG=.bW z h g'→z=12→h=es→∃p q qp,kK kE S .ok 12 hG (.int .i64 (k:Nat))=.ok p S∧gP kE S .ok 2 p=.ok q S∧dY kE S .ok none q=.ok (.bW 1 (hv.map fun n=>.int .i64 (n:Nat)) qp) S:=fun z h g' ar av bV=>by
  subst ar av bV;refine⟨.bh cs,.bh (cs.drop 2),qp,?_,rfl,?_⟩
  ·simp only[kK,pT,ft,bH,cZ];rfl
  ·obtain⟨dD,r⟩:=ec.1 aY;simp only[dY,iP dD,r];rfl
 unfold dv at he;split at he
 ·split at he
  ·simp only[bm,e0] at he;exact bW _ _ _ rfl he.1 he.2
  ·cases he
 ·simp only[bm,e0] at he;exact bW _ _ _ rfl he.1 he.2
 ·simp at he
 ·rename_i a off len cap sz;split at he
  ·rename_i H cb;simp only at he;split at he
   ·rename_i A;simp only[bm,e0] at he;obtain⟨rfl,he⟩:=he;simp only[bl] at A;have hle:=dW A.1.2;have B:k<len:=by rw[←he,fs] at y;exact y
    have u:=cZ;rw[←he,yF len _ k B] at u;have I:cs=((H.drop off).drop (k*12)).take 12:=by simp only[mn,bm,ae.agg.injEq] at u;exact u.symm
    rw[I,List.getElem?_take,if_pos (by omega),List.getElem?_drop,List.getElem?_drop] at aY;refine⟨.ref a (off+k*12),.ref a (off+k*12+2),qp,?_,rfl,?_⟩
    ·simp only[kK,pT,ft,show Nat.blt k len=true from by rw[Nat.blt_eq];exact B,bz,bH];rfl
    ·rw[show off+(k*12+2)=off+k*12+2 by omega] at aY;obtain⟨dD,r⟩:=ec.1 aY;simp only[dY,cb,iP dD,r];rfl
   ·cases he
  ·cases he
 ·cases he
section
variable{s:ag}{hG:ae}{l i:Nat}{k:Int}{g:Nat→ae}{m:List Nat}
structure ML (hG:ae) (l i:Nat) (k:Int) (hv:List Nat) (q:Nat) (g:Nat→ae):Prop extends xp hG l i k g where
 Sx:∃qp,g 32=.bW 1 (hv.map fun n=>.int .i64 (n:Nat)) qp
 MM:g 33=.int .i64 hv.length
 Lc:g 34=.int .i64 q
theorem afY(h:xp hG l i k g){x:Nat}(cZ:k=x){es:List ae}{d:Nat}{κ:bj}{v:Value}(bM:dC κ d hG v)(he:dv (dZ s m) hG=some (12,es)){e:ae}(a5:es[x]? =some e){hv:List Nat}(r:lR e=some hv):∃g',g3 kE aeB g (dZ s m)=some (g',dZ s m)∧ML hG l i k hv 0 g':=by
 subst cZ;obtain⟨p,q,qp,ar,av,bV⟩:=MK bM he a5 r;refine⟨_,(dX (v:=hG) (s':=dZ s m) ?_).trans ((dX (v:=.int .i64 (x:Nat)) (s':=dZ s m) ?_).trans ((dX (v:=p) (s':=dZ s m) ?_).trans ((dX (v:=q) (s':=dZ s m) ?_).trans ((dX (v:=.bW 1 (hv.map fun n=>.int .i64 (n:Nat)) qp) (s':=dZ s m) ?_).trans ((dX (v:=.int .i64 (hv.length:Nat)) (s':=dZ s m) ?_).trans ((dX (v:=.int .i64 0) (s':=dZ s m) ?_).trans rfl)))))),?_⟩
 ·simp only[aM,aq,h.g2,dY,eU];rfl
 ·simp only[aM,aq,cK,h.im,Nat.reduceEqDiff,if_false];rfl
 ·simp only[aM,aq,cK,Nat.reduceEqDiff,if_false,if_true];exact ar
 ·simp only[aM,aq,cK,if_true];exact av
 ·simp only[aM,aq,cK,if_true];exact bV
 ·simp only[aM,aq,cK,if_true,p5,ep];rfl
 ·simp only[aM,aq];rfl
 ·exact⟨⟨by simp [cK,h.s4],by simp [cK,h.hj],by simp [cK,h.g2],by simp [cK,h.ns],by simp [cK,h.im]⟩,⟨qp,by simp [cK]⟩,by simp [cK],by simp [cK]⟩
theorem aes{hv:List Nat}{q:Nat}(h:ML hG l i k hv q g):∃g',g3 kE aeC g (dZ s m)=some (g',dZ s m)∧ML hG l i k hv q g'∧g' 35=.bool (decide (q<hv.length)):=by
 refine⟨_,(dX (v:=.bool (decide ((q:Int)<hv.length))) (s':=dZ s m) ?_).trans rfl,?_,?_⟩
 ·simp only[aM,aq,h.MM,h.Lc];rfl
 ·obtain⟨qp,e⟩:=h.Sx;exact⟨⟨by simp [cK,h.s4],by simp [cK,h.hj],by simp [cK,h.g2],by simp [cK,h.ns],by simp [cK,h.im]⟩,⟨qp,by simp [cK,e]⟩,by simp [cK,h.MM],by simp [cK,h.Lc]⟩
 ·simp [cK]
theorem af4{hv:List Nat}{q x:Nat}(h:ML hG l i k hv q g)(a5:hv[q]? =some x):∃g',g3 kE aeD g (dZ s m)=some (g',dZ s m)∧ML hG l i k hv q g'∧g' 7=.int .i64 x:=by
 obtain⟨qp,e⟩:=h.Sx;refine⟨_,(dX (v:=.bh [.int .i64 x]) (s':=dZ s m) ?_).trans ((dX (v:=.int .i64 x) (s':=dZ s m) ?_).trans ((dX (v:=.int .i64 x) (s':=dZ s m) ?_).trans rfl)),?_,?_⟩
 ·simp only[aM,aq,e,h.Lc,kK,pT,ft,bH,g6,a5,ej];rfl
 ·simp only[aM,aq,cK,if_true,dY,eU];rfl
 ·simp only[aM,aq,cK,if_true];rfl
 ·exact⟨⟨by simp [cK,h.s4],by simp [cK,h.hj],by simp [cK,h.g2],by simp [cK,h.ns],by simp [cK,h.im]⟩,⟨qp,by simp [cK,e]⟩,by simp [cK,h.MM],by simp [cK,h.Lc]⟩
 ·simp [cK]
theorem af5{hv:List Nat}{q x:Nat}(h:ML hG l i k hv q g)(e:g 7=.int .i64 x)(a5:x<40):∃g',g3 kE Zc g (dZ s m)=some (g',dZ s (x::m))∧ML hG l i k hv q g':=by
 obtain⟨qp,r⟩:=h.Sx;refine⟨_,(dX (v:=.int .i64 x) (s':=dZ s m) ?_).trans ((dX (v:=.ref (.l 0) (0+x*1)) (s':=dZ s m) ?_).trans ((dX (v:=.dead) (s':=dZ s (x::m)) ?_).trans rfl)),?_⟩
 ·simp only[aM,aq,e];rfl
 ·simp only[aM,aq,cK,h.ns,Nat.reduceEqDiff,if_false,if_true,hM,pT];rw[show Nat.blt x 40=true from by rw[Nat.blt_eq];exact a5];rfl
 ·simp only[aM,aq,cK,if_true,ae.ap];exact BI s m a5
 ·exact⟨⟨by simp [cK,h.s4],by simp [cK,h.hj],by simp [cK,h.g2],by simp [cK,h.ns],by simp [cK,h.im]⟩,⟨qp,by simp [cK,r]⟩,by simp [cK,h.MM],by simp [cK,h.Lc]⟩
theorem af6{hv:List Nat}{q:Nat}(h:ML hG l i k hv q g)(fE:(q:Int)+1≤9223372036854775807):∃g',g3 kE Zd g (dZ s m)=some (g',dZ s m)∧ML hG l i k hv (q+1) g':=by
 obtain⟨qp,e⟩:=h.Sx;have hw:IntKind.i64.wrap ((q:Int)+1)=((q+1:Nat):Int):=by simp [IntKind.wrap,IntKind.bits,IntKind.signed];split<;> omega
 refine⟨_,(dX (v:=.int .i64 ((q+1:Nat):Int)) (s':=dZ s m) ?_).trans ((dX (v:=.int .i64 ((q+1:Nat):Int)) (s':=dZ s m) ?_).trans rfl),?_⟩
 ·simp only[aM,aq,h.Lc];show qV kE _ _ (some (.int .i64 (IntKind.i64.wrap ((q:Int)+1))))=_;rw[hw];rfl
 ·simp only[aM,aq,cK,if_true];rfl
 ·exact⟨⟨by simp [cK,h.s4],by simp [cK,h.hj],by simp [cK,h.g2],by simp [cK,h.ns],by simp [cK,h.im]⟩,⟨qp,by simp [cK,e]⟩,by simp [cK,h.MM],by simp [cK]⟩
end
section
variable{P:Program}{T:kN}(eN:T.pQ P){s:ag}{hG:ae}{l i:Nat}{k:Int}{B:Nat}
include eN
theorem ES{c:Code}(dk:dq T 41 false (.loop .e aeE) c=true){hv:List Nat}(K:∀x,x∈hv→x<40)(hlen:hv.length<9223372036854775807){κ:bj}{w:World}{g:Nat→ae}{a:Act}{m:List Nat}(h:fJ κ (dZ s m) w g a 41 B kE.au)(cb:ML hG l i k hv 0 g):
  c.wpIn (xM none) 0 P (fun e fY w'=>e=.exit 2∧∃κ' g' jv,fx κ (dZ s m) w κ' (dZ s jv) w'∧fJ κ' (dZ s jv) w' g' fY 41 B kE.au∧xp hG l i k g'∧∀x,jv.elem x=(hv++m).elem x) a w:=by
 obtain⟨aD,rfl,ar⟩:=rR dk;obtain⟨aE,aF,rfl,M,av⟩:=fq ar;obtain⟨aG,aH,rfl,N⟩:=gp M;obtain⟨aI,aJ,rfl,O,bV⟩:=fq av;obtain⟨aK,aL,ce,rfl,EN,U,V⟩:=l5 O;obtain rfl:=ox V;obtain⟨aM,aN,rfl,y,Y⟩:=fq bV;obtain⟨aO,rfl,y⟩:=li y;obtain⟨aP,aQ,rfl,Z,aa⟩:=fq y;obtain⟨aR,aS,rfl,ab⟩:=gp Z;obtain⟨aT,aU,rfl,ac⟩:=gp aa;obtain⟨aV,aW,rfl,ad⟩:=gp Y;refine pf (fun n fY w'=>∃κ' g' q jv,n=hv.length-q∧q≤hv.length∧fx κ (dZ s m) w κ' (dZ s jv) w'∧fJ κ' (dZ s jv) w' g' fY 41 B kE.au∧ML hG l i k hv q g'∧∀x,jv.elem x=(hv.take q++m).elem x) (fun n fY w' af=>?_) (n:=hv.length) ⟨κ,g,0,m,rfl,Nat.zero_le _,.refl _ _ _,h,cb,fun x=>rfl⟩;obtain⟨aX,hj,q,BD,dm,fE,A,ag,ah,F⟩:=af;obtain⟨g2,ai,H,I⟩:=aes (s:=s) (m:=BD) ah;refine wpIn_seq (iI eN N ag ai fun aj aY aZ J u=>?_);refine wpIn_seq ?_;by_cases r:q<hv.length
 ·refine wpIn_cond_true (jB EN u (b:=true) (by show g2 35=_;rw[I];simp [r])) (nS U ?_);have a5:hv[q]? =some hv[q]:=ei r;obtain⟨a0,ak,al,am⟩:=af4 (s:=s) (m:=BD) H a5;refine wpIn_seq (wpIn_block (wpIn_seq (iI eN ab u ak fun a1 a2 a3 an ao=>?_)));obtain⟨ns,ap,aq⟩:=af5 (s:=s) (m:=BD) al am (K _ (ml r));refine iI eN ac ao ap fun a4 a6 a7 aw ax=>?_
  obtain⟨im,ay,az⟩:=af6 (s:=s) (m:=hv[q]::BD) aq (by omega);refine iI eN ad ax ay fun aA a8 a9 aB aC=>?_
  refine⟨hv.length-(q+1),by omega,aA,im,q+1,hv[q]::BD,rfl,r,(((A.trans J).trans an).trans aw).trans aB,aC,az,fun x=>?_⟩;rw[List.take_succ_eq_append_getElem r]
  have:=F x;simp only[List.elem_eq_mem,List.mem_cons,List.mem_append,qv,or_false,decide_eq_decide] at this ⊢;rw[this];constructor
  ·rintro (h|h|h)
   ·exact .inl (.inr h)
   ·exact .inl (.inl h)
   ·exact .inr h
  ·rintro ((h|h)|h)
   ·exact .inr (.inl h)
   ·exact .inl h
   ·exact .inr (.inr h)
 ·refine wpIn_cond_false (jB EN u (b:=false) (by show g2 35=_;rw[I];simp [r])) (wpIn_exit ?_);refine⟨rfl,aj,g2,BD,A.trans J,u,H.1,fun x=>?_⟩;rw[F x,i6 (by omega)]
theorem MN{c:Code}(dk:dq T 41 false Ze c=true){es:List ae}{hv:List Nat}{x:Nat}{e:ae}(cZ:k=x)(r:∀x,x∈hv→x<40)(hlen:hv.length<9223372036854775807){κ:bj}{w:World}{g:Nat→ae}{a:Act}{m:List Nat}(h:fJ κ (dZ s m) w g a 41 B kE.au)(cb:xp hG l i k g)
  {d:Nat}{u:bj}{v:Value}(bM:dC u d hG v)(he:dv (dZ s m) hG=some (12,es))(a5:es[x]? =some e)(y:lR e=some hv):
  c.wpIn (xM none) 0 P (fun e fY w'=>e=.normal∧∃κ' g' jv,fx κ (dZ s m) w κ' (dZ s jv) w'∧fJ κ' (dZ s jv) w' g' fY 41 B kE.au∧xp hG l i k g'∧∀x,jv.elem x=(hv++m).elem x) a w:=by
 obtain⟨V,Y,rfl,A,ar⟩:=fq dk;obtain⟨Z,aa,rfl,F⟩:=gp A;obtain⟨ab,rfl,av⟩:=li ar;obtain⟨g2,H,I⟩:=afY (s:=s) (m:=m) cb cZ bM he a5 y;refine wpIn_seq (iI eN F h H fun ac ad af J K=>?_);refine wpIn_block (wpIn_mono (ES eN av r hlen K I) ?_)
 rintro e fY w' ⟨rfl,κ',g',jv,M,N,O,U⟩
 exact⟨rfl,κ',g',jv,J.trans M,N,O,U⟩
end
theorem fJ.aeF{κ κ':bj}{s s':ag}{w w':World}{g:Nat→ae}{a:Act}{fV B l:Nat}{G:Nat→ae}(h:fJ κ s w g a fV B G)(he:hx l κ s w κ' s' w')(bN:l<B)(a7:c5 κ' s' w'){v:ae}{x:Value}(a5:dC κ' (s.aa+1) (v.ap s.aa) x){d fQ:Option Nat}(cP:nv fV d fQ=true):fJ κ' s' w' (cK g d v) (a.put fQ x) fV B G:=by
 have b2:xo κ' s' g a:=fun t=>by have:=(h.ao t).mono he.k;rw[he.aa];exact this
 have u:Marks B w' a.defers:=by obtain⟨eS,oP,ar,av,bV⟩:=h.defers;refine⟨Nat.le_trans eS he.size,oP,ar,av,fun D r=>⟨(bV D r).1,?_⟩⟩;have dD:=(bV D r).2;rw[he.kS D (Array.getElem?_eq_some_iff.1 dD).1 (by have:=(bV D r).1;omega) (h.iQ.yp dD)];exact dD
 cases d with
 |none=>
  cases fQ with
  |none=>exact⟨a7,b2,u,h.size,h.au.mono he.k⟩
  |some b=>simp [nv] at cP
 |some n=>
  cases fQ with
  |none=>simp [nv] at cP
  |some b=>
   simp only[nv,bl] at cP;have e:=dh cP.1;subst e;have dm:n<a.tmps.size:=by rw[h.size];have:=cP.2;rw[Nat.blt_eq] at this;exact this
   refine⟨a7,fun t=>?_,u,by simp [Act.put,h.size],h.au.mono he.k⟩;simp only[cK];by_cases ed:t=n
   ·subst ed;rw[if_pos rfl,he.aa];simp only[Act.put,Array.getD_eq_getD_getElem?,Array.getElem?_setIfInBounds_self_of_lt dm,Option.getD_some];exact a5
   ·rw[if_neg ed]
    have:=b2 t;simp only[Act.put,Array.getD_eq_getD_getElem?,Array.getElem?_setIfInBounds_ne (Ne.symm ed)] at this ⊢;exact this
structure ye (iy:bj) (ht:ag) (jo:World) (κ:bj) (s:ag) (w:World):Prop where
 ext:fx iy ht jo κ s w
 loc:jo.heap.size≤κ.loc (s.aa+1) 0
section
variable{iy:bj}{ht:ag}{jo:World}{κ κ':bj}{s s':ag}{w w':World}{m jv:List Nat}{l:Nat}
theorem ye.own(h:ye iy ht jo κ s w):∀i x b,([cU.cells (h3 m)]:List cU)[i]? =some x→bi κ (s.aa+1) i x=some b→jo.heap.size≤b:=fun i x b a5 e=>by
 cases i with
 |zero=>simp only[List.getElem?_cons_zero,bm] at a5;subst a5;simp only[bi,bm] at e;exact e ▸ h.loc
 |succ i=>simp at a5
theorem ye.aeG(h:ye iy ht jo κ s w)(a7:c5 κ (dZ s m) w)(he:gV κ κ' ((dZ s m).aa+1))(cP:s'.aa=s.aa):jo.heap.size≤κ'.loc (s'.aa+1) 0:=by rw[cP,he.loc (s.aa+1) 0 (by rw[ag.g4];omega) (a7.nH (d:=s.aa+1) (i:=0) (o:=.cells (h3 m)) (by rw[ag.kD,if_pos rfl];rfl))];exact h.loc
theorem ye.step(h:ye iy ht jo κ s w)(a7:c5 κ (dZ s m) w)(he:fx κ (dZ s m) w κ' (dZ s' jv) w'):ye iy ht jo κ' s' w':=
 ⟨(hx.under (l:=jo.heap.size) h.ext.x he.x h.own).rE (aD _),h.aeG a7 he.k (by have:=he.aa;rw[ag.g4,ag.g4] at this;omega)⟩
theorem ye.nP(h:ye iy ht jo κ s w)(bN:l<jo.heap.size)(dm:¬Live iy ht l):¬Live κ (dZ s m) l:=fun e=>by
 rcases e.on with ar|⟨i,x,ar,av⟩
 ·exact dm (h.ext.live l bN ar)
 ·exact absurd (h.own (m:=m) i x l ar av) (by omega)
end
theorem mK(A:Nat→List Nat)(i:Nat):∀(n:Nat) (m jv:List Nat),(∀x,m.elem x=jv.elem x)→eJ A i n m=eJ A i n jv
 |0,_,_,_=>rfl
 |n+1,m,jv,h=>by
  have av:∀x,(A n++m).elem x=(A n++jv).elem x:=fun x=>by have:=h x;simp only[List.elem_eq_mem,List.mem_append,decide_eq_decide] at this ⊢;rw[this]
  simp only[eJ,h n,mK A i n _ _ h,mK A i n _ _ av]
theorem zQ{cs e:List ae}(h:ae.lB cs e=true):cs=e:=(ae.jt cs e).1 h
theorem BL{κ:bj}{ht s:ag}{hG:ae}{D:Nat}{x:Value}(bM:dC κ D hG x)(r:D≤s.aa+1)(h:ff ht s (.bh [hG])=true)(o:List cU)(he:(dv ht hG).isSome=true):dv (s.on o) hG=dv ht hG:=by
 cases hG<;> try rfl
 case bW sz es g=>cases g<;> rfl
 case cO a off len cap sz=>
  cases a with
  |l i=>cases bM
  |g d i=>
   obtain⟨lU,e,cP,bL,_⟩:=dC.jW bM;have ar:(s.on o).get (.g d i)=s.get (.g d i):=by rw[ag.kD,if_neg (by omega)]
   simp only[ff] at h;split at h
   ·rename_i cs u av bV
    have:=zQ h;subst this;simp only[dv,ar,av,bV]
   ·cases h
theorem BM{s:ag}{dI xs:List ae}(h:pO s 0 dI=some xs):∃(i:Nat) (hG:ae) (es:List ae) (A:List (List Nat)),dI=[.bh [.int .i64 i],.bh [hG]]∧dv s hG=some (12,es)∧o2 es=some A∧i<es.length∧es.length≤40∧(∀hv,hv∈A→hv.length≤1000∧∀x,x∈hv→x<es.length)∧xs=(eJ (A.getD · []) i (i+1) [i]).map fun k=>.int .i64 (k:Nat):=by
 unfold pO at h;split at h
 ·rename_i i hG _;obtain⟨p,ar,av⟩:=Option.bind_eq_some_iff.1 h;obtain⟨z,es⟩:=p;cases g8:Nat.beq z 12 with
  |false=>rw[g8] at av;cases av
  |true=>
   rw[g8] at av;simp only[bH] at av
   have:=dh g8;subst this;unfold o3 at av;split at av
   ·rename_i A u;cases e:(decide (0≤i)&&Nat.blt i.toNat es.length&&Nat.ble es.length 40&&A.all (fun l=>Nat.ble l.length 1000&&l.all (Nat.blt · es.length))) with
    |false=>rw[e] at av;cases av
    |true=>rw[e] at av;simp only[bH,bm] at av;simp only[bl,b8,List.all_eq_true,Nat.blt_eq] at e;refine⟨i.toNat,hG,es,A,by rw[Int.toNat_of_nonneg e.1.1.1],ar,u,e.1.1.2,dW e.1.2,fun hv r=>⟨dW (e.2 hv r).1,(e.2 hv r).2⟩,av.symm⟩
   ·cases av
 ·cases h
theorem Live.mono{κ κ':bj}{s:ag}{w:World}(a7:c5 κ s w)(cZ:gV κ κ' (s.aa+1)){b:Nat}(h:Live κ s b):Live κ' s b:=by
 obtain⟨d,i,o,ar,av⟩:=h;have cP:d<s.aa+1:=by have:=ag.gy ar;omega
 have bL:=a7.nH ar;refine⟨d,i,o,ar,?_⟩;cases o with
 |cells cs=>simp only[bi] at av ⊢;rw[cZ.loc d i cP bL];exact av
 |map es=>simp only[bi] at av ⊢;rw[cZ.loc d i cP bL];exact av
 |gone=>cases av
 |tok n=>simp only[bi] at av ⊢;obtain⟨x,bV,dD⟩:=Option.map_eq_some_iff.1 av;rw[cZ.lC d i n x cP bL bV];simp [dD]
theorem c5.Ld{κ:bj}{s:ag}{w:World}(a7:c5 κ s w):∃κ',c5 κ' s.push w∧gV κ κ' (s.aa+1)∧fx κ s w κ' s w:=by obtain⟨κ',ar,av,bV,dD⟩:=a7.push;refine⟨κ',ar,av,av,rfl,aD _,rfl,rfl,rfl,fun _ _ _=>rfl,fun b _ ⟨d,i,o,hj,g2⟩=>⟨d,i,o,hj,by rw[←dD d i o hj];exact g2⟩,fun a e=>.inl (by rw[bV] at e;exact e)⟩
def rS(J:Nat→ag→Prop)(e:ag→Option Obj→Prop)(N l:Nat)(iy:bj)(ht:ag)(jo w':World):Prop:=(∃κ' s',fx iy ht jo κ' s' w'∧c5 κ' s' w'∧J N s')∨∃κ' s',hx l iy ht jo κ' s' w'∧c5 κ' s' w'∧e s' w'.heap[l]?
theorem rS.shut{J:Nat→ag→Prop}{y:ag→Option Obj→Prop}{N l:Nat}{iy:bj}{ht:ag}{jo w' r:World}{oP:List Nat}(h:rS J y N l iy ht jo w')(bN:l<jo.heap.size)(u:∀D,D∈oP→jo.heap.size≤D)(cP:∀D,D∈oP→w'.heap[D]? =some (.deferred (some [])))(hw:Hz oP w' r):rS J y N l iy ht jo r:=by
 have iQ:∀{κ s},c5 κ s w'→c5 κ s r:=fun a7=>a7.heap fun b o ar av=>by rw[hw.same b,ar];intro hm;rw[cP b hm] at ar;cases ar;rcases av with⟨C,e,jG,av⟩|⟨fm,clock,av⟩<;> cases av
 rcases h with⟨κ',s',ar,av,bV⟩|⟨κ',s',ar,av,bV⟩
 ·exact .inl ⟨κ',s',ar.shut u hw,iQ av,bV⟩
 ·refine .inr ⟨κ',s',⟨ar.k,ar.aa,by rw[hw.size];exact ar.size,hw.os.trans ar.os,hw.tape.trans ar.tape,hw.output.trans ar.output,fun b A dm bN=>?_,ar.live,ar.o4⟩,iQ av,?_⟩
  ·rw[hw.same b (fun hm=>by have:=u b hm;omega)];exact ar.kS b A dm bN
  ·rw[hw.same l (fun hm=>by have:=u l hm;omega)];exact bV
section
variable{P:Program}{T:kN}(eN:T.pQ P)
include eN
theorem ET{id:Nat}{A:Array Oper}(dk:jl T 41 A MI A.toList=true){iy:bj}{ht:ag}{jo:World}{l:Nat}(bN:l<jo.heap.size)(aI:¬Live iy ht l){hG:ae}{i x:Nat}(bC:x≠i)
  {κ:bj}{s:ag}{w:World}{m:List Nat}{g:Nat→ae}{a:Act}(aV:ye iy ht jo κ s w)(h:fJ κ (dZ s m) w g a 41 jo.heap.size kE.au)(cb:xp hG l i x g)
  {Rt:ag→Prop}{Rf:ag→Option Obj→Prop}
  (aW:∀(κ':bj) (w':World) (B:Value),ye iy ht jo κ' s w'→c5 κ' s w'→dC κ' (s.aa+1) (.int .i64 x) B→YieldAt Fence.wide 0 P l #[B] w' fun e ad=>(e=.returned (.bool true)∧∃af U,fx κ' s w' af U ad∧c5 af U ad∧Rt U)∨(e=.returned (.bool false)∧∃af U,hx l κ' s w' af U ad∧c5 af U ad∧Rf U ad.heap[l]?))
  {Q:Exit→Act→World→Prop}
  (aX:∀κ' s' w' g' fY,ye iy ht jo κ' s' w'→fJ κ' (dZ s' m) w' g' fY 41 jo.heap.size kE.au→xp hG l i x g'→g' 27=.bool false→Rt s'→Q .normal fY w')
  (aZ:∀κ' s' w' g' fY,hx l iy ht jo κ' s' w'→fJ κ' (dZ s' m) w' g' fY 41 jo.heap.size kE.au→g' 27=.bool true→Rf s' w'.heap[l]?→Q .normal fY w'):
  (Code.region id A false).wpIn (xM none) 0 P Q a w:=by
 obtain⟨hlen,a0⟩:=ib dk;have e3:A.size=9:=by rw[←Array.length_toList,←hlen];rfl
 have op:∀j F,MI[j]? =some F→∃o,A[j]? =some o∧oh T 41 A F o=true:=fun j F cX=>by
  have aJ:j<A.size:=by rw[e3];exact(ec.1 cX).1
  exact⟨A[j],Array.getElem?_eq_getElem aJ,a0 j F _ cX (by simp [aJ])⟩
 have one:∀{j:Nat} {F:cS} {κ:bj} {S S':ag} {w:World} {g:Nat→ae} {a:Act} {v:ae} {K:Act→World→Prop},MI[j]? =some F→fJ κ S w g a 41 jo.heap.size kE.au→jx kE F g S=some (v,S')→
   (∀κ' w' fY,fx κ S w κ' S' w'→fJ κ' S' w' (cK g F.dst v) fY 41 jo.heap.size kE.au→K fY w')→wpOpIn (xM none) 0 P A Q j K a w:=fun {j F κ S S' w g a v K} cX aU he ay=>by
  obtain⟨o,ar,av⟩:=op j F cX;exact pe eN rfl (MH P) aU ar av he ay
 have ma:∀{d:Option Nat} {o:gk} {g:Nat→ae} {S S':ag} {v:ae},aM kE g S .ok .panic o=.ok v S'→jx kE ⟨d,none,o⟩ g S=some (v,S'):=fun h=>by simp only[jx,f8,h]
 have dH:∀{d:Option Nat} {o:gk} {g:Nat→ae} {S S':ag} {v:ae},g 22=.bool true→aM kE g S .ok .panic o=.ok v S'→jx kE ⟨d,some (22,true),o⟩ g S=some (v,S'):=fun a1 h=>by simp only[jx,f8,a1,beq_self_eq_true,h]
 refine wpIn_region ?_;rw[e3,show List.range 9=[0,1,2,3,4,5,6,7,8] from rfl];rw[wpOpsIn_cons];refine one rfl h (ma (v:=.int .i64 x) (S':=dZ s m) (by simp only[aM,aq,cb.im];rfl)) fun bD bE bF a2 a3=>?_
 rw[wpOpsIn_cons];refine one rfl a3 (ma (v:=.int .i64 i) (S':=dZ s m) (by simp only[aM,aq,cK,cb.hj,Nat.reduceEqDiff,if_false,dY,eU];rfl)) fun bG bI bJ a4 a5=>?_
 rw[wpOpsIn_cons];refine one rfl a5 (ma (v:=.bool true) (S':=dZ s m) (by simp only[aM,aq,cK,Nat.reduceEqDiff,if_false,if_true];show qV kE _ _ (some (.bool ((x:Int) != i)))=_;rw[show((x:Int) != i)=true from by simp;omega];rfl)) fun bK bL bM a6 a7=>?_
 rw[wpOpsIn_cons];refine one rfl a7 (ma (v:=.bool true) (S':=dZ s m) (by simp only[aM,aq,cK,if_true];rfl)) fun bO bP bQ a8 a9=>?_
 rw[wpOpsIn_cons];refine one rfl a9 (dH (v:=.km l) (S':=dZ s m) (by simp [cK]) (by simp only[aM,aq,cK,cb.s4,Nat.reduceEqDiff,if_false];rfl)) fun bR bS bT ba bb=>?_
 rw[wpOpsIn_cons];refine one rfl bb (dH (v:=.int .i64 x) (S':=dZ s m) (by simp [cK]) (by simp only[aM,aq,cK,cb.im,Nat.reduceEqDiff,if_false];rfl)) fun V ah J bc u=>?_
 rw[wpOpsIn_cons];have he:=(((((a2.trans a4).trans a6).trans a8).trans ba).trans bc);have M:ye iy ht jo V s ah:=aV.step h.iQ he;obtain⟨H,Y⟩:∃H,H=cK (cK (cK (cK (cK (cK g (some 19) (.int .i64 x)) (some 20) (.int .i64 i)) (some 21) (.bool true)) (some 22) (.bool true)) (some 23) (.km l)) (some 24) (.int .i64 x):=⟨_,rfl⟩;have u:fJ V (dZ s m) ah H J 41 jo.heap.size kE.au:=by rw[Y];exact u
 have ai:xp hG l i x H:=by rw[Y];exact⟨by simp [cK,cb.s4],by simp [cK,cb.hj],by simp [cK,cb.g2],by simp [cK,cb.ns],by simp [cK,cb.im]⟩
 have az:H 22=.bool true:=by rw[Y];simp [cK]
 have bd:H 23=.km l:=by rw[Y];simp [cK]
 have be:H 24=.int .i64 x:=by rw[Y];simp [cK]
 clear Y;obtain⟨o,bf,aK⟩:=op 6 _ rfl;simp only[oh,bl] at aK;obtain⟨⟨aL,bg⟩,N⟩:=aK;unfold wpOpIn;simp only[bf];rw[u.wanted bg (b:=true) (by simp only[f8,az,beq_self_eq_true])];simp only[↓reduceIte];refine⟨fun _ _=>trivial,?_⟩;simp only[eH] at N;split at N
 ·rename_i aA bh;split at N
  ·rename_i y eM;simp only[bl] at N;have aB:=bu u.ao u.au N.1;have aC:=iv u.ao u.au _ _ N.2;rw[show aq kE.au H (.t 23)=.km l from bd] at aB;simp only[fH,List.map_nil,show aq kE.au H (.t 24)=.int .i64 x from be] at aC;have bk:J.eval y=.func (.yield l) #[] #[]:=by
    generalize J.eval y=z at aB;cases aB;rfl
   obtain⟨B,aN⟩:∃B,aA.args.toList.map J.eval=[B]:=List.length_eq_one_iff.1 (by rw[aC.1];rfl);have bn:dC V (s.aa+1) (.int .i64 x) B:=by have:=aC.2 0 _ B rfl (by rw[aN];rfl);rw[dC.eD (k:=.i64) (n:=x) this];exact .int _ _
   have bo:aA.args.map J.eval= #[B]:=by apply Array.ext';rw[Array.toList_map,aN]
   have hex:execOp J.eval o=Instr.yield l #[B]:=by have:=BG (ty:=o.type) (ρ:=J.eval) (c:=aA) (l:=l) ⟨y,eM,bk⟩ o.dst o.pos o.after o.guard;rw[bo] at this;rw[←this,←bh]
   obtain⟨fn,tmps,assign,body,bp,aO⟩:=aW V ah B M u.iQ.off bn;show o.uponIn (xM none) 0 P J _ Q ((execOp J.eval o).run P ah);rw[hex,bp,Oper.uponIn_round];refine⟨fun aj=>(by cases aj),?_⟩;have rest:∀(b:Bool) (ak:bj) (r:ag) (I:World) (aD:Act),fJ ak (dZ r m) I (cK H (some 25) (.bool b)) aD 41 jo.heap.size kE.au→
     (∀κ' w' g' fY,fx ak (dZ r m) I κ' (dZ r m) w'→fJ κ' (dZ r m) w' g' fY 41 jo.heap.size kE.au→xp hG l i x g'→g' 27=.bool (!b)→Q .normal fY w')→wpOpsIn (xM none) 0 P A Q [7,8] aD I:=fun b ak r I aD bq ay=>by
    rw[wpOpsIn_cons];refine one rfl bq (dH (v:=.bool (!b)) (S':=dZ r m) (by simp [cK,az]) (by simp only[aM,aq,cK,if_true];rfl)) fun O bU bV br bs=>?_
    rw[wpOpsIn_cons];refine one rfl bs (ma (v:=.bool (!b)) (S':=dZ r m) (by simp only[aM,aq,cK,az,Nat.reduceEqDiff,if_false,if_true,np,bH];rfl)) fun Z ab al ac am=>?_
    exact ay Z ab _ al (br.trans ac) am ⟨by simp [cK,ai.s4],by simp [cK,ai.hj],by simp [cK,ai.g2],by simp [cK,ai.ns],by simp [cK,ai.im]⟩ (by simp [cK])
   have aP:∀(hF:Nat) (z:cU),([cU.cells (h3 m)]:List cU)[hF]? =some z→bi V (s.aa+1) hF z≠some l:=fun hF z g8 ap=>by have:=M.own hF z l g8 ap;omega
   refine⟨aO.1,fun c cs bt=>?_⟩;obtain⟨e,I,bv,aY⟩:=aO.2 c cs bt;refine⟨e,I,?_,aY⟩;rcases bv with⟨rfl,ak,r,aw,aE,bw⟩|⟨rfl,ak,r,aw,aE,bx⟩
   ·obtain⟨O,ax,an,aQ⟩:=u.iQ.lay aw.x aE aP;have aR:fx V (dZ s m) ah O (dZ r m) I:=an.ext (aw.kS l (gd bN M.ext.size) fun aj=>aI (M.ext.live l bN aj));refine rest true O r I _ (u.put aR ax (.bool true) aL) fun Z ab aF al ac am aS aG=>?_
    exact aX Z r ab aF al ((M.step u.iQ aR).step ax ac) am aS aG bw
   ·obtain⟨O,ax,an,aQ⟩:=u.iQ.lay aw aE aP;refine rest false O r I _ (u.aeF an bN ax (.bool false) aL) fun Z ab aF al ac am aS aG=>?_
    have aH:hx l iy ht jo O r I:=hx.under M.ext.x an M.own;have bz:r.aa=s.aa:=by have:=an.aa;rw[ag.g4,ag.g4] at this;omega
    have aT:∀hF z b,([cU.cells (h3 m)]:List cU)[hF]? =some z→bi O (r.aa+1) hF z=some b→jo.heap.size≤b:=fun hF z b g8 ap=>by
     cases hF with
     |zero=>simp only[List.getElem?_cons_zero,bm] at g8;subst g8;simp only[bi,bm] at ap;rw[←ap,bz,aQ 0];exact M.loc
     |succ hF=>simp at g8
    have bA:hx l iy ht jo Z r ab:=hx.under aH ac.x aT;refine aZ Z r ab aF al bA am aG ?_;have bB:¬Live O (dZ r m) l:=fun aj=>by
     rcases aj.on with ar|⟨hF,z,ar,av⟩
     ·exact aI (aH.live l bN ar)
     ·have:=aT hF z l ar av;omega
    rw[ac.kS l (gd bN aH.size) bB];exact bx
  ·cases N
 ·cases N
end
theorem aeH(a b c:Value)(X:Array Value):((#[a]++[b,c].toArray)++X).getD 0 undef=a∧((#[a]++[b,c].toArray)++X).getD 1 undef=b∧((#[a]++[b,c].toArray)++X).getD 2 undef=c:=by refine⟨?_,?_,?_⟩<;> (rw[Array.getD_eq_getD_getElem?,Array.getElem?_append_left (by simp)];rfl)
theorem Le{P:Program}{T:kN}(eN:T.pQ P){f:Nat}{fn:Func}{c:Code}(br:P.funcs[f]? =some fn)(aP:fn.body=some c)(bm:(fn.name== "runtime.NumGoroutine")=false)(bn:fn.results= #[])(bo:fn.ntmps=41)(dk:dq T 41 false af3 c=true):Bg P f 0:=by
 refine⟨⟨fn,br,by simp [aP],bm⟩,?_⟩;intro dI xs iy ht jo dt l bp bq aB bN bs dg J Y bt bu;obtain⟨i,hG,es,A,rfl,iH,bv,bL,di,aQ,f7⟩:=BM bp;obtain⟨dj,bw⟩:=ER bv;unfold af3 at dk;obtain⟨iC,qL,rfl,bx,ar⟩:=fq dk;obtain⟨dl,BN,rfl,bz⟩:=gp bx;obtain⟨bT,pU,rfl,bA,av⟩:=fq ar;obtain⟨dm,gU,rfl,bB⟩:=gp bA;obtain⟨dn,dp,rfl,bC,bV⟩:=fq av;obtain⟨dr,ds,rfl,bD⟩:=gp bC;obtain⟨du,rfl,dD⟩:=li bV;obtain⟨dw,rfl,aR⟩:=rR dD;unfold Zg at aR;obtain⟨dx,dy,rfl,bE,bF⟩:=fq aR;obtain⟨dz,dA,rfl,bG,bI⟩:=fq bE;obtain⟨dB,dE,rfl,bJ⟩:=gp bG;obtain⟨dF,t3,dG,rfl,aS,bK,bO⟩:=l5 bI;obtain rfl:=ox bO;obtain⟨dH,dJ,rfl,bP,bQ⟩:=fq bF;obtain⟨aT,aU,rfl,bR⟩:=gp bQ;obtain⟨i5,rfl,bS⟩:=li bP;obtain⟨dK,dL,rfl,bU,aV⟩:=fq bS;obtain⟨dM,dN,rfl,bW,bX⟩:=fq bU;obtain⟨dO,dP,rfl,bY⟩:=gp bW;obtain⟨dQ,t5,dR,rfl,aW,bZ,b0⟩:=l5 bX;obtain rfl:=ox bZ;unfold Zf at aV;obtain⟨dS,b1,rfl,b2,b3⟩:=fq aV;obtain⟨dT,dU,rfl,b4,b5⟩:=fq b2;obtain⟨dV,dW,rfl,aX⟩:=gp b4;obtain⟨d2,t6,d3,rfl,aC,b6,aY⟩:=l5 b5;obtain rfl:=BF b6;refine CallsIn.mono (R:=fun e w'=>(∃v,e=.returned v)∧rS J Y xs.length l iy ht jo w') ?_ (fun e w' h=>h);refine callsIn_of_wp_marks br aP trivial (wpIn_mono (Q:=fun e fY w'=>(e=.normal∨e=.ret)∧Marks jo.heap.size w' fY.defers∧rS J Y xs.length l iy ht jo w') ?_ ?_) rfl
 rotate_left
 ·rintro e fY w' ⟨he,⟨d4,oP,b7,b8,ad⟩,h7⟩
  have key:LeavesInM Fence.wide 0 P fn fY.tmps (fun e w'=>(∃v,e=.returned v)∧rS J Y xs.length l iy ht jo w') fY.defers .returning w':=by
   rw[b7];refine kZ oP w' b8 (fun D U=>(ad D U).2) fun d5 hw=>⟨.tuple #[],?_,⟨_,rfl⟩,h7.shut bN (fun D U=>(ad D U).1) (fun D U=>(ad D U).2) hw⟩
   simp [results,bn]
  rcases he with rfl |rfl <;> exact key
 obtain⟨v1,v2,rfl⟩:∃v1 v2,dt=[v1,v2]:=by
  match dt,aB.1 with
  |[v1,v2],_=>exact⟨v1,v2,rfl⟩
 have ca:=aB.2 0 _ v1 rfl rfl;have aE:=aB.2 1 _ v2 rfl rfl;obtain⟨d6,aZ⟩:∃x,dC iy (ht.aa+1) hG x:=by generalize v2=z at aE;cases aE;rename_i a vs a7 h7 bM;exact⟨_,bM 0 hG rfl⟩
 obtain⟨af,ap,a0,cc⟩:=bq.Ld;have ap:c5 af (ht.on []) jo:=ap;have cd:fJ af (ht.on []) jo (fun t=>if t=0 then .km l else if t=1 then .bh [.int .i64 i] else if t=2 then .bh [hG] else .dead) {tmps:=(#[Value.func (.yield l) #[] #[]]++[v1,v2].toArray)++Array.replicate (fn.ntmps-(#[Value.func (.yield l) #[] #[]]++[v1,v2].toArray).size) undef,defers:=[]} 41 jo.heap.size kE.au:=by
  refine⟨ap,fun t=>?_,Marks.nil (aD _),by simp [bo],ZM _⟩;obtain⟨ce,cf,a1⟩:=aeH (.func (.yield l) #[] #[]) v1 v2 (Array.replicate (fn.ntmps-(#[Value.func (.yield l) #[] #[]]++[v1,v2].toArray).size) undef);have U:ht.aa+1≤(ht.on []).aa+1:=by rw[ag.g4];omega
  by_cases a2:t=0
  ·subst a2;show dC af _ (.km l) _;rw[ce];exact .km l
  ·by_cases a3:t=1
   ·subst a3;show dC af _ (.bh [.int .i64 i]) _;rw[cf];exact(ca.mono a0).up U
   ·by_cases lW:t=2
    ·subst lW;show dC af _ (.bh [hG]) _;rw[a1];exact(aE.mono a0).up U
    ·simp only[a2,a3,lW,if_false];exact .dead _
 refine wpIn_seq (iI eN bz cd ((dX (v:=.ref (.l 0) 0) (s':=dZ ht []) rfl).trans rfl) fun aF cg a1 aG aH=>?_);have ch:ye iy ht jo aF ht cg:=by
  refine⟨(hx.under (l:=jo.heap.size) cc.x aG.x (fun i x b h=>by simp at h)).rE (aD _),?_⟩;refine Nat.le_of_not_lt fun ci=>?_
  have cb:(dZ ht []).get (.g (ht.aa+1) 0)=some (.cells (h3 [])):=by rw[ag.kD,if_pos rfl];rfl
  have cj:Live aF (dZ ht []) (aF.loc (ht.aa+1) 0):=⟨_,0,_,cb,rfl⟩;have ar:=aG.live _ ci cj;rcases ar.on with ar|⟨hF,z,ar,_⟩
  ·exact aH.iQ.ow (i:=0) (x:=.cells (h3 [])) rfl rfl (Live.mono ap.off (aG.k.low (by rw[ag.g4];omega)) ar)
  ·simp at ar
 have ck:qW hG l i (cK (fun t=>if t=0 then .km l else if t=1 then .bh [.int .i64 i] else if t=2 then .bh [hG] else .dead) (some 4) (.ref (.l 0) 0)):=⟨by simp [cK],by simp [cK],by simp [cK],by simp [cK]⟩;obtain⟨d7,ad,cl⟩:=pY (s:=ht) (m:=[]) ck (by omega);refine wpIn_seq (iI eN bB aH ad fun d8 d9 ea cm a4=>?_);obtain⟨ns,cn,co⟩:=q6 (s:=ht) (m:=[i]) cl;refine wpIn_seq (iI eN bD a4 cn fun a5 cp eb cq cr=>?_);have ct:ye iy ht jo a5 ht cp:=(ch.step aH.iQ cm).step a4.iQ cq;have cv:([.bh [.int .i64 i],.bh [hG]]:List ae).all (ff ht ht)=true:=by
  simp only[List.all_cons,List.all_nil,Bool.and_true,show ff ht ht (.bh [.int .i64 i])=true from rfl,eI];cases hG<;> try rfl
  rename_i a off len cap sz;simp only[ff];unfold dv at iH;simp only at iH;split at iH
  ·rename_i cs cw;rw[cw];exact(ae.jt cs cs).2 rfl
  ·cases iH
 refine wpIn_block (pf (fun n fY w'=>∃κ' s' g' jv j,ye iy ht jo κ' s' w'∧fJ κ' (dZ s' jv) w' g' fY 41 jo.heap.size kE.au∧xp hG l i ((n:Int)-1) g'∧n≤i+1∧J j s'∧j≤xs.length∧([.bh [.int .i64 i],.bh [hG]]:List ae).all (ff ht s')=true∧xs.drop j=(eJ (A.getD · []) i n jv).map fun k=>.int .i64 (k:Nat)) (fun n fY w' cx=>?_) (n:=i+1)
  ⟨a5,ht,ns,[i],0,ct,cr,by rw[show(((i+1:Nat):Int)-1)=(i:Int) by omega];exact co,aD _,bt,Nat.zero_le _,cv,by rw[b9,f7]⟩)
 obtain⟨ed,B,im,r,j,cy,a6,cz,ee,aw,a8,aI,ax⟩:=cx;obtain⟨a9,cA,ba,aJ⟩:=Ep (s:=B) (m:=r) cz;refine wpIn_seq (wpIn_seq (iI eN bJ a6 cA fun cC ef eg cD ab=>?_));have bb:=cy.step a6.iQ cD;cases n with
 |zero=>
  refine wpIn_cond_false (jB aS ab (b:=false) (by show a9 12=_;rw[aJ];simp)) (wpIn_exit ?_);refine⟨.inl rfl,ab.defers,.inl ⟨cC,B,bb.ext,ab.iQ.off,?_⟩⟩
  have:xs.length=j:=by have:=congrArg List.length ax;simp only[List.length_drop,eJ,List.map_nil,cB] at this;omega
  rw[this];exact aw
 |succ x=>
  have cE:((x+1:Nat):Int)-1=(x:Int):=by omega
  rw[cE] at ba aJ;refine wpIn_cond_true (jB aS ab (b:=true) (by show a9 12=_;rw[aJ];simp)) (nS bK ?_);have next:∀(ah:bj) (Z:ag) (ai:List Nat) (ac:World) (M:Nat→ae) (aj:Act) (ak:Nat),ye iy ht jo ah Z ac→fJ ah (dZ Z ai) ac M aj 41 jo.heap.size kE.au→xp hG l i x M→J ak Z→ak≤xs.length→([.bh [.int .i64 i],.bh [hG]]:List ae).all (ff ht Z)=true→xs.drop ak=(eJ (A.getD · []) i x ai).map (fun k=>.int .i64 (k:Nat))→
    (Code.region aT aU false).wpIn (xM none) 0 P (Exit.then (fun fY w'=>∃m,m<x+1∧∃κ' s' g' jv j,ye iy ht jo κ' s' w'∧fJ κ' (dZ s' jv) w' g' fY 41 jo.heap.size kE.au∧xp hG l i ((m:Int)-1) g'∧m≤i+1∧J j s'∧j≤xs.length∧([.bh [.int .i64 i],.bh [hG]]:List ae).all (ff ht s')=true∧xs.drop j=(eJ (A.getD · []) i m jv).map fun k=>.int .i64 (k:Nat)) (Exit.inBlock 0 fun e fY w'=>(e=.normal∨e=.ret)∧Marks jo.heap.size w' fY.defers∧rS J Y xs.length l iy ht jo w')) aj ac:=fun ah Z ai ac M aj ak al N F cF cG cH cI=>by
   obtain⟨V,cJ,am⟩:=afV (s:=Z) (m:=ai) F (by omega) (by omega);exact iI eN bR N cJ fun H K O aK u=>⟨x,Nat.lt_succ_self x,H,Z,V,ai,ak,al.step N.iQ aK,u,am,by omega,cF,cG,cH,cI⟩
  refine wpIn_seq (wpIn_block ?_);obtain⟨M,cL,F,bc⟩:=afW (s:=B) (m:=r) (x:=x) ba rfl (by omega);refine wpIn_seq (wpIn_seq (iI eN bY ab cL fun ah ac aj cM N=>?_));have al:=bb.step ab.iQ cM;cases an:r.elem x with
  |false=>refine wpIn_cond_true (jB aW N (b:=true) (by show M 18=_;rw[bc,an];rfl)) (wpIn_exit ?_);refine next ah B r ac M aj j al N F aw a8 aI ?_;rw[ax];simp only[eJ,an,cond_false]
  |true=>
   refine wpIn_cond_false (jB aW N (b:=false) (by show M 18=_;rw[bc,an];rfl)) (nS b0 ?_);have hex:es[x]? =some es[x]:=ei (by omega);obtain⟨hv,aL,cN⟩:=bw x _ hex;have bd:A.getD x []=hv:=by simp [List.getD_eq_getElem?_getD,aL]
   have cO:∀y,y∈hv→y<40:=fun y eM=>by have:=(aQ hv (List.mem_of_getElem? aL)).2 y eM;omega
   have cQ:∀s':ag,s'.aa=ht.aa→([.bh [.int .i64 i],.bh [hG]]:List ae).all (ff ht s')=true→∀o,dv (s'.on o) hG=some (12,es):=fun s' cP cZ o=>by rw[BL aZ (by omega) (by simp only[List.all_cons,List.all_nil,Bool.and_true,bl] at cZ;exact cZ.2) o (by rw[iH];rfl)];exact iH
   have cR:hv.length<9223372036854775807:=by have:=(aQ hv (List.mem_of_getElem? aL)).1;omega
   have be:∀(H:bj) (I:ag) (K:World) (V:Nat→ae) (O:Act) (ao:Nat),ye iy ht jo H I K→fJ H (dZ I r) K V O 41 jo.heap.size kE.au→xp hG l i x V→J ao I→ao≤xs.length→([.bh [.int .i64 i],.bh [hG]]:List ae).all (ff ht I)=true→xs.drop ao=(eJ (A.getD · []) i x (hv++r)).map (fun k=>.int .i64 (k:Nat))→
     b1.wpIn (xM none) 0 P (Exit.inBlock 1 (Exit.then ((Code.region aT aU false).wpIn (xM none) 0 P (Exit.then (fun fY w'=>∃m,m<x+1∧∃κ' s' g' jv j,ye iy ht jo κ' s' w'∧fJ κ' (dZ s' jv) w' g' fY 41 jo.heap.size kE.au∧xp hG l i ((m:Int)-1) g'∧m≤i+1∧J j s'∧j≤xs.length∧([.bh [.int .i64 i],.bh [hG]]:List ae).all (ff ht s')=true∧xs.drop j=(eJ (A.getD · []) i m jv).map fun k=>.int .i64 (k:Nat)) (Exit.inBlock 0 fun e fY w'=>(e=.normal∨e=.ret)∧Marks jo.heap.size w' fY.defers∧rS J Y xs.length l iy ht jo w'))) (Exit.then (fun fY w'=>∃m,m<x+1∧∃κ' s' g' jv j,ye iy ht jo κ' s' w'∧fJ κ' (dZ s' jv) w' g' fY 41 jo.heap.size kE.au∧xp hG l i ((m:Int)-1) g'∧m≤i+1∧J j s'∧j≤xs.length∧([.bh [.int .i64 i],.bh [hG]]:List ae).all (ff ht s')=true∧xs.drop j=(eJ (A.getD · []) i m jv).map fun k=>.int .i64 (k:Nat)) (Exit.inBlock 0 fun e fY w'=>(e=.normal∨e=.ret)∧Marks jo.heap.size w' fY.defers∧rS J Y xs.length l iy ht jo w')))) O K:=fun H I K V O ao ay u am cT cU bf cV=>by
    refine wpIn_mono (MN eN b3 rfl cO cR u am aZ (cQ I ay.ext.aa bf _) hex cN) ?_
    rintro e cW cX ⟨rfl,cY,c0,c1,c2,c3,c4,c6⟩
    refine next cY I c1 cX c0 cW ao (ay.step u.iQ c2) c3 c4 cT cU bf ?_;rw[cV,mK _ _ _ _ _ c6]
   refine wpIn_seq (wpIn_seq ?_);by_cases aN:x=i
   ·
    subst aN;have c7:g3 kE MI M (dZ B r)=some (cK (cK (cK (cK (cK (cK (cK (cK (cK M (some 19) (.int .i64 x)) (some 20) (.int .i64 x)) (some 21) (.bool false)) (some 22) (.bool false)) (some 23) (.d0 [])) (some 24) (.d0 [])) (some 25) (.d0 [])) (some 26) (.d0 [])) (some 27) (.bool false),dZ B r):=by
     have az:∀{d:Option Nat} {op:gk} {os:List cS} {g:Nat→ae} {s:ag},g 22=.bool false→g3 kE (⟨d,some (22,true),op⟩::os) g s=g3 kE os (cK g d (.d0 [])) s:=fun h=>by simp only[g3,jx,f8,h,show(false==true)=false from rfl,fF]
     refine(dX (v:=.int .i64 x) (s':=dZ B r) (by simp only[aM,aq,F.im];rfl)).trans ?_;refine(dX (v:=.int .i64 x) (s':=dZ B r) (by simp only[aM,aq,cK,F.hj,Nat.reduceEqDiff,if_false,dY,eU];rfl)).trans ?_;refine(dX (v:=.bool false) (s':=dZ B r) (by simp only[aM,aq,cK,Nat.reduceEqDiff,if_false,if_true];show qV kE _ _ (some (.bool ((x:Int) != x)))=_;rw[show((x:Int) != x)=false from by simp];rfl)).trans ?_
     refine(dX (v:=.bool false) (s':=dZ B r) (by simp only[aM,aq,cK,if_true];rfl)).trans ?_;refine(az (by simp [cK])).trans ((az (by simp [cK])).trans ((az (by simp [cK])).trans ((az (by simp [cK])).trans ?_)));exact(dX (v:=.bool false) (s':=dZ B r) (by simp only[aM,aq,cK,Nat.reduceEqDiff,if_false,if_true,np,cond_false];rfl)).trans rfl
    refine iI eN aX N c7 fun H K O aK u=>?_
    refine wpIn_cond_false (jB aC u (b:=false) (by simp [aq,cK])) (nS aY ?_);refine be H B K _ O j (al.step N.iQ aK) u ⟨by simp [cK,F.s4],by simp [cK,F.hj],by simp [cK,F.g2],by simp [cK,F.ns],by simp [cK,F.im]⟩ aw a8 aI ?_;rw[ax];simp only[eJ,an,bH,ft,bd]
   ·have eR:Nat.beq x i=false:=by
     cases c8:Nat.beq x i with
     |false=>rfl
     |true=>exact absurd (dh c8) aN
    have bg:xs.drop j=.int .i64 (x:Nat)::(eJ (A.getD · []) i x (hv++r)).map (fun k=>.int .i64 (k:Nat)):=by rw[ax];simp only[eJ,an,bH,eR,cond_false,bd,fH]
    have bi:xs[j]? =some (.int .i64 (x:Nat)):=by have:=congrArg (fun l:List ae=>l[0]?) bg;simpa using this
    have c9:j<xs.length:=(ec.1 bi).1;have da:xs.drop (j+1)=(eJ (A.getD · []) i x (hv++r)).map (fun k=>.int .i64 (k:Nat)):=by rw[←List.tail_drop,bg];rfl
    refine ET eN aX bN bs aN al N F (Rt:=fun bk=>J (j+1) bk∧([.bh [.int .i64 i],.bh [hG]]:List ae).all (ff ht bk)=true) (Rf:=Y) (fun κ' w' db dc dd de=>?_) (fun H I K V O ay u am aO aA=>?_) (fun H I K V O df u aO aA=>?_)
    ·have:=bu j _ db κ' B w' bi dc.ext dd aw aI de;exact this
    ·refine wpIn_cond_false (jB aC u (b:=false) aO) (nS aY ?_);exact be H I K V O (j+1) ay u am aA.1 c9 aA.2 da
    ·refine wpIn_cond_true (jB aC u (b:=true) aO) (wpIn_ret ?_);exact⟨.inr rfl,u.defers,.inr ⟨H,I,df,u.iQ.off,aA⟩⟩
end Go.Ab
end
