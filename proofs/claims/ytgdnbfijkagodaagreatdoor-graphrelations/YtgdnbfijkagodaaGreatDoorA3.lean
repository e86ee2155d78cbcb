/- A part of the proof: no condition. -/
import Derived.Test.YtgdnbfijkagodaaGreatDoorA2
import Derived.WideKeyArgs
import Derived.ChangeArms
import Derived.ChangeSame
import Derived.ChangeOld
import Derived.OpenShut
set_option linter.unusedSectionVars false
set_option linter.unusedSimpArgs false
section
namespace Go.Ab
variable{T:Nat→Option c0}{G:Nat→ae}{X:Nat→List ae→ag→ah}{s:ag}{k:be}
theorem qj(q b:Nat)(at_:Option Loc)(x y:ae):(a0 T G X).f8 s k q b at_ x y=f7 (gz G (aP T G X) bL) s k q b at_ x y:=rfl
theorem nc(sz:Nat)(es:List ae)(ar:ae.a7 es=true)(av:(es.all fun e=>e.ff&&Nat.beq e.cells.length sz)=true):(a0 T G X).a6 s k sz es=k (.cr sz es .exact) s:=by show(bif ae.a7 es&&es.all (fun e=>e.ff&&Nat.beq e.cells.length sz) then _ else _)=_;rw[ar,av];rfl
theorem ss(ek:IntKind)(n:Int):(a0 T G X).a6 s k 1 [.int ek n]=k (.cr 1 [.int ek n] .exact) s:=rfl
inductive gY (S:ag):e2→Nat→Prop
 |nil:gY S .nil 0
 |dt (j n:Nat) (dk:0<n) (h:S.own[j]? =some (.tok n)):gY S (.dt (.l j)) n
theorem gY.inv{S:ag}{g:e2}{n:Nat}(h:gY S g n):(g=.nil∧n=0)∨∃j,g=.dt (.l j)∧0<n∧S.own[j]? =some (.tok n):=by
 cases h with
 |nil=>exact .inl ⟨rfl,rfl⟩
 |dt j n dk h=>exact .inr ⟨j,rfl,dk,h⟩
theorem gY.new{S:ag}{g:e2}{n:Nat}(h:gY S g n)(o:dp):gY (S.new o) g n:=by
 cases h with
 |nil=>exact .nil
 |dt j n dk h=>refine .dt j n dk ?_;have df:=(eA.1 h).1;simp only[ag.new];rw[ha df];exact h
structure Grown (S S':ag) (g:e2):Prop where
 up:S'.up=S.up
 ro:S'.ro=S.ro
 len:S.own.length≤S'.own.length
 own:∀j o,S.own[j]? =some o→g≠.dt (.l j)→S'.own[j]? =some o
theorem Grown.child{s S S':ag}{g:e2}(h:Grown S S' g)(e:Child s S):Child s S':=⟨h.up.trans e.up,h.ro.trans e.ro⟩
theorem Grown.grow{S S':ag}{g g':e2}{n:Nat}(h:Grown S S' g)(cB:gY S g' n)(e3:∀j,g'=.dt (.l j)→g≠.dt (.l j)):gY S' g' n:=by
 cases cB with
 |nil=>exact .nil
 |dt j n dk e=>exact .dt j n dk (h.own j _ e (e3 j rfl))
theorem Grown.aa{S S':ag}{g:e2}(h:Grown S S' g):S'.aa=S.aa:=by simp [ag.aa,h.up,h.ro]
theorem xC{R:ah}{S:ag}{es new:List ae}{g g2:e2}{q bytes:Nat}(cB:gY S g es.length)(dk:new≠[])(r:(es.length+new.length)*bytes≤1099511627776)(a1:(new.flatMap ae.cells).all ae.eG=true)
  (dc:∀g' S',gY S' g' (es.length+new.length)→g'≠.nil→(g≠.nil→g'=g)→(g=.nil→g'=.dt (.l S.own.length))→Grown S S' g→k (.cr q (es++new) g') S'=R)(u:∀a,g2≠.dt a:=by intro a h;cases h):
  (a0 T G X).f8 S k q bytes (some (.l 0)) (.cr q es g) (.cr q new g2)=R:=by
 rw[qj];unfold f7;simp only;unfold hG;rw[show dG S (.cr q new g2)=some (q,new) from by cases g2<;> first|rfl |exact absurd rfl (u _)];simp only[gf,er];rw[show Nat.ble ((es.length+new.length)*bytes) 1099511627776=true from eN r];simp only[bX];cases new with
 |nil=>exact absurd rfl dk
 |cons c cs=>
  rcases cB.inv with⟨rfl,y⟩|⟨j,rfl,kB,h⟩
  ·simp only[ag.hd];refine dc _ _ (.dt _ _ (by simp;omega) ?_) (by simp) (fun h=>absurd rfl h) (fun _=>rfl) ⟨rfl,rfl,by simp [ag.new],fun j o h _=>?_⟩
   ·simp [ag.new]
   ·simp only[ag.new];rw[ha (eA.1 h).1];exact h
  ·have e:S.get (.l j)=some (.tok es.length):=h;simp only[e,gf,a1,bC,bX];show(match S.set (.l j) (.tok (es.length+(c::cs).length)) with |some s=>k (.cr q (es++c::cs) (.dt (.l j))) s|none=>.fail)=R;simp only[ag.set];refine dc _ _ (.dt _ _ (by simp;omega) ?_) (by simp) (fun _=>rfl) (fun h=>by simp at h) ⟨rfl,rfl,by simp,fun i o bY e3=>?_⟩
   ·simp [(eA.1 h).1]
   ·have:j≠i:=fun e=>e3 (by rw[e])
    simp only;rw[nm this];exact bY
def gp{α:Type}(l:List α):e2:=if l.isEmpty then .nil else .any
theorem n5{S:ag}{sz:Nat}{es:List ae}{g:e2}(cB:gY S g es.length)(aQ:ae.a7 es=true:=by rfl):freeze S (.cr sz es g)=some (.cr sz es (gp es)):=by
 rcases cB.inv with⟨rfl,h⟩|⟨j,rfl,dk,h⟩
 ·have:es=[]:=kF h;subst this;rfl
 ·cases es with
  |nil=>simp at dk
  |cons e es=>show ld S sz (e::es)=_;unfold ld;rw[if_pos aQ];rfl
theorem kU{S:ag}(a:Loc)(off len cap sz:Nat)(ek:IntKind)(i:Nat)(h:i<len):(a0 T G X).cL S k sz (.cZ a off len cap sz) (.int ek (i:Int))=k (.ref a (off+i*sz)) S:=by show kz (gz G (aP T G X) bL) S k sz (.cZ a off len cap sz) (.int ek (i:Int))=_;unfold kz;rw[g5];simp only[gf,show Nat.blt i len=true from by simp [Nat.blt_eq,h],bC,bX];rfl
theorem j5{S:ag}{j o:Nat}{cs:List ae}{c:ae}(h:S.own[j]? =some (.cells cs))(a1:cs[o]? =some c):(a0 T G X).ay S k none (.ref (.l j) o)=k c S:=by
 rw[hr];simp only[dX];rw[show S.get (.l j)=some (.cells cs) from h];simp only[eR]
 have:cs.drop o=c::cs.drop (o+1):=by have e:=(eA.1 a1);rw[jq e.1,e.2]
 rw[this];rfl
theorem xD(z:ae):∀c:Nat,(List.replicate c [z]).flatten=List.replicate c z
 |0=>rfl
 |c+1=>by simp [List.replicate_succ,xD z c]
theorem po(z:ae)(bytes l c:Nat)(ar:l≤c)(av:c*bytes≤1099511627776):(a0 T G X).k7 s k [z] bytes (.int .i64 (l:Int)) (.int .i64 (c:Int))=k (.cZ (.l s.own.length) 0 l c 1) (s.new (.cells (List.replicate c z))):=by show m3 (gz G (aP T G X) bL) s k [z] bytes (.int .i64 (l:Int)) (.int .i64 (c:Int))=_;unfold m3;rw[g5,g5];simp only[show Nat.ble l c=true from eN ar,show Nat.ble (c*bytes) 1099511627776=true from eN av,bC,bX];show k _ (s.new (.cells (List.replicate c [z]).flatten))=_;rw[xD];rfl
abbrev U(n:Nat):ae:=.int .u32 (n:Int)
theorem iI(a:Int):IntKind.wrap .u64 a=a%18446744073709551616:=by unfold IntKind.wrap;simp [show IntKind.bits .u64=64 from rfl,show IntKind.signed .u64=false from rfl]
theorem wrap_u32(a:Int):IntKind.wrap .u32 a=a%4294967296:=by unfold IntKind.wrap;simp [show IntKind.bits .u32=32 from rfl,show IntKind.signed .u32=false from rfl]
theorem dy(a b:Nat):(a0 T G X).ai s k (al .add (.int .u64 (a:Int)) (.int .u64 (b:Int)))=k (.int .u64 (((a+b)%18446744073709551616:Nat):Int)) s:=by rw[fl,iI];congr 2
def rl(a b:Nat):Nat:=(((a:Int)-(b:Int))%18446744073709551616).toNat
theorem dz(a b:Nat):(a0 T G X).ai s k (al .sub (.int .u64 (a:Int)) (.int .u64 (b:Int)))=k (.int .u64 ((rl a b:Nat):Int)) s:=by rw[fA,iI];congr 2;rw[rl,Int.toNat_of_nonneg (by omega)]
theorem dh(a:Nat):(a0 T G X).ai s k (al .sub (.int .u64 (a:Int)) (.int .u64 1))=k (.int .u64 ((rl a 1:Nat):Int)) s:=dz a 1
theorem dJ(a b:Nat):(a0 T G X).ai s k (al .mul (.int .u64 (a:Int)) (.int .u64 (b:Int)))=k (.int .u64 (((a*b)%18446744073709551616:Nat):Int)) s:=by rw[fP,iI];congr 2
theorem Iv(a b:Nat):(a0 T G X).ai s k (al .add (.int .u32 (a:Int)) (.int .u32 (b:Int)))=k (.int .u32 (((a+b)%4294967296:Nat):Int)) s:=by rw[fl,wrap_u32];congr 2
theorem Fv(a b:Nat)(h:b≠0)(e:a<18446744073709551616):(a0 T G X).ai s k (al .quo (.int .u64 (a:Int)) (.int .u64 (b:Int)))=k (.int .u64 ((a/b:Nat):Int)) s:=by
 rw[JT _ _ _ (by omega),iI];congr 2
 have:((a:Int)).tdiv (b:Int)=((a/b:Nat):Int):=by rw[Int.tdiv_eq_ediv_of_nonneg (by omega)];rfl
 rw[this];have av:a/b≤a:=Nat.div_le_self _ _;generalize a/b=q at *;omega
theorem yH(a b:Nat)(h:b≠0):(a0 T G X).ai s k (al .rem (.int .u64 (a:Int)) (.int .u64 (b:Int)))=k (.int .u64 ((a%b:Nat):Int)) s:=by rw[JU _ _ _ (by omega)];congr 2
theorem yI(ek:IntKind)(a c:Nat)(h:c≤64):(a0 T G X).ai s k (al .shl (.int .u64 (a:Int)) (.int ek (c:Int)))=k (.int .u64 ((a*2^c%18446744073709551616:Nat):Int)) s:=by
 have e:al .shl (.int .u64 (a:Int)) (.int ek (c:Int))=some (.int .u64 (IntKind.wrap .u64 ((a:Int)*2^(min (c:Int).toNat 64)))):=by
  have dk:¬((c:Int)<0):=by omega
  simp [al,lA,dk,show IntKind.bits .u64=64 from rfl]
 rw[e,cM,iI,Int.toNat_natCast,Nat.min_eq_left h];congr 2
theorem yJ(ek:IntKind)(a c:Nat)(h:c≤64):(a0 T G X).ai s k (al .shr (.int .u64 (a:Int)) (.int ek (c:Int)))=k (.int .u64 ((a/2^c:Nat):Int)) s:=by
 have e:al .shr (.int .u64 (a:Int)) (.int ek (c:Int))=some (.int .u64 ((a:Int).fdiv (2^(min (c:Int).toNat 64)))):=by
  have dk:¬((c:Int)<0):=by omega
  simp [al,lA,dk,show IntKind.bits .u64=64 from rfl]
 rw[e,cM,Int.toNat_natCast,Nat.min_eq_left h];congr 2;rw[show((2:Int)^c)=((2^c:Nat):Int) from by simp,Int.fdiv_eq_ediv_of_nonneg _ (Int.natCast_nonneg _)];rfl
theorem vl(ek:IntKind)(a c:Nat)(h:c≤32):(a0 T G X).ai s k (al .shr (.int .u32 (a:Int)) (.int ek (c:Int)))=k (.int .u32 ((a/2^c:Nat):Int)) s:=by
 have e:al .shr (.int .u32 (a:Int)) (.int ek (c:Int))=some (.int .u32 ((a:Int).fdiv (2^(min (c:Int).toNat 32)))):=by
  have dk:¬((c:Int)<0):=by omega
  simp [al,lA,dk,show IntKind.bits .u32=32 from rfl]
 rw[e,cM,Int.toNat_natCast,Nat.min_eq_left h];congr 2;rw[show((2:Int)^c)=((2^c:Nat):Int) from by simp,Int.fdiv_eq_ediv_of_nonneg _ (Int.natCast_nonneg _)];rfl
theorem C8(ek:IntKind)(a c:Nat)(h:c≤32):(a0 T G X).ai s k (al .shl (.int .u32 (a:Int)) (.int ek (c:Int)))=k (.int .u32 ((a*2^c%4294967296:Nat):Int)) s:=by
 have e:al .shl (.int .u32 (a:Int)) (.int ek (c:Int))=some (.int .u32 (IntKind.wrap .u32 ((a:Int)*2^(min (c:Int).toNat 32)))):=by
  have dk:¬((c:Int)<0):=by omega
  simp [al,lA,dk,show IntKind.bits .u32=32 from rfl]
 rw[e,cM,wrap_u32,Int.toNat_natCast,Nat.min_eq_left h];congr 2
theorem cy(a:Nat):(a0 T G X).ai s k (al .shl (.int .u64 (a:Int)) (.int .u64 32))=k (.int .u64 ((a*4294967296%18446744073709551616:Nat):Int)) s:=yI .u64 a 32 (by decide)
theorem cz(a:Nat):(a0 T G X).ai s k (al .shr (.int .u64 (a:Int)) (.int .u64 32))=k (.int .u64 ((a/4294967296:Nat):Int)) s:=yJ .u64 a 32 (by decide)
theorem cK(a:Nat):(a0 T G X).ai s k (al .shr (.int .u64 (a:Int)) (.int .u64 63))=k (.int .u64 ((a/9223372036854775808:Nat):Int)) s:=yJ .u64 a 63 (by decide)
theorem dl(ek:IntKind)(a:Nat):(a0 T G X).b4 s k .u32 (.int ek (a:Int))=k (.int .u32 ((a%4294967296:Nat):Int)) s:=by show k (.int .u32 (IntKind.wrap .u32 (a:Int))) s=_;rw[wrap_u32];congr 2
theorem hN(a:Nat)(h:a<4294967296):(a0 T G X).b4 s k .u64 (.int .u32 (a:Int))=k (.int .u64 (a:Int)) s:=by show k (.int .u64 (IntKind.wrap .u64 (a:Int))) s=_;rw[iI];congr 2;omega
theorem im(a b:Nat)(h:a+b<9223372036854775808):(a0 T G X).ai s k (al .add (.int .i64 (a:Int)) (.int .i64 (b:Int)))=k (.int .i64 ((a+b:Nat):Int)) s:=by rw[fl,eK _ (by omega) (by omega)];congr 2
theorem mS(a b:Nat)(h:b≤a)(av:a<9223372036854775808):(a0 T G X).ai s k (al .sub (.int .i64 (a:Int)) (.int .i64 (b:Int)))=k (.int .i64 ((a-b:Nat):Int)) s:=by rw[fA,eK _ (by omega) (by omega)];congr 2;omega
theorem mr(a:Nat)(h:a+1<9223372036854775808):(a0 T G X).ai s k (al .add (.int .i64 (a:Int)) (.int .i64 1))=k (.int .i64 ((a+1:Nat):Int)) s:=im a 1 h
theorem jM(a:Nat)(h:1≤a)(av:a<9223372036854775808):(a0 T G X).ai s k (al .sub (.int .i64 (a:Int)) (.int .i64 1))=k (.int .i64 ((a-1:Nat):Int)) s:=mS a 1 h av
theorem z7(a:Nat)(h:2≤a)(av:a<9223372036854775808):(a0 T G X).ai s k (al .sub (.int .i64 (a:Int)) (.int .i64 2))=k (.int .i64 ((a-2:Nat):Int)) s:=mS a 2 h av
theorem st(a:Nat)(av:a<9223372036854775808):(a0 T G X).ai s k (al .quo (.int .i64 (a:Int)) (.int .i64 32))=k (.int .i64 ((a/32:Nat):Int)) s:=by
 rw[JT _ _ _ (by omega)]
 have:((a:Int)).tdiv 32=((a/32:Nat):Int):=by rw[Int.tdiv_eq_ediv_of_nonneg (by omega)];rfl
 rw[this,eK _ (by omega) (by omega)]
theorem su(a:Nat):(a0 T G X).ai s k (al .rem (.int .i64 (a:Int)) (.int .i64 32))=k (.int .i64 ((a%32:Nat):Int)) s:=by rw[JU _ _ _ (by omega)];congr 2
theorem OT(a b:Nat)(e:a<18446744073709551616)(h:b<18446744073709551616):((BitVec.ofInt 64 (a:Int) &&& BitVec.ofInt 64 (b:Int)).toNat:Int)=((a &&& b:Nat):Int):=by
 rw[BitVec.toNat_and];simp -implicitDefEqProofs only[BitVec.toNat_ofInt];congr 1;have ar:(((a:Int)%((2^64:Nat):Int))).toNat=a:=by omega
 have av:(((b:Int)%((2^64:Nat):Int))).toNat=b:=by omega
 rw[ar,av]
theorem Iw(a:Nat)(h:a<18446744073709551616):(a0 T G X).ai s k (al .and (.int .u64 (a:Int)) (.int .u64 4294967295))=k (.int .u64 ((a%4294967296:Nat):Int)) s:=by
 have e:al .and (.int .u64 (a:Int)) (.int .u64 ((4294967295:Nat):Int))=some (.int .u64 (IntKind.wrap .u64 ((BitVec.ofInt 64 (a:Int) &&& BitVec.ofInt 64 ((4294967295:Nat):Int)).toNat:Int))):=by simp -implicitDefEqProofs only[al,gj,↓reduceIte];rfl
 show(a0 T G X).ai s k (al .and (.int .u64 (a:Int)) (.int .u64 ((4294967295:Nat):Int)))=_;rw[e,OT a _ h (by omega),cM,iI];congr 2
 have:a &&& 4294967295=a%4294967296:=Nat.and_two_pow_sub_one_eq_mod a 32;rw[this];omega
theorem C9(a b:Nat)(e:a<18446744073709551616)(h:b<18446744073709551616):((BitVec.ofInt 64 (a:Int) ||| BitVec.ofInt 64 (b:Int)).toNat:Int)=((a ||| b:Nat):Int):=by
 rw[BitVec.toNat_or];simp -implicitDefEqProofs only[BitVec.toNat_ofInt];congr 1;have ar:(((a:Int)%((2^64:Nat):Int))).toNat=a:=by omega
 have av:(((b:Int)%((2^64:Nat):Int))).toNat=b:=by omega
 rw[ar,av]
theorem VX(q b p:Nat)(h:b<2^p)(gr:q*2^p+b<18446744073709551616):(a0 T G X).ai s k (al .or (.int .u64 ((q*2^p:Nat):Int)) (.int .u64 (b:Int)))=k (.int .u64 ((q*2^p+b:Nat):Int)) s:=by
 have e:al .or (.int .u64 ((q*2^p:Nat):Int)) (.int .u64 (b:Int))=some (.int .u64 (IntKind.wrap .u64 ((BitVec.ofInt 64 ((q*2^p:Nat):Int) ||| BitVec.ofInt 64 (b:Int)).toNat:Int))):=by simp -implicitDefEqProofs only[al,gj,↓reduceIte];rfl
 rw[e,C9 _ _ (by omega) (by omega),cM,iI];congr 2
 have:q*2^p ||| b=q*2^p+b:=by rw[et,←Nat.two_pow_add_eq_or_of_lt h]
 rw[this];omega
theorem vm(q b:Nat)(e:b<4294967296)(gr:q<4294967296):(a0 T G X).ai s k (al .or (.int .u64 ((q*4294967296:Nat):Int)) (.int .u64 (b:Int)))=k (.int .u64 ((q*4294967296+b:Nat):Int)) s:=VX q b 32 e (by omega)
theorem g7(l:List Nat):ae.a7 (l.map U)=true:=by
 induction l with
 |nil=>rfl
 |cons x l e=>simp -implicitDefEqProofs only[gd,ae.a7,e,Bool.and_true];rfl
def n6(d:Nat)(g:e2):Prop:=∀a,g=.dt a→∃e i,a=.g e i∧e≤d
theorem n6.not{g:e2}(h:∀a,g≠.dt a)(d:Nat):n6 d g:=fun a e=>absurd e (h a)
theorem n6.le{d e:Nat}{g:e2}(h:n6 d g)(cR:d≤e):n6 e g:=fun a r=>by obtain⟨x,i,ar,av⟩:=h a r;exact⟨x,i,ar,Nat.le_trans av cR⟩
inductive lN (s:ag):ae→List Nat→Prop
 |cr (l:List Nat) (g:e2) (cB:n6 s.aa g):lN s (.cr 1 (l.map U) g) l
 |cZ (d j off cap:Nat) (cs:List ae) (l:List Nat) (cR:d≤s.aa) (cB:s.get (.g d j)=some (.cells cs)) (bK:(cs.drop off).take l.length=l.map U) (hle:off+l.length≤cs.length) (a1:l.length≤cap):lN s (.cZ (.g d j) off l.length cap 1) l
def OH(s S:ag):Prop:=s.aa≤S.aa∧∀d j o,d≤s.aa→s.get (.g d j)=some o→S.get (.g d j)=some o
theorem OH.refl(s:ag):OH s s:=⟨aB _,fun _ _ _ _ h=>h⟩
theorem OH.trans{s S S':ag}(h:OH s S)(k:OH S S'):OH s S':=⟨Nat.le_trans h.1 k.1,fun d j o cR e=>k.2 d j o (Nat.le_trans cR h.1) (h.2 d j o cR e)⟩
theorem Child.aa{s S:ag}(h:Child s S):S.aa=s.aa+1:=by simp [ag.aa,h.up,h.ro];omega
theorem Child.oy{s S:ag}(h:Child s S):OH s S:=by
 refine⟨by rw[h.aa];omega,fun d j o cR e=>?_⟩;have ar:=h.aa;simp -implicitDefEqProofs only[ag.get] at e ⊢;rw[if_neg (by omega),if_pos (by omega),h.up,h.ro];by_cases dM:d=s.aa
 ·rw[if_pos dM] at e
  have:S.aa-1-d=0:=by omega
  rw[this];simpa using e
 ·rw[if_neg dM,if_pos (by omega)] at e
  have:S.aa-1-d=(s.aa-1-d)+1:=by omega
  rw[this];simpa using e
theorem OH.new(s:ag)(o:dp):OH s (s.new o):=by
 refine⟨aB _,fun d j x cR e=>?_⟩;simp -implicitDefEqProofs only[ag.get] at e ⊢
 have:(s.new o).aa=s.aa:=rfl;rw[this];split
 ·rename_i h;rw[if_pos h] at e;have df:=(eA.1 e).1;simp -implicitDefEqProofs only[ag.new];rw[ha df];exact e
 ·rename_i h;rw[if_neg h] at e;exact e
theorem lN.oy{s S:ag}{v:ae}{l:List Nat}(h:lN s v l)(bJ:OH s S):lN S v l:=by
 cases h with
 |cr l g cB=>exact .cr l g (cB.le bJ.1)
 |cZ d j off cap cs l cR cB bK hle a1=>exact .cZ d j off cap cs l (Nat.le_trans cR bJ.1) (bJ.2 d j _ cR cB) bK hle a1
theorem lN.ap{s:ag}{v:ae}{l:List Nat}(h:lN s v l)(d:Nat):v.ap d=v:=by
 cases h with
 |cr l g cB=>
  cases g with
  |dt a=>obtain⟨x,i,rfl,_⟩:=cB a rfl;rfl
  |_=>rfl
 |cZ=>rfl
theorem lN.len{S:ag}{v:ae}{l:List Nat}(h:lN S v l)(k:be)(S':ag):(a0 T G X).cU S' k false v=k (.int .i64 (l.length:Int)) S':=by
 cases h with
 |cr l g cB=>rw[aC,eo]
 |cZ=>rfl
theorem lN.get{S:ag}{v:ae}{l:List Nat}(h:lN S v l)(ek:IntKind)(i:Nat)(bY:i<l.length)(k:be):(a0 T G X).cL S (fun v S=>(a0 T G X).ay S k none v) 1 v (.int ek (i:Int))=k (U (l.getD i 0)) S:=by
 cases h with
 |cr l g cB=>rw[mq 1 _ g ek i (U (l.getD i 0)) (by simp [List.getD,bY])];rfl
 |cZ d j off cap cs l cR cB bK hle a1=>
  rw[kU _ _ _ _ _ _ _ bY,hr];simp -implicitDefEqProofs only[dX,cB,eR,Nat.mul_one];have r:off+i<cs.length:=by omega
  rw[jq r];have e:cs[off+i]=U (l.getD i 0):=by
   have ar:((cs.drop off).take l.length)[i]? =(l.map U)[i]?:=by rw[bK]
   rw[List.getElem?_take,if_pos bY,List.getElem?_drop,eI r] at ar;simp [bY] at ar;rw[ar];simp [List.getD,bY]
  rw[e];rfl
theorem lN.ptr{S:ag}{v:ae}{l:List Nat}(h:lN S v l)(ek:IntKind)(i:Nat)(bY:i<l.length):∃p,(∀(S':ag) (k:be),(a0 T G X).cL S' k 1 v (.int ek (i:Int))=k p S')∧∀k:be,(a0 T G X).ay S k none p=k (U (l.getD i 0)) S:=by
 have cB:=fun k=>h.get (T:=T) (G:=G) (X:=X) ek i bY k
 cases h with
 |cr l g r=>
  have e:=fun(S':ag) (k:be)=>mq (T:=T) (G:=G) (X:=X) (s:=S') (k:=k) 1 (l.map U) g ek i (U (l.getD i 0)) (by simp [List.getD,bY])
  refine⟨_,e,fun k=>?_⟩
  have:=cB k;rw[e] at this;exact this
 |cZ d j off cap cs l cR r bK hle a1=>
  have e:=fun(S':ag) (k:be)=>kU (T:=T) (G:=G) (X:=X) (S:=S') (k:=k) (.g d j) off l.length cap 1 ek i bY
  refine⟨_,e,fun k=>?_⟩
  have:=cB k;rw[e] at this;exact this
def o0(g:e2)(len n:Nat):e2:=
 match g with
 |.nil=>.nil
 |.exact=>if n=len then .exact else .any
 |.dt a=>if 0=0∧n=len then .dt a else .any
 |.any=>.any
def o1(v:ae)(n:Nat):ae:=
 match v with
 |.cr z es g=>.cr z (es.take n) (o0 g es.length n)
 |.cZ a off _ cap z=>.cZ a off n cap z
 |v=>v
theorem vn{g:e2}(cB:∀a,g≠.dt a)(len n:Nat):∀a,o0 g len n≠.dt a:=fun a=>by
 cases g with
 |dt b=>exact absurd rfl (cB b)
 |nil=>intro e;cases e
 |exact=>intro e;simp -implicitDefEqProofs only[o0] at e;split at e<;> cases e
 |any=>intro e;cases e
theorem Ix{d:Nat}{g:e2}(cB:n6 d g)(len n:Nat):n6 d (o0 g len n):=fun a e=>by
 cases g with
 |dt b=>
  simp -implicitDefEqProofs only[o0] at e;split at e
  ·exact cB a e
  ·cases e
 |nil=>cases e
 |exact=>simp -implicitDefEqProofs only[o0] at e;split at e<;> cases e
 |any=>cases e
theorem lN.slice{S:ag}{v:ae}{l:List Nat}(h:lN S v l)(n:Nat)(dk:n≤l.length)(k:be)(S':ag):(a0 T G X).lj 1 v none (some (.int .i64 (n:Int))) none S' k=k (o1 v n) S':=by
 cases h with
 |cr l g cB=>show mR 1 (.cr 1 (l.map U) g) none (some (.int .i64 (n:Int))) none S' k=_;unfold mR;simp -implicitDefEqProofs only[pA,g5,gf,Nat.zero_le,eN (Nat.zero_le n),show Nat.ble n (l.map U).length=true from eN (by simpa using dk),show pj g 0 n (l.map U)=true from by cases g<;> first|rfl |(simp -implicitDefEqProofs only[pj,g7,Bool.or_true]),bC,bX,bW,Nat.sub_zero,List.map_take];cases g<;> first|rfl |simp [o1,o0]
 |cZ d j off cap cs l cR cB bK hle a1=>show mR 1 (.cZ (.g d j) off l.length cap 1) none (some (.int .i64 (n:Int))) none S' k=_;unfold mR;simp -implicitDefEqProofs only[pA,g5,gf,eN (Nat.zero_le n),show Nat.ble n cap=true from eN (by omega),show Nat.ble cap cap=true from eN (aB _),eN a1,bC,bX,Nat.sub_zero,Nat.zero_mul,Nat.add_zero,ite_self];rfl
theorem lN.cut{S:ag}{v:ae}{l:List Nat}(h:lN S v l)(n:Nat)(dk:n≤l.length):lN S (o1 v n) (l.take n):=by
 cases h with
 |cr l g cB=>show lN S (.cr 1 ((l.map U).take n) (o0 g (l.map U).length n)) (l.take n);rw[←List.map_take];exact .cr _ _ (Ix cB _ _)
 |cZ d j off cap cs l cR cB bK hle a1=>
  have e:(l.take n).length=n:=by simp;omega
  have:=lN.cZ (s:=S) d j off cap cs (l.take n) cR cB (by
   rw[e];have ar:((cs.drop off).take l.length).take n=(l.map U).take n:=by rw[bK]
   rw[List.take_take,Nat.min_eq_left dk] at ar;rw[ar,List.map_take]) (by omega) (by omega)
  rwa [e] at this
theorem lO:∀(l:List Nat) (n:Nat) (cs:List ae),n=l.length→cs.take n=l.map U→chunk 1 n cs=l.map U
 |[],n,cs,dk,_=>by subst dk;rfl
 |x::l,n,cs,dk,h=>by
  subst dk;cases cs with
  |nil=>simp at h
  |cons c cs=>simp -implicitDefEqProofs only[bT,cT,gd,List.cons.injEq] at h;simp -implicitDefEqProofs only[bT,chunk,dQ,bW];rw[lO l l.length cs rfl h.2,gd,h.1];rfl
def jz(v:ae)(l:List Nat):Prop:=∃g,v=.cr 1 (l.map U) g∧∀a,g≠.dt a
theorem jz.rd{v:ae}{l:List Nat}(h:jz v l)(s:ag):lN s v l:=by obtain⟨g,rfl,cB⟩:=h;exact .cr l g (n6.not cB _)
theorem jz.nil:jz (.cr 1 [] .nil) []:=⟨.nil,rfl,fun a e=>by cases e⟩
theorem lN.same{s S:ag}{v:ae}{l:List Nat}(h:lN s v l)(e:Child s S):Ab.freeze S v=some v:=by
 have r:=e.aa;cases h with
 |cr l g cB=>
  show ev S _=_;cases g with
  |dt a=>obtain⟨x,i,rfl,a9⟩:=cB a rfl;simp -implicitDefEqProofs only[ev,gm];rw[if_pos (by omega)]
  |_=>rfl
 |cZ d j off cap cs l cR cB bK hle a1=>show ev S (.cZ (.g d j) off l.length cap 1)=_;simp -implicitDefEqProofs only[ev,gm];rw[if_neg (by omega),if_pos (by omega)]
theorem mT{S:ag}{j off n cap:Nat}{cs:List ae}(l:List Nat)(dk:n=l.length)(cB:S.own[j]? =some (.cells cs))(bK:(cs.drop off).take l.length=l.map U)(hle:off+l.length≤cs.length):∃fB,Ab.freeze S (.cZ (.g S.aa j) off n cap 1)=some fB∧jz fB l:=by
 subst dk;refine⟨.cr 1 (l.map U) (if l.length=cap then .exact else .any),?_,_,rfl,fun a=>?_⟩
 ·show ev S (.cZ (.g S.aa j) off l.length cap 1)=_;simp -implicitDefEqProofs only[ev,gm,if_true,hp,cB];rw[lO l l.length (cs.drop off) rfl bK,g7];rw[if_pos];simp -implicitDefEqProofs only[Nat.mul_one,er,bm];exact⟨eN hle,rfl⟩
 ·split<;> (intro e;cases e)
theorem lN.freeze{s S:ag}{v:ae}{l:List Nat}(h:lN S v l)(r:Child s S):∃fB,Ab.freeze S v=some fB∧lN s fB l:=by
 have B:=r.aa;cases h with
 |cr l g cB=>
  cases g with
  |dt a=>
   obtain⟨x,i,rfl,a9⟩:=cB a rfl;by_cases u:x<S.aa
   ·refine⟨.cr 1 (l.map U) (.dt (.g x i)),?_,.cr l _ (fun a e=>⟨x,i,by cases e;rfl,by omega⟩)⟩;show(if x<S.aa then some (ae.cr 1 (l.map U) (.dt (.g x i))) else _)=_;rw[if_pos u]
   ·refine⟨.cr 1 (l.map U) .any,?_,.cr l _ (fun a e=>by cases e)⟩;show(if x<S.aa then _ else ld S 1 (l.map U))=_;unfold ld;rw[if_neg u,if_pos (g7 l)]
  |nil=>exact⟨_,rfl,.cr l _ (fun a e=>by cases e)⟩
  |exact=>exact⟨_,rfl,.cr l _ (fun a e=>by cases e)⟩
  |any=>exact⟨_,rfl,.cr l _ (fun a e=>by cases e)⟩
 |cZ d j off cap cs l cR cB bK hle a1=>
  by_cases e:d=S.aa
  ·subst e;have A:S.own[j]? =some (.cells cs):=by simpa [ag.get] using cB
   refine⟨.cr 1 (l.map U) (if l.length=cap then .exact else .any),?_,.cr l _ (fun a=>?_)⟩
   ·show ev S (.cZ (.g S.aa j) off l.length cap 1)=_;simp -implicitDefEqProofs only[ev,gm,if_true,hp,A];rw[lO l l.length (cs.drop off) rfl bK,g7];rw[if_pos];simp -implicitDefEqProofs only[Nat.mul_one,er,bm];exact⟨eN hle,rfl⟩
   ·split<;> (intro e;cases e)
  ·have y:d<S.aa:=by omega
   refine⟨.cZ (.g d j) off l.length cap 1,?_,.cZ d j off cap cs l (by omega) ?_ bK hle a1⟩
   ·show ev S (.cZ (.g d j) off l.length cap 1)=_;simp -implicitDefEqProofs only[ev,gm];rw[if_neg e,if_pos y]
   ·simp -implicitDefEqProofs only[ag.get] at cB ⊢;rw[if_neg e,if_pos y,r.up,r.ro] at cB;by_cases dM:d=s.aa
    ·rw[if_pos dM]
     have:S.aa-1-d=0:=by omega
     rw[this] at cB;simpa using cB
    ·rw[if_neg dM,if_pos (by omega)]
     have:S.aa-1-d=(s.aa-1-d)+1:=by omega
     rw[this] at cB;simpa using cB
theorem lN.own{S:ag}{j off n cap:Nat}{cs:List ae}(l:List Nat)(dk:n=l.length)(cB:S.own[j]? =some (.cells cs))(bK:(cs.drop off).take l.length=l.map U)(hle:off+l.length≤cs.length)(a1:l.length≤cap):lN S (.cZ (.g S.aa j) off n cap 1) l:=by subst dk;exact .cZ S.aa j off cap cs l (aB _) (by simpa [ag.get] using cB) bK hle a1
def gQ(S:ag)(j:Nat)(l:List Nat):Prop:=S.own[j]? =some (.cells (l.map U))
def ag.put(S:ag)(j:Nat)(l:List Nat):ag:={S with own:=S.own.set j (.cells (l.map U))}
theorem gQ.put{S:ag}{j:Nat}{l:List Nat}(h:gQ S j l)(l':List Nat):gQ (S.put j l') j l':=by have df:=(eA.1 h).1;simp [gQ,ag.put,df]
theorem Child.put{s S:ag}(h:Child s S)(j:Nat)(l:List Nat):Child s (S.put j l):=⟨h.up,h.ro⟩
theorem gQ.get{S:ag}{j:Nat}{l:List Nat}(h:gQ S j l)(i n cap:Nat)(bY:i<l.length)(dk:i<n)(k:be):(a0 T G X).cL S (fun v S=>(a0 T G X).ay S k none v) 1 (.cZ (.l j) 0 n cap 1) (.int .i64 (i:Int))=k (U (l.getD i 0)) S:=by rw[kU _ _ _ _ _ _ _ dk,j5 h (c:=U (l.getD i 0)) (by simp [List.getD,bY])]
theorem gQ.gP{S:ag}{j:Nat}{l:List Nat}(h:gQ S j l)(i n cap x:Nat)(bY:i<l.length)(dk:i<n)(k:be):(a0 T G X).cL S (fun v S=>(a0 T G X).cC S k 1 v (U x)) 1 (.cZ (.l j) 0 n cap 1) (.int .i64 (i:Int))=k .dead (S.put j (l.set i x)):=by rw[kU _ _ _ _ _ _ _ dk,kT];have e:(U x).ff=true:=rfl;simp -implicitDefEqProofs only[fh,e,ae.cells,bT,cx,bf,gf,bC,bX];unfold ii;rw[show S.get (.l j)=some (.cells (l.map U)) from h];simp -implicitDefEqProofs only[Nat.mul_one,bT,cx,bf,show Nat.ble (i+1) (l.map U).length=true from eN (by simp;omega),show S.ho (.l j) [U x]=true from by simp [ag.ho,ag.oD],List.all_cons,show(U x).eG=true from rfl,List.all_nil,bC,bX];show k .dead {S with own:=S.own.set j (.cells ((l.map U).set i (U x)))}=_;rw[ag.put,List.map_set]
theorem gQ.make(S:ag)(n:Nat):gQ (S.new (.cells (List.replicate n (U 0)))) S.own.length (List.replicate n 0):=by simp [gQ,ag.new]
theorem gQ.rd{S:ag}{j:Nat}{l:List Nat}(h:gQ S j l)(n cap:Nat)(dk:n≤l.length)(a1:n≤cap):lN S (.cZ (.g S.aa j) 0 n cap 1) (l.take n):=by refine lN.own (l.take n) (by simp;omega) h ?_ (by simp;omega) (by simp;omega);simp [List.map_take]
theorem io(d i o l c z:Nat):ae.ap d (.cZ (.l i) o l c z)=.cZ (.g d i) o l c z:=rfl
theorem s6:∀l:List Nat,(l.map U).flatMap ae.cells=l.map U
 |[]=>rfl
 |x::l=>by simp -implicitDefEqProofs only[gd,List.flatMap_cons,s6 l];rfl
theorem s7:∀l:List Nat,(l.map U).all ae.eG=true
 |[]=>rfl
 |x::l=>by simp -implicitDefEqProofs only[gd,List.all_cons,s7 l,Bool.and_true];rfl
theorem lN.ls{S:ag}{v:ae}{l:List Nat}(h:lN S v l):dG S v=some (1,l.map U):=by
 cases h with
 |cr l g cB=>
  cases g with
  |dt a=>simp -implicitDefEqProofs only[dG,g7,if_true]
  |_=>rfl
 |cZ d j off cap cs l cR cB bK hle a1=>simp -implicitDefEqProofs only[dG,cB];rw[lO l l.length (cs.drop off) rfl bK,g7];rw[if_pos];simp -implicitDefEqProofs only[Nat.mul_one,er,bm];exact⟨eN hle,rfl⟩
theorem z8(vs cs:List ae)(h:vs.length≤cs.length):dN cs 0 vs=vs++cs.drop vs.length:=by
 apply List.ext_getElem?;intro j;rw[gK _ _ _ (by omega)];by_cases df:j<vs.length
 ·rw[if_pos (by omega),ha df];rfl
 ·rw[if_neg (by omega),jW (by omega),List.getElem?_drop];congr 1;omega
theorem gQ.copy{S:ag}{v:ae}{l e:List Nat}{j n:Nat}(h:gQ S j e)(bJ:lN S v l)(bK:l.length≤e.length)(dk:n=e.length)(k:be):(a0 T G X).rj S k 1 (.cZ (.l j) 0 n n 1) v=k (.int .i64 (l.length:Int)) (S.put j (l++e.drop l.length)):=by subst dk;show lC _ S k 1 (.cZ (.l j) 0 e.length e.length 1) v=_;unfold lC;simp -implicitDefEqProofs only[gf,bX];unfold copyV;simp -implicitDefEqProofs only[bJ.ls,show S.get (.l j)=some (.cells (e.map U)) from h,eo,Nat.min_eq_left bK,gf,er,bf,Nat.mul_one,eN (aB _)];rw[show(l.map U).take l.length=l.map U from jr (by simp),s6,s7];simp -implicitDefEqProofs only[bX];rw[z8 _ _ (by simpa using bK)];simp -implicitDefEqProofs only[eo];show k _ {S with own:=S.own.set j (.cells (l.map U++(e.map U).drop l.length))}=_;rw[←List.map_drop,←List.map_append];rfl
theorem sv{S:ag}{j n:Nat}{cs vs:List ae}(h:S.own[j]? =some (.cells cs))(ar:vs.length=n)(av:cs.length=n)(bO:vs.all ae.eG=true):(a0 T G X).cC S k n (.ref (.l j) 0) (.agg vs)=k .dead {S with own:=S.own.set j (.cells vs)}:=by
 rw[kT];unfold fh;simp -implicitDefEqProofs only[ae.ff,ae.cells,ar,gf,bC,bX];unfold ii;rw[show S.get (.l j)=some (.cells cs) from h];have e:dN cs 0 vs=vs:=s5 _ _ (by omega);have dM:Nat.ble (0+vs.length) cs.length=true:=eN (by omega);have r:S.ho (.l j) vs=true:=by simp [ag.ho,ag.oD]
 simp -implicitDefEqProofs only[dM,r,bO,bC,bX,e];rfl
theorem vo{S:ag}{j n:Nat}{cs:List ae}(h:S.own[j]? =some (.cells cs))(dk:cs.length=n):kS S (.ref (.l j) 0) (some n)=some (.agg cs):=by unfold kS;simp -implicitDefEqProofs only[show S.get (.l j)=some (.cells cs) from h,bf,bW];rw[if_pos (eN (by omega)),jr (by omega)]
theorem jz.freeze{v:ae}{l:List Nat}(h:jz v l)(S:ag):Ab.freeze S v=some v:=by obtain⟨g,rfl,cB⟩:=h;show ev S _=_;cases g<;> first|rfl |exact absurd rfl (cB _)
theorem jz.ap{v:ae}{l:List Nat}(h:jz v l)(d:Nat):v.ap d=v:=(h.rd default).ap d
theorem jz.ev{v:ae}{l:List Nat}(h:jz v l)(S:ag):Ab.ev S v=some v:=by obtain⟨g,rfl,cB⟩:=h;cases g<;> first|rfl |exact absurd rfl (cB _)
theorem jz.bb{v:ae}{l:List Nat}(h:jz v l):v.bb=true:=by obtain⟨g,rfl,cB⟩:=h;cases g<;> first|rfl |exact absurd rfl (cB _)
theorem jz.eG{v:ae}{l:List Nat}(h:jz v l):v.eG=true:=by obtain⟨g,rfl,cB⟩:=h;rfl
theorem jz.cut{v:ae}{l:List Nat}(h:jz v l)(n:Nat):jz (o1 v n) (l.take n):=by obtain⟨g,rfl,cB⟩:=h;exact⟨o0 g (l.map U).length n,by simp [o1,List.map_take],vn cB _ _⟩
theorem jz.fb(l:List Nat):jz (.cr 1 (l.map U) .exact) l:=⟨.exact,rfl,fun a e=>by cases e⟩
theorem Iy{S:ag}{j:Nat}{l:List Nat}(h:gQ S j l):S.put j l=S:=by
 obtain⟨own,up,ro⟩:=S;simp -implicitDefEqProofs only[gQ] at h;simp -implicitDefEqProofs only[ag.put];congr 1;apply List.ext_getElem?;intro i;by_cases e:j=i
 ·subst e;rw[List.getElem?_set_self (eA.1 h).1,h]
 ·rw[nm e]
theorem gQ.Fw{S:ag}{i j:Nat}{l:List Nat}(h:gQ S j l)(e3:i≠j)(l':List Nat):gQ (S.put i l') j l:=by simp -implicitDefEqProofs only[gQ,ag.put] at h ⊢;rw[nm e3];exact h
theorem gQ.new{S:ag}{j:Nat}{l:List Nat}(h:gQ S j l)(o:dp):gQ (S.new o) j l:=by simp -implicitDefEqProofs only[gQ,ag.new] at h ⊢;rw[ha (eA.1 h).1];exact h
theorem gQ.lt{S:ag}{j:Nat}{l:List Nat}(h:gQ S j l):j<S.own.length:=(eA.1 h).1
theorem nd(a:ae)(l:List ae):(a0 T G X).bH s k 0 (.eb (a::l))=k a s:=gw _ _ _ rfl
theorem nf(a b:ae)(l:List ae):(a0 T G X).bH s k 1 (.eb (a::b::l))=k b s:=gw _ _ _ rfl
theorem sw(a b c:ae)(l:List ae):(a0 T G X).bH s k 2 (.eb (a::b::c::l))=k c s:=gw _ _ _ rfl
theorem s8(l:List Nat):(a0 T G X).a6 s k 1 (l.map U)=k (.cr 1 (l.map U) .exact) s:=by
 refine nc 1 _ (g7 l) ?_
 induction l with
 |nil=>rfl
 |cons x l e=>simp -implicitDefEqProofs only[gd,List.all_cons,e,Bool.and_true];rfl
end Go.Ab
end
section
namespace Go.Ab
def o2:ag:={own:=[],up:=[],ro:=[]}
def fv(w:World):bh:={F:=fun a=>if a.spot=none then w.cell? a else none,n:=fun _=>0,loc:=fun _ _=>0,lo:=fun _ _ _=>none}
theorem cY.init(w:World):cY (fv w) o2 w:=by
 have e:∀d i,o2.get (.g d i)=none:=by intro d i;simp [ag.get,o2]
 refine⟨fun a v h=>?_,fun d l h=>?_,fun d i o h=>?_,fun d i o fG hx o' b h=>?_⟩
 ·simp only[fv] at h;split at h
  ·rename_i a3;exact⟨a3,h⟩
  ·cases h
 ·unfold ag.ao o2 at h;simp at h;simp [h,fv]
 ·rw[e] at h;cases h
 ·rw[e] at h;cases h
structure Left (w w':World):Prop where
 size:w.heap.size≤w'.heap.size
 os:w'.os=w.os
 tape:w'.tape=w.tape
 output:w'.output=w.output
 CU:∀b,b<w.heap.size→w'.heap[b]? =w.heap[b]?
theorem ft.left{w w':World}{κ':bh}{s':ag}(h:ft (fv w) o2 w κ' s' w'):Left w w':=
 ⟨h.size,h.os,h.tape,h.output,fun b e=>h.kK b e (fun⟨d,i,o,cB,_⟩=>by simp [ag.get,o2] at cB)⟩
section
variable{P:Program}(hm:P.follows .mixedOrders=true){T:kD}(eO:T.pn P){ra:Nat→Option c0}(xo:C5 P T ra){G:Nat→ae}{X:Nat→List ae→ag→ah}(kA:VJ P ra G X)
include hm eO xo kA
theorem z9{n f:Nat}{args:List ae}{s':ag}{w:World}{xs:List Value}(h:call .not ra G X n f args o2=.ok (.bool true) s')(bt:ra f≠none)(dS:j9 (fv w) G)(a9:ej (fv w) 1 args xs):
  Calls P f xs.toArray w fun e w'=>e=.returned (.bool true)∧Left w w':=by
 have y:∃fn,P.funcs[f]? =some fn∧fn.body.isSome=true∧(fn.name== "runtime.NumGoroutine")=false:=by
  cases dU:ra f with
  |none=>exact absurd dU bt
  |some A=>
   obtain⟨fn,ar,av⟩:=xo f A dU;unfold u7 at av;cases r:fn.body with
   |none=>rw[r] at av;cases av
   |some c=>rw[r] at av;simp only[bm,Bool.not_eq_true'] at av;exact⟨fn,ar,by simp [r],av.1.1.1.1⟩
 have B:∀x w',mj (fv w) o2 w (.bool true) s' x w'→x=.bool true∧Left w w':=fun x w' ⟨κ',ar,_,bO⟩=>by exact⟨dA.gT (b:=true) bO,ar.left⟩
 rcases(va hm eO xo kA n 0).ok f args o2 _ s' (fv w) w xs h (cY.init w) dS a9 with⟨x,w',ar,av⟩|⟨ar,av⟩
 ·obtain⟨fn,F,u,H⟩:=y;exfalso;have I:¬fn.name= "runtime.NumGoroutine" :=by simpa using H
  cases r:fn.body with
  |none=>rw[r] at u;cases u
  |some c=>simp [callFunc,F,I,r] at ar
 ·exact av.mono fun e w' ⟨x,he,J⟩=>by obtain⟨dM,K⟩:=B x w' J;exact⟨by rw[he,dM],K⟩
end
inductive pq where
 |bool|int (k:IntKind)|str|cr (e:pq)|gP (jy:List pq)
mutual
def pq.size:pq→Nat
 |.gP jy=>pq.o3 jy
 |_=>1
def pq.o3:List pq→Nat
 |[]=>0
 |s::tF=>s.size+pq.o3 tF
end
def elemV:List ae→ae
 |[c]=>c
 |cs=>.agg cs
section
variable{H:Type}
mutual
def hU:pq→DataW H→List ae
 |.bool,d=>match d with |.lit (.bool b)=>[.bool b]|_=>[]
 |.int k,d=>match d with |.lit (.int _ n)=>[.int k n]|_=>[]
 |.str,d=>match d with |.lit (.string fb)=>[.str (fb.map UInt8.toNat)]|_=>[]
 |.cr e,d=>match d with |.slice es _=>[.cr e.size (es.map fun x=>elemV (hU e x)) .any]|_=>[.cr e.size [] .nil]
 |.gP jy,d=>match d with |.agg h3=>n7 jy h3|_=>[]
def n7:List pq→List (DataW H)→List ae
 |[],_=>[]
 |s::tF,l=>match l with |d::h3=>hU s d++n7 tF h3|[]=>[]
end
mutual
def h8:pq→DataW H→Prop
 |.bool,d=>∃b,d=.lit (.bool b)
 |.int k,d=>∃n,d=.lit (.int k n)∧(Lit.int k n).wf=true
 |.str,d=>∃fb,d=.lit (.string fb)∧fb.length≤maxLen
 |.cr e,d=>d=.nil∨∃es rest,d=.slice es rest∧es.length+rest.length≤maxLen∧∀x,x∈es→h8 e x
 |.gP jy,d=>∃h3,d=.agg h3∧kn jy h3
def kn:List pq→List (DataW H)→Prop
 |[],l=>l=[]
 |s::tF,l=>∃d h3,l=d::h3∧h8 s d∧kn tF h3
end
mutual
def ms(P:Program):pq→TypeId→Bool
 |.bool,t=>match P.underlying t with |some .bool=>true|_=>false
 |.int k,t=>match P.underlying t with |some (.int lz)=>decide (lz=k)|_=>false
 |.str,t=>match P.underlying t with |some .string=>true|_=>false
 |.cr e,t=>match P.underlying t with |some (.slice u)=>ms P e u&&Nat.beq (P.cellsOf u) e.size&&Nat.blt 0 e.size|_=>false
 |.gP jy,t=>match P.underlying t with |some (.struct se)=>sx P jy se.toList 0&&Nat.beq (P.cellsOf t) (pq.o3 jy)|_=>false
def sx(P:Program):List pq→List Field→Nat→Bool
 |[],se,_=>match se with |[]=>true|_=>false
 |s::tF,se,off=>match se with |f::se=>Nat.beq f.offset off&&Nat.beq (P.cellsOf f.type) s.size&&ms P s f.type&&sx P tF se (off+s.size)|[]=>false
end
structure Fx (κ:bh) (D:Nat) (n:Nat) (as:List ae) (cs:List Value):Prop where
 OU:ej κ D as cs
 len:cs.length=n
 ref:ae.a7 as=true
 one:∀c,c∈as→c.cells=[c]
theorem Fx.JV{κ:bh}{D n:Nat}{as:List ae}{cs:List Value}(h:Fx κ D n as cs):as.length=n:=by rw[←h.OU.1,h.len]
theorem Fx.elem{κ:bh}{D n:Nat}{as:List ae}{cs:List Value}(h:Fx κ D n as cs):(elemV as).cells=as∧(elemV as).bb=true:=by
 unfold elemV;split
 ·rename_i c
  have:=h.ref;simp only[ae.a7,Bool.and_true] at this;exact⟨h.one c (by simp),this⟩
 ·exact⟨rfl,by simpa [ae.bb] using h.ref⟩
theorem rm:∀{a b:List ae},ae.a7 a=true→ae.a7 b=true→ae.a7 (a++b)=true
 |[],b,_,h=>h
 |x::a,b,h,k=>by simp only[ae.a7,bm] at h;simp only[List.cons_append,ae.a7,h.1,rm h.2 k,bC]
theorem Fx.append{κ:bh}{D n m:Nat}{as fb:List ae}{cs h3:List Value}(h:Fx κ D n as cs)(k:Fx κ D m fb h3):Fx κ D (n+m) (as++fb) (cs++h3):=
 ⟨h.OU.append k.OU,by simp [h.len,k.len],rm h.ref k.ref,fun c a1=>by
  rcases List.mem_append.1 a1 with ar|ar
  ·exact h.one c ar
  ·exact k.one c ar⟩
theorem Fx.single{κ:bh}{D:Nat}{a:ae}{v:Value}(h:dA κ D a v)(aQ:a.bb=true)(ar:a.cells=[a]):Fx κ D 1 [a] [v]:=
 ⟨.cons h (.nil _ _),rfl,by simp [ae.a7,aQ],fun c a1=>by simp only[List.mem_singleton] at a1;subst a1;exact ar⟩
variable{enc:TypeId×Value→H}{P:Program}{w:World}
mutual
theorem o4(D:Nat):∀(Da:pq) (t:TypeId) (fuel:Nat) (cs:List Value) (d:DataW H) (ea:List MemPlace),ms P Da t=true→DataW.trod enc P w 0 (fun _=>true) true fuel t cs=some (d,ea)→
  Fx (fv w) D Da.size (hU Da d) cs∧h8 Da d
 |.bool,t,fuel,cs,d,ea,a3,h=>by
  simp only[ms] at a3;split at a3<;> try cases a3
  rename_i hu;obtain⟨b,rfl,e⟩:=DataW.trod_bool hu h;cases e;exact⟨.single (.bool b) rfl rfl,by simp only[h8];exact⟨b,rfl⟩⟩
 |.int k,t,fuel,cs,d,ea,a3,h=>by
  simp only[ms] at a3;split at a3<;> try cases a3
  rename_i lz hu;have dc:lz=k:=of_decide_eq_true a3;subst dc;obtain⟨n,rfl,e,hw⟩:=DataW.trod_int hu h;cases e;exact⟨.single (.int lz n) rfl rfl,by simp only[h8];exact⟨n,rfl,hw⟩⟩
 |.str,t,fuel,cs,d,ea,a3,h=>by
  simp only[ms] at a3;split at a3<;> try cases a3
  rename_i hu;obtain⟨s,rfl,e,hw⟩:=DataW.trod_string hu h;cases e;exact⟨.single (.str _ s rfl) rfl rfl,by simp only[h8];exact⟨_,rfl,hw⟩⟩
 |.cr e,t,fuel,cs,d,ea,a3,h=>by
  simp only[ms] at a3;split at a3<;> try cases a3
  rename_i u hu;simp only[bm] at a3;obtain⟨⟨aca,eZ⟩,kB⟩:=a3;have eZ:=dj eZ;have kB:0<e.size:=by simpa [Nat.blt_eq] using kB
  rcases DataW.trod_slice hu h with⟨rfl,dM⟩|⟨a,len,cap,ls,rest,n,rfl,rfl,dM,_,tw,sP,hlen,iB,acb,_⟩
  ·cases dM;exact⟨.single (.kI _) rfl rfl,by simp only[h8];exact .inl trivial⟩
  ·cases dM;have row:∀i,i<len→∃x r,ls[i]? =some x∧(∀j,j<e.size→w.cell? (a.add (i*e.size+j))=r[j]?)∧Fx (fv w) D e.size (hU e x.1) r∧h8 e x.1:=fun i bY=>by
    have ar:=iB i bY;obtain⟨x,a9⟩:∃x,ls[i]? =some x:=⟨_,eI (by omega)⟩;rw[a9] at ar;obtain⟨r,aQ,av⟩:=Option.bind_eq_some_iff.1 ar;obtain⟨_,sm,uN⟩:=World.cells?_some aQ;obtain⟨k1,pI⟩:=o4 D e u n r x.1 x.2 aca av;refine⟨x,r,a9,fun j df=>?_,k1,pI⟩
    have:=uN j (by omega);rw[add_add,eZ] at this;exact this
   have VY:=(acb rfl).1;have jo:∀y,y∈ls→∃r,Fx (fv w) D e.size (hU e y.1) r∧h8 e y.1:=fun y eQ=>by
    obtain⟨i,bY,eQ⟩:=List.getElem_of_mem eQ;obtain⟨x,r,a9,_,k1,pI⟩:=row i (by omega)
    have:x=y:=by rw[eI bY,eQ] at a9;exact(Option.some.inj a9).symm
    subst this;exact⟨r,k1,pI⟩
   have Fy:∀y,y∈(ls.map (·.1)).map (fun x=>elemV (hU e x))→y.cells.length=e.size∧y.bb=true:=fun y eQ=>by simp only[List.map_map,List.mem_map,Function.comp] at eQ;obtain⟨z,hC,rfl⟩:=eQ;obtain⟨r,k1,_⟩:=jo z hC;exact⟨by rw[k1.elem.1,k1.JV],k1.elem.2⟩
   have wJ:((ls.map (·.1)).map (fun x=>elemV (hU e x))).length=len:=by simp [hlen]
   have JW:=e4 ((ls.map (·.1)).map (fun x=>elemV (hU e x))) e.size (fun y eQ=>(Fy y eQ).1);rw[wJ] at JW;have cell:∀j,j<len*e.size→∃c v,(((ls.map (·.1)).map (fun x=>elemV (hU e x))).flatMap ae.cells)[j]? =some c∧w.cell? (a.add j)=some v∧dA (fv w) D c v:=fun j df=>by
    have gr:j/e.size<len:=Nat.div_lt_of_lt_mul (by rw[et];exact df);have ie:j%e.size<e.size:=Nat.mod_lt _ kB;have ux:j/e.size*e.size+j%e.size=j:=by rw[et];exact Nat.div_add_mod j e.size
    obtain⟨x,r,a9,a1,k1,_⟩:=row _ gr;have a1:=a1 _ ie;rw[ux] at a1;have dM:((ls.map (·.1)).map (fun x=>elemV (hU e x)))[j/e.size]? =some (elemV (hU e x.1)):=by simp [a9]
    have f1:=nu _ e.size _ _ (fun y eQ=>(Fy y eQ).1) dM _ ie;rw[ux,k1.elem.1] at f1;obtain⟨c,Db⟩:∃c,(hU e x.1)[j%e.size]? =some c:=⟨_,eI (by rw[k1.JV];exact ie)⟩;obtain⟨v,bJ,VZ⟩:=k1.OU.get Db;exact⟨c,v,by rw[f1,Db],by rw[a1,bJ],VZ⟩
   have JX:0<len→a.spot=none:=fun eJ=>by
    obtain⟨c,v,_,bJ,_⟩:=cell 0 (Nat.mul_pos eJ kB)
    have:a.add 0=a:=by simp [Addr.add]
    rw[this] at bJ;exact World.cell?_spot bJ
   refine⟨.single ?_ (by simp [ae.bb]) rfl,?_⟩
   ·have key:dA (fv w) D (.cr e.size ((ls.map (·.1)).map (fun x=>elemV (hU e x))) .any) (.slice (some a) ((ls.map (·.1)).map (fun x=>elemV (hU e x))).length cap):=by
     refine .cr e.size _ .any a cap (fun j=>(w.cell? (a.add j)).getD undef) trivial (by rw[wJ];exact tw) (fun e3=>JX ?_) (fun y eQ=>(Fy y eQ).1) (.inl fun y eQ=>(Fy y eQ).2) (fun j df=>?_) (fun j c a1=>?_)
     ·rw[←wJ];exact List.length_pos_iff.2 e3
     ·rw[JW] at df;obtain⟨c,v,_,bJ,_⟩:=cell j df;have eJ:0<len:=Nat.pos_of_ne_zero fun nV=>by rw[nV] at df;simp at df
      simp only[fv,md (JX eJ),if_true,bJ,Option.getD_some]
     ·have df:j<len*e.size:=by rw[←JW];exact(eA.1 a1).1
      obtain⟨nK,v,kL,bJ,VZ⟩:=cell j df;rw[a1] at kL;cases kL;simp only[bJ,Option.getD_some];exact VZ
    rw[wJ] at key;exact key
   ·simp only[h8];refine .inr ⟨_,_,rfl,by simp [hlen,VY];omega,fun x a9=>?_⟩;simp only[List.mem_map] at a9;obtain⟨y,eQ,rfl⟩:=a9;exact(jo y eQ).choose_spec.2
 |.gP jy,t,fuel,cs,d,ea,a3,h=>by
  simp only[ms] at a3;split at a3<;> try cases a3
  rename_i se hu;simp only[bm] at a3;have eZ:=dj a3.2;obtain⟨xs,n,rfl,dM,bK,fU,bt⟩:=DataW.trod_struct hu h;cases dM
  have:=rn D jy se.toList 0 n cs xs a3.1 (by simpa using fU) (by rw[bK,eZ];omega) (fun i f bY=>by simpa using bt i f (by simpa using bY));refine⟨?_,?_⟩
  ·simpa [hU,pq.size] using this.1
  ·simp only[h8];exact⟨_,rfl,this.2⟩
theorem rn(D:Nat):∀(tF:List pq) (se:List Field) (off n:Nat) (cs:List Value) (xs:List (DataW H×List MemPlace)),sx P tF se off=true→xs.length=se.length→cs.length=off+pq.o3 tF→
  (∀(i:Nat) (f:Field),se[i]? =some f→DataW.trod enc P w 0 (fun _=>true) true n f.type ((cs.drop f.offset).take (P.cellsOf f.type))=xs[i]?)→
  Fx (fv w) D (pq.o3 tF) (n7 tF (xs.map (·.1))) (cs.drop off)∧kn tF (xs.map (·.1))
 |[],se,off,n,cs,xs,a3,a9,bK,bt=>by
  cases se with
  |cons f se=>simp [sx] at a3
  |nil=>obtain rfl:xs=[]:=kF (by simpa using a9);simp only[pq.o3,Nat.add_zero] at bK;rw[l5 (by omega)];exact⟨⟨.nil _ _,rfl,rfl,fun c a1=>by simp [n7] at a1⟩,by simp [kn]⟩
 |s::tF,se,off,n,cs,xs,a3,a9,bK,bt=>by
  cases se with
  |nil=>simp [sx] at a3
  |cons f se=>
   simp only[sx,bm] at a3;obtain⟨⟨⟨ar,av⟩,bO⟩,dD⟩:=a3;have ar:=dj ar;have av:=dj av;cases xs with
   |nil=>simp at a9
   |cons x xs=>
    have vp:=bt 0 f rfl;simp only[List.getElem?_cons_zero] at vp;rw[ar,av] at vp;obtain⟨k1,pI⟩:=o4 D s f.type n _ x.1 x.2 bO vp;simp only[pq.o3] at bK;obtain⟨Aa,aaA⟩:=rn D tF se (off+s.size) n cs xs dD (by simpa using a9) (by omega) (fun i wt bY=>by simpa using bt (i+1) wt (by simpa using bY));refine⟨?_,?_⟩
    ·have dM:cs.drop off=(cs.drop off).take s.size++cs.drop (off+s.size):=by
      rw[←List.drop_drop];exact(List.take_append_drop _ _).symm
     rw[dM];simpa [n7,pq.o3] using k1.append Aa
    ·simp only[gd,kn];exact⟨_,_,rfl,pI,aaA⟩
end
end
end Go.Ab
end
section
namespace Go.Ab
open Go.ChangeShapes Go.WideShapes
section
variable{H:Type}{enc:TypeId×Value→H}{P:Program}
def pV:pq→DataW H→ae
 |.gP jy,d=>.agg (hU (.gP jy) d)
 |Da,d=>(hU Da d).headD .dead
theorem Dc{W:World}(D:Nat){Da:pq}{t:TypeId}{v:Value}{d:DataW H}{ea:List MemPlace}{base:Nat}(a3:ms P Da t=true)(bJ:Value.okWide P W .any base t v)(h:DataW.Trod enc P W 0 (fun _=>true) true t v d ea):
  dA (fv W) D (pV Da d) v∧h8 Da d:=by
 obtain⟨fuel,h⟩:=h;obtain⟨ar,av⟩:=o4 D Da t fuel _ d ea a3 h;refine⟨?_,av⟩;have single:Da.size=1→(∀cs,v≠.agg cs)→dA (fv W) D ((hU Da d).headD .dead) v:=fun hC e3=>by
  have a1:v.cells.toList=[v]:=by
   cases v<;> try rfl
   exact absurd rfl (e3 _)
  rw[a1] at ar;have qh:=ar.JV;rw[hC] at qh
  match gr:hU Da d,qh with
  |[c],_=>obtain⟨x,a9,aQ⟩:=ar.OU.get (j:=0) (c:=c) (by rw[gr];rfl);cases a9;exact aQ
 cases Da with
 |gP jy=>
  simp only[ms] at a3;split at a3<;> try cases a3
  rename_i se hu;unfold Value.okWide at bJ;rw[hu] at bJ;obtain⟨cs,rfl,_,_⟩:=bJ;exact .agg _ cs.toList ar.OU.1 ar.OU.2
 |bool=>
  refine single rfl fun cs e=>?_
  subst e;simp only[ms] at a3;split at a3<;> try cases a3
  rename_i hu;simp [Value.okWide,hu,Cell.okWide,Cell.ok] at bJ
 |int k=>
  refine single rfl fun cs e=>?_
  subst e;simp only[ms] at a3;split at a3<;> try cases a3
  rename_i hu;simp [Value.okWide,hu,Cell.okWide,Cell.ok] at bJ
 |str=>
  refine single rfl fun cs e=>?_
  subst e;simp only[ms] at a3;split at a3<;> try cases a3
  rename_i hu;simp [Value.okWide,hu,Cell.okWide,Cell.ok] at bJ
 |cr e=>
  refine single rfl fun cs e=>?_
  subst e;simp only[ms] at a3;split at a3<;> try cases a3
  rename_i hu;simp [Value.okWide,hu,Cell.okWide,Cell.ok] at bJ
def JY:List pq→List (DataW H)→List ae
 |s::tF,d::h3=>pV s d::JY tF h3
 |_,_=>[]
def vq(P:Program):List pq→List TypeId→Bool
 |[],[]=>true
 |s::tF,t::e=>ms P s t&&vq P tF e
 |_,_=>false
theorem s9{W:World}(D:Nat){base:Nat}:∀(r:List pq) (e:List TypeId) (vs:List Value) (h3:List (DataW H)) (ea:List MemPlace),vq P r e=true→(∀(j:Nat) t v,e[j]? =some t→vs[j]? =some v→Value.okWide P W .any base t v)→
  DataW.TrodAll enc P W 0 (fun _=>true) true e vs h3 ea→ej (fv W) D (JY r h3) vs∧kn r h3
 |[],[],vs,h3,ea,_,_,h=>by
  cases vs with
  |cons v vs=>simp [DataW.TrodAll] at h
  |nil=>
   cases h3 with
   |cons d h3=>simp [DataW.TrodAll] at h
   |nil=>exact⟨.nil _ _,by simp [kn]⟩
 |s::tF,[],_,_,_,a3,_,_=>by simp [vq] at a3
 |[],t::e,_,_,_,a3,_,_=>by simp [vq] at a3
 |s::tF,t::e,vs,h3,ea,a3,bJ,h=>by
  cases vs with
  |nil=>cases h3<;> simp [DataW.TrodAll] at h
  |cons v vs=>
   cases h3 with
   |nil=>simp [DataW.TrodAll] at h
   |cons d h3=>simp only[DataW.TrodAll] at h;obtain⟨p,q,ar,av,_⟩:=h;simp only[vq,bm] at a3;obtain⟨k1,pI⟩:=Dc D a3.1 (bJ 0 t v rfl rfl) ar;obtain⟨Aa,aaA⟩:=s9 D tF e vs h3 q a3.2 (fun j OF fB dU u=>bJ (j+1) OF fB (by simpa using dU) (by simpa using u)) av;refine⟨.cons k1 Aa,?_⟩;simp only[kn];exact⟨_,_,rfl,pI,aaA⟩
theorem Left.sameAt{W e:World}(h:Left W e){p:MemPlace}(fp:p.block<W.heap.size):W.sameAt e p:=by
 cases p with
 |cell b off=>show e.cell? _=W.cell? _;unfold World.cell?;simp only[h.CU b fp]
 |map b=>exact h.CU b fp
theorem xE{W r:World}(bK:laidOutB P=true)(n2:Left W r):∀(e:List TypeId) (vs:List Value) (h3:List (DataW H)) (ea:List MemPlace),(∀t,t∈e→P.readableRec t=true∧t<P.types.size)→(∀p,p∈ea→p.block<W.heap.size)→
  DataW.TrodAll enc P W 0 (fun _=>true) true e vs h3 ea→DataW.TrodAll enc P r 0 (fun b=>decide (b<W.heap.size)) true e vs h3 ea
 |[],vs,h3,ea,_,_,h=>by cases vs<;> cases h3<;> simp only[DataW.TrodAll] at h ⊢;exact h
 |t::e,vs,h3,ea,dU,fp,h=>by
  cases vs with
  |nil=>cases h3<;> simp [DataW.TrodAll] at h
  |cons v vs=>
   cases h3 with
   |nil=>simp [DataW.TrodAll] at h
   |cons d h3=>
    simp only[DataW.TrodAll] at h ⊢;obtain⟨p,q,ar,av,rfl⟩:=h;have aQ:=dU t (by simp);exact⟨p,q,WideElems.Trod_stays bK aQ.1 aQ.2 ar (fun x a9=>n2.sameAt (fp x (by simp [a9]))) (fun x a9=>by simpa using fp x (by simp [a9])),
     xE bK n2 e vs h3 q (fun OF u=>dU OF (by simp [u])) (fun x a9=>fp x (by simp [a9])) av,rfl⟩
theorem Left.keptBut{W e:World}(h:Left W e)(may:MemPlace→Prop):W.keptBut e may:=by
 refine⟨h.os,h.output,fun i bY=>?_⟩;rw[h.CU i bY]
 have:∃o,W.heap[i]? =some o:=⟨_,Array.getElem?_eq_getElem bY⟩;obtain⟨o,r⟩:=this;rw[r];cases o<;> simp
theorem Dd{f:Func}{s:ChangeSpec}{W A:World}{args:Array Value}{h3 gs:List (DataW H)}{before:List MemPlace}(r:DataW.Whole enc P f.params.toList s.vars false W args.toList h3 gs before)(bJ:s.vars=[])
  (bt:∀(l:List (DataW H)),l.length=f.params.size→s.fn H l= {results:=[.lit (.bool true)],args:=l,vars:=[]}){tb:TypeId}(I:f.resultTypes= #[tb])(J:P.underlying tb=some .bool)(bK:laidOutB P=true)
  (K:∀t,t∈f.params.toList→P.readableRec t=true∧t<P.types.size)(n2:Left W A):s.post enc P f false true false false W args (.bool true) A:=by
 have L:=r;have B:=r.lt;obtain⟨p,q,F,u,rfl,_,_⟩:=r;rw[bJ] at u;have M:gs=[]∧q=[]:=by cases gs<;> simp [DataW.TrodVars] at u;exact⟨rfl,u⟩
 obtain⟨rfl,rfl⟩:=M;have hlen:∀(e:List TypeId) (vs:List Value) (h3:List (DataW H)) (ea:List MemPlace),DataW.TrodAll enc P W 0 (fun _=>true) true e vs h3 ea→h3.length=e.length:=by
  intro e
  induction e with
  |nil=>intro vs h3 ea h;cases vs<;> cases h3<;> simp [DataW.TrodAll] at h ⊢
  |cons t e N=>intro vs h3 ea h;cases vs<;> cases h3<;> simp only[DataW.TrodAll] at h;obtain⟨_,_,_,av,_⟩:=h;simp [N _ _ _ av]
 have y:=bt (h3++[]) (by simpa using hlen _ _ _ _ F);refine⟨h3,[],p++[],[],p,[],L,?_,?_,?_,n2.keptBut _,fun h=>by cases h⟩
 ·rw[y,I];exact⟨[],[],⟨1,by simp [DataW.trod,Value.cells,J]⟩,rfl,rfl⟩
 ·rw[y];simp only[uj] at B ⊢;exact xE bK n2 _ _ _ _ K B F
 ·rw[y,bJ];rfl
end
end Go.Ab
end
section
namespace Go.Ab
def aaB:Value→ae
 |.bool b=>.bool b
 |.int k n=>.int k n
 |.string _=>.str []
 |.pointer _=>.hE
 |.slice _ _ _=>.cr 0 [] .nil
 |.map _=>.fe
 |.nilFunc=>.hT
 |.nilIface=>.hF
 |_=>.dead
noncomputable def JZ(P:Program):kD:={dZ:=fun t=>P.underlying t,info:=fun t=>(P.info? t).bind fun i=>i.zero.map fun z=>(i.size,i.bytes,z),VI:=fun t=>match (P.info? t).bind (·.zero) with |some z=>z.cells.toList.map aaB|none=>[],eqs:=fun t=> !P.stoodInHeld t&& !P.eqGuardType P.depth t}
theorem J0{o:Option TypeInfo}{n b:Nat}{z:Value}(h:(o.bind fun i=>i.zero.map fun z=>(i.size,i.bytes,z))=some (n,b,z)):∃i,o=some i∧i.size=n∧i.bytes=b∧i.zero=some z:=by obtain⟨i,bY,h⟩:=Option.bind_eq_some_iff.1 h;obtain⟨VH,hC,h⟩:=Option.map_eq_some_iff.1 h;cases h;exact⟨i,bY,rfl,rfl,hC⟩
theorem rp(P:Program):(JZ P).pn P where
 dZ:=fun _ _ h=>h
 info:=fun t _ _ _ h=>J0 (o:=P.info? t) h
 eqs:=fun t h=>by have e:(!P.stoodInHeld t&& !P.eqGuardType P.depth t)=true:=h;simpa using e
 CV:=fun _ _ h=>by cases h
noncomputable def aaC(P:Program)(n:Nat):kD:={JZ P with CV:=fun f j=>Nat.beq f n&&Nat.beq j 0}
theorem OV(P:Program)(n:Nat)(h:zM P n 0):(aaC P n).pn P where
 dZ:=(rp P).dZ
 info:=(rp P).info
 eqs:=(rp P).eqs
 CV:=fun f j e=>by have e:(Nat.beq f n&&Nat.beq j 0)=true:=e;simp only[bm] at e;have ar:=dj e.1;have av:=dj e.2;subst ar;subst av;exact h
def ag.on(s:ag)(o:List dp):ag:={own:=o,up:=s.own::s.up,ro:=s.ro}
theorem ag.gZ(s:ag)(o:List dp):(s.on o).aa=s.aa+1:=s.iX
theorem ag.De(s:ag)(o:List dp)(d:Nat):(s.on o).ao d=if d=s.aa+1 then some o else s.ao d:=by
 have h:=s.qH d;unfold ag.ao at h ⊢;rw[ag.gZ];rw[ag.iX] at h;by_cases ar:d=s.aa+1
 ·simp [ar,ag.on]
 ·simp only[ar,↓reduceIte] at h ⊢;exact h
theorem ag.ko(s:ag)(o:List dp)(d i:Nat):(s.on o).get (.g d i)=if d=s.aa+1 then o[i]? else s.get (.g d i):=by rw[ag.mc,ag.mc,ag.De];split<;> rfl
theorem ag.Fz(s:ag)(o:List dp){d i:Nat}{b:dp}(h:s.get (.g d i)=some b):(s.on o).get (.g d i)=some b:=by rw[ag.ko,if_neg (by have:=ag.gv h;omega)];exact h
theorem cY.off{κ:bh}{s:ag}{o:List dp}{w:World}(h:cY κ (s.on o) w):cY κ s w:=h.pop (s:=s.on o) rfl
theorem Live.on{κ:bh}{s:ag}{o:List dp}{b:Nat}(h:Live κ (s.on o) b):Live κ s b∨∃i x,o[i]? =some x∧bg κ (s.aa+1) i x=some b:=by
 obtain⟨d,i,x,ar,av⟩:=h;rw[ag.ko] at ar;split at ar
 ·rename_i cR;exact .inr ⟨i,x,ar,by rw[←cR];exact av⟩
 ·exact .inl ⟨d,i,x,ar,av⟩
theorem Live.up{κ:bh}{s:ag}{o:List dp}{b:Nat}(h:Live κ s b):Live κ (s.on o) b:=by obtain⟨d,i,x,ar,av⟩:=h;exact⟨d,i,x,s.Fz o ar,av⟩
theorem cY.n8{κ:bh}{s:ag}{o:List dp}{w:World}(a3:cY κ (s.on o) w){i:Nat}{x:dp}{b:Nat}(a9:o[i]? =some x)(e:bg κ (s.aa+1) i x=some b):¬Live κ s b:=fun⟨d,j,y,ar,av⟩=>by have:=a3.inj (s.aa+1) i x d j y b (by rw[ag.ko,if_pos rfl];exact a9) (s.Fz o ar) e av;have cR:=ag.gv ar;omega
def bh.back(κ κ':bh)(D:Nat):bh:=
 {F:=κ'.F,n:=fun d=>if d=D then κ.n d else κ'.n d,loc:=fun d i=>if d=D then κ.loc d i else κ'.loc d i,lo:=fun d i m=>if d=D then κ.lo d i m else κ'.lo d i m}
theorem cY.lay{l:Nat}{κ κ':bh}{s s':ag}{o:List dp}{w w':World}(a3:cY κ (s.on o) w)(he:hi l κ s w κ' s' w')(u:cY κ' s' w')(bK:∀i x,o[i]? =some x→bg κ (s.aa+1) i x≠some l):
  ∃I,cY I (s'.on o) w'∧hi l κ (s.on o) w I (s'.on o) w'∧(∀i,I.loc (s.aa+1) i=κ.loc (s.aa+1) i):=by
 have cR:s'.aa=s.aa:=he.aa;have M:gO κ' (κ.back κ' (s.aa+1)) (s'.aa+1):=by
  refine⟨fun _ _ h=>h,fun d A=>?_,fun d i A _=>?_,fun d i m x A _ h=>?_⟩
  ·simp only[bh.back];rw[if_neg (by omega)];exact aB _
  ·simp only[bh.back];rw[if_neg (by omega)]
  ·simp only[bh.back];rw[if_neg (by omega)];exact h
 have J:gO κ (κ.back κ' (s.aa+1)) (s.aa+1+1):=by
  refine⟨he.k.F,fun d A=>?_,fun d i A bY=>?_,fun d i m x A bY h=>?_⟩
  ·simp only[bh.back];split
   ·exact aB _
   ·exact he.k.n d (by omega)
  ·simp only[bh.back];split
   ·rfl
   ·exact he.k.loc d i (by omega) bY
  ·simp only[bh.back];split
   ·exact h
   ·exact he.k.lo d i m x (by omega) bY h
 have K:∀d i x,s'.get (.g d i)=some x→zv (κ.back κ' (s.aa+1)) d i w' x∧bg (κ.back κ' (s.aa+1)) d i x=bg κ' d i x:=fun d i x h=>(u.obj d i x h).bN (u.ns h) (M.low (by have:=ag.gv h;omega)) (fun m=>by simp only[bh.back];rw[if_neg (by have:=ag.gv h;omega)]) (fun b _=>⟨rfl,fun _=>rfl⟩)
 have L:∀i x,o[i]? =some x→zv (κ.back κ' (s.aa+1)) (s.aa+1) i w' x∧bg (κ.back κ' (s.aa+1)) (s.aa+1) i x=bg κ (s.aa+1) i x:=fun i x a9=>by
  have cB:(s.on o).get (.g (s.aa+1) i)=some x:=by rw[ag.ko,if_pos rfl];exact a9
  refine(a3.obj _ i x cB).bN (a3.ns cB) J (fun m=>by simp [bh.back]) (fun b r=>?_);have H:=a3.n8 a9 r;have N:b<w.heap.size:=by rcases a3.lZ ⟨_,i,x,cB,r⟩ with⟨C,e,jt,B⟩|⟨fi,clock,B⟩<;> exact(Array.getElem?_eq_some_iff.1 B).1
  refine⟨he.kK b N (fun e=>bK i x a9 (e ▸ r)) H,fun y=>?_⟩;show κ'.F _=κ.F _;cases h1:κ.F ⟨b,y,none⟩ with
  |some v=>exact he.k.F _ _ h1
  |none=>
   cases O:κ'.F ⟨b,y,none⟩ with
   |none=>rfl
   |some v=>
    rcases he.oF ⟨b,y,none⟩ (by rw[O];simp) with ar|ar|ar
    ·exact absurd h1 ar
    ·exact absurd ar (by simp only;omega)
    ·exact absurd ar H
 have get:∀d i x,(s'.on o).get (.g d i)=some x→(d=s.aa+1∧o[i]? =some x)∨(d≠s.aa+1∧s'.get (.g d i)=some x):=fun d i x h=>by
  rw[ag.ko,cR] at h;split at h
  ·rename_i ar;exact .inl ⟨ar,h⟩
  ·rename_i ar;exact .inr ⟨ar,h⟩
 have Iz:∀d i x b,(s'.on o).get (.g d i)=some x→bg (κ.back κ' (s.aa+1)) d i x=some b→(d=s.aa+1∧o[i]? =some x∧bg κ (s.aa+1) i x=some b)∨(s'.get (.g d i)=some x∧bg κ' d i x=some b):=fun d i x b h r=>by
  rcases get d i x h with⟨rfl,ar⟩|⟨_,ar⟩
  ·exact .inl ⟨rfl,ar,(L i x ar).2 ▸ r⟩
  ·exact .inr ⟨ar,(K d i x ar).2 ▸ r⟩
 have U:∀i x b,o[i]? =some x→bg κ (s.aa+1) i x=some b→b<w.heap.size:=fun i x b a9 r=>by
  have cB:(s.on o).get (.g (s.aa+1) i)=some x:=by rw[ag.ko,if_pos rfl];exact a9
  rcases a3.lZ ⟨_,i,x,cB,r⟩ with⟨C,e,jt,B⟩|⟨fi,clock,B⟩<;> exact(Array.getElem?_eq_some_iff.1 B).1
 have apart:∀i x b d j y,o[i]? =some x→bg κ (s.aa+1) i x=some b→s'.get (.g d j)=some y→bg κ' d j y=some b→False:=fun i x b d j y a9 r eQ V=>a3.n8 a9 r (he.live b (U i x b a9 r) ⟨d,j,y,eQ,V⟩)
 refine⟨κ.back κ' (s.aa+1),⟨u.iA,fun d l h=>?_,fun d i x h=>?_,fun d i x fG hx kw b h Y e hR=>?_⟩,⟨by rw[ag.gZ];exact J,by rw[ag.gZ,ag.gZ,cR],he.size,he.os,he.tape,he.output,fun b r dk H=>he.kK b r dk (fun h=>H h.up),fun b r h=>?_,fun a Z=>?_⟩,fun i=>by simp [bh.back]⟩
 ·rw[ag.De,cR] at h;simp only[bh.back];split at h
  ·rename_i ar;simp only[bj] at h;rw[if_pos ar,ar];exact a3.len (s.aa+1) l (by rw[ag.De,if_pos rfl,h])
  ·rename_i ar;rw[if_neg ar];exact u.len d l h
 ·rcases get d i x h with⟨rfl,ar⟩|⟨_,ar⟩
  ·exact(L i x ar).1
  ·exact(K d i x ar).1
 ·rcases Iz d i x b h e with⟨rfl,ar,av⟩|⟨ar,av⟩<;> rcases Iz fG hx kw b Y hR with⟨rfl,bO,dD⟩|⟨bO,dD⟩
  ·have cB:∀i x,o[i]? =some x→(s.on o).get (.g (s.aa+1) i)=some x:=fun i x a9=>by rw[ag.ko,if_pos rfl];exact a9
   exact a3.inj _ i x _ hx kw b (cB i x ar) (cB hx kw bO) av dD
  ·exact(apart i x b fG hx kw ar av bO dD).elim
  ·exact(apart hx kw b d i x bO dD ar av).elim
  ·exact u.inj d i x fG hx kw b ar bO av dD
 ·obtain⟨d,i,x,ar,av⟩:=h;rcases Iz d i x b ar av with⟨rfl,bO,dD⟩|⟨bO,dD⟩
  ·exact⟨s.aa+1,i,x,by rw[ag.ko,if_pos rfl];exact bO,dD⟩
  ·exact(he.live b r ⟨d,i,x,bO,dD⟩).up
 ·rcases he.oF a Z with ar|ar|ar
  ·exact .inl ar
  ·exact .inr (.inl ar)
  ·exact .inr (.inr ar.up)
theorem hi.under{l:Nat}{A y H:bh}{B r F:ag}{o o':List dp}{u I J:World}(eJ:hi l A B u y r I)(h:hi l y (r.on o) I H (F.on o') J)(pR:∀i x b,o[i]? =some x→bg y (r.aa+1) i x=some b→u.heap.size≤b):hi l A B u H F J:=by
 have cR:F.aa=r.aa:=by have:=h.aa;rw[ag.gZ,ag.gZ] at this;omega
 have hy:∀b,b<u.heap.size→Live y (r.on o) b→Live A B b:=fun b e bK=>by
  rcases bK.on with ar|⟨i,x,ar,av⟩
  ·exact eJ.live b e ar
  ·exact absurd (pR i x b ar av) (by omega)
 refine⟨eJ.k.trans (h.k.low (by rw[ag.gZ,eJ.aa];omega)),cR.trans eJ.aa,Nat.le_trans eJ.size h.size,h.os.trans eJ.os,h.tape.trans eJ.tape,h.output.trans eJ.output,fun b e dk K=>?_,fun b e bK=>?_,fun a L=>?_⟩
 ·rw[h.kK b (fX e eJ.size) dk (fun bK=>K (hy b e bK)),eJ.kK b e dk K]
 ·exact hy b e (h.live b (fX e eJ.size) bK.up)
 ·rcases h.oF a L with ar|ar|ar
  ·exact eJ.oF a ar
  ·exact .inr (.inl (Nat.le_trans eJ.size ar))
  ·by_cases e:a.block<u.heap.size
   ·exact .inr (.inr (hy _ e ar))
   ·exact .inr (.inl (by omega))
section
variable{T:kD}{fL:Nat}{rd:Bool}
theorem fm{a b:ad}{c:Code}(h:dn T fL rd (.seq a b) c=true):∃x y,c=.seq x y∧dn T fL rd a x=true∧dn T fL rd b y=true:=by cases c<;> simp only[dn,bS,bm] at h;exact⟨_,_,rfl,h.1,h.2⟩
theorem gb{os:List cQ}{c:Code}(h:dn T fL rd (.region none os) c=true):∃id ops,c=.region id ops false∧i7 T fL ops os ops.toList=true:=by
 cases c with
 |region id ops d=>
  cases d with
  |true=>simp [dn] at h
  |false=>exact⟨id,ops,rfl,by simpa only[dn] using h⟩
 |_=>simp [dn] at h
theorem lP{o:bB}{a b:ad}{c:Code}(h:dn T fL rd (.cond o a b) c=true):∃o' x y,c=.cond o' x y∧cD o o'=true∧dn T fL rd a x=true∧dn T fL rd b y=true:=by cases c<;> simp only[dn,bS,bm] at h;exact⟨_,_,_,rfl,h.1.1,h.1.2,h.2⟩
theorem k8{i:Nat}{a:ad}{c:Code}(h:dn T fL rd (.block i a) c=true):∃x,c=.block i x∧dn T fL rd a x=true:=by cases c<;> simp only[dn,bS,bm] at h;have e:=dj h.1;subst e;exact⟨_,rfl,h.2⟩
theorem rq{m:gg}{a:ad}{c:Code}(h:dn T fL rd (.loop m a) c=true):∃x,c=.loop x∧dn T fL rd a x=true:=by cases c<;> simp only[dn,bS] at h;exact⟨_,rfl,h⟩
theorem n9{i:Nat}{c:Code}(h:dn T fL rd (.exit i) c=true):c=.exit i:=by cases c<;> simp only[dn,bS] at h;have e:=dj h;rw[e]
theorem Ac{c:Code}(h:dn T fL rd .ret c=true):c=.ret:=by cases c<;> simp only[dn,bS] at h;rfl
theorem nD{ro:Option Nat}{P:Program}{Q:Exit→Act→World→Prop}{a:Act}{w:World}{c:Code}(h:dn T fL rd .skip c=true)(e:Q .normal a w):c.wpIn (wM ro) 0 P Q a w:=by
 cases c<;> simp only[dn,bS] at h
 ·exact wpIn_skip e
 ·exact wpIn_label e
end
def kq:Env:={F:=.not,au:=fun _=>.dead,call:=fun _ _ _=>.fail,loop:=fun step bN ao s k=>dP step bN 0 ao s k}
theorem J1(P:Program):mM P kq:=⟨⟨0,fun _ _ _ _ _=>rfl⟩,fun _ _ _ _ _ h=>(by cases h),fun _ _ _ _ _ _ _ _ h=>(by cases h)⟩
theorem V0(κ:bh):j9 κ kq.au:=fun _=>⟨.dead _,rfl⟩
theorem Ad{ty:TypeId}{ρ:Operand→Value}{c:Call}{l:Nat}(a1:∃y,c.callee=.value y∧ρ y=.func (.yield l) #[] #[]):∀dst pos after guard,execOp ρ ⟨dst,.call c,ty,pos,after,guard⟩=Instr.yield l (c.args.map ρ):=by
 intro dst pos after guard;obtain⟨y,eQ,e⟩:=a1;have ar:resolve ρ c ty=(Pure.pure {target:=.fn (.yield l) #[],args:= #[]++c.args.map ρ}:Sem Deferred):=by simp only[resolve,eQ,e,Deferred.ofValue]
 show(do let d←resolve ρ c ty;invoke d.target d.args)=_;rw[ar];simp [invoke]
section
variable{P:Program}{T:kD}(eO:T.pn P){κ:bh}{s:ag}{w:World}{g:Nat→ae}{a:Act}{fL B:Nat}
include eO
theorem iC{os:List cQ}{id:Nat}{ops:Array Oper}(dd:i7 T fL ops os ops.toList=true)(h:fz κ s w g a fL B kq.au){g':Nat→ae}{s':ag}(aQ:gX kq os g s=some (g',s')){Q:Exit→Act→World→Prop}
  (u:∀κ' w' fN,ft κ s w κ' s' w'→fz κ' s' w' g' fN fL B kq.au→Q .normal fN w'):(Code.region id ops false).wpIn (wM none) 0 P Q a w:=by
 obtain⟨hlen,y⟩:=h5 dd;refine wpIn_region (qd eO rfl (J1 P) (List.range ops.size) os (by rw[hlen];simp) (fun j i A df F=>?_) h aQ u);obtain⟨H,e⟩:=eA.1 df;rw[List.getElem_range] at e;subst e;have r:j<ops.size:=by simpa using H
 exact⟨ops[j],Array.getElem?_eq_getElem r,y j A _ F (by simp [r])⟩
omit eO in
theorem jl{o:bB}{o':Operand}(e:cD o o'=true)(h:fz κ s w g a fL B kq.au){b:Bool}(r:aq kq.au g o=.bool b):a.eval o'=.bool b:=by have:=bq h.ao h.au e;rw[r] at this;exact dA.gT (b:=b) this
end
def acd:List cQ:=[⟨some 4,none,.alloc (List.replicate 40 (.bool false))⟩]
def aaD:List cQ:=[⟨some 8,none,.load none (.t 1)⟩,⟨some 9,none,.fr 1 40 (.t 4) (.t 8)⟩,⟨none,none,.store 1 (.t 9) (.c (.bool true))⟩]
def aaE:List cQ:=[⟨some 10,none,.load none (.t 1)⟩,⟨some 5,none,.move (.t 10)⟩]
def aaF:List cQ:=[⟨some 11,none,.move (.t 5)⟩,⟨some 12,none,.bin .geq (.t 11) (.c (.int .i64 0))⟩]
def aaG:List cQ:=[⟨some 13,none,.move (.t 5)⟩,⟨some 14,none,.bin .sub (.t 13) (.c (.int .i64 1))⟩,⟨some 5,none,.move (.t 14)⟩]
def aaH:List cQ:=[⟨some 15,none,.move (.t 5)⟩,⟨some 16,none,.fr 1 40 (.t 4) (.t 15)⟩,⟨some 17,none,.load none (.t 16)⟩,⟨some 18,none,.un .not (.t 17)⟩]
def J2:List cQ:=[⟨some 19,none,.move (.t 5)⟩,⟨some 20,none,.load none (.t 1)⟩,⟨some 21,none,.bin .neq (.t 19) (.t 20)⟩,⟨some 22,none,.move (.t 21)⟩,⟨some 23,(some (22,true)),.move (.t 0)⟩,⟨some 24,(some (22,true)),.move (.t 5)⟩,
 ⟨some 25,(some (22,true)),.eu (.t 23) [.t 24]⟩,⟨some 26,(some (22,true)),.un .not (.t 25)⟩,⟨some 27,none,.pick (.t 22) (.t 26) (.c (.bool false))⟩]
def aaI:List cQ:=[⟨some 28,none,.load none (.t 2)⟩,⟨some 29,none,.move (.t 5)⟩,⟨some 30,none,.iK 12 (.t 28) (.t 29)⟩,⟨some 31,none,.fieldAddr 2 (.t 30)⟩,⟨some 32,none,.load none (.t 31)⟩,⟨some 33,none,.len false (.t 32)⟩,⟨some 34,none,.move (.c (.int .i64 0))⟩]
def aaJ:List cQ:=[⟨some 35,none,.bin .lss (.t 34) (.t 33)⟩]
def aaK:List cQ:=[⟨some 36,none,.iK 1 (.t 32) (.t 34)⟩,⟨some 37,none,.load none (.t 36)⟩,⟨some 7,none,.move (.t 37)⟩]
def Vp:List cQ:=[⟨some 38,none,.move (.t 7)⟩,⟨some 39,none,.fr 1 40 (.t 4) (.t 38)⟩,⟨none,none,.store 1 (.t 39) (.c (.bool true))⟩]
def Vq:List cQ:=[⟨some 40,none,.bin .add (.t 34) (.c (.int .i64 1))⟩,⟨some 34,none,.move (.t 40)⟩]
def aaL:ad:=.seq (.region none aaJ) (.seq (.cond (.t 35) .skip (.exit 2)) (.seq (.block 3 (.seq (.region none aaK) (.region none Vp))) (.region none Vq)))
def Vr:ad:=.seq (.region none aaI) (.block 2 (.loop .e aaL))
def Vs:ad:=.seq (.seq (.region none J2) (.cond (.t 27) .ret .skip)) Vr
def Vt:ad:=.seq (.seq (.region none aaF) (.cond (.t 12) .skip (.exit 0))) (.seq (.block 1 (.seq (.seq (.region none aaH) (.cond (.t 18) (.exit 1) .skip)) Vs)) (.region none aaG))
def ace:ad:=.seq (.region none acd) (.seq (.region none aaD) (.seq (.region none aaE) (.block 0 (.loop .e Vt))))
theorem dV{E:Env}{d:Option Nat}{op:f9}{os:List cQ}{g:Nat→ae}{s s':ag}{v:ae}(h:aL E g s .ok .panic op=.ok v s'):gX E (⟨d,none,op⟩::os) g s=gX E os (cH g d v) s':=by simp only[gX,ji,fV,h,f0]
def hX(m:List Nat):List ae:=(List.range 40).map fun j=>.bool (m.elem j)
theorem mU(m:List Nat):(hX m).length=40:=by simp [hX]
theorem mV(m:List Nat){x:Nat}(h:x<40):(hX m)[x]? =some (.bool (m.elem x)):=by simp [hX,List.getElem?_range h]
theorem Ae(m:List Nat){x:Nat}(h:x<40):dN (hX m) x [.bool true]=hX (x::m):=by
 apply List.ext_getElem?;intro j;by_cases df:j<40
 ·rw[gK _ _ _ (by rw[mU];simp;omega)];by_cases a9:j=x
  ·subst a9;rw[if_pos (by simp),mV _ df];simp
  ·rw[if_neg (by simp;omega),mV _ df,mV _ df]
   have:(x::m).elem j=m.elem j:=by simp only[List.elem_cons];rw[show(j==x)=false from by simpa using a9]
   rw[this]
 ·rw[List.getElem?_eq_none (by rw[fH,mU];omega),List.getElem?_eq_none (by rw[mU];omega)]
structure wm (hy:ae) (l i:Nat) (k:Int) (g:Nat→ae):Prop where
 vp:g 0=.j8 l
 hb:g 1=.bP [.int .i64 i]
 g2:g 2=.bP [hy]
 m7:g 4=.ref (.l 0) 0
 ic:g 5=.int .i64 k
structure qv (hy:ae) (l i:Nat) (g:Nat→ae):Prop where
 vp:g 0=.j8 l
 hb:g 1=.bP [.int .i64 i]
 g2:g 2=.bP [hy]
 m7:g 4=.ref (.l 0) 0
abbrev dY(s:ag)(m:List Nat):ag:=s.on [.cells (hX m)]
theorem Af(s:ag)(m:List Nat){x:Nat}(h:x<40):fh kq (dY s m) .ok 1 (.ref (.l 0) (0+x*1)) (.bool true)=.ok .dead (dY s (x::m)):=by have dM:(dY s m).get (.l 0)=some (.cells (hX m)):=rfl;simp only[fh,ae.ff,ae.cells,bT,cx,bf,gf,bC,bX,ii,dM,Nat.mul_one];have e:Nat.ble (x+1) (hX m).length=true:=eN (by rw[mU];omega);simp only[kq,aU.not,e,ag.ho,ag.oD,Bool.true_or,bC,List.all_cons,List.all_nil,ae.eG,bX,Ae m h];rfl
theorem J3{n:Int}(ar: -2≤n)(av:n≤100):IntKind.i64.wrap n=n:=by simp [IntKind.wrap,IntKind.bits,IntKind.signed];split<;> omega
theorem pr(n:Nat):eX (.int .i64 (n:Int))=some n:=by simp [eX]
section
variable{s:ag}{hy:ae}{l i:Nat}{k:Int}{g:Nat→ae}{m:List Nat}
theorem px(h:qv hy l i g)(bY:i<40):∃g',gX kq aaD g (dY s m)=some (g',dY s (i::m))∧qv hy l i g':=by
 refine⟨_,(dV (v:=.int .i64 i) (s':=dY s m) ?_).trans ((dV (v:=.ref (.l 0) (0+i*1)) (s':=dY s m) ?_).trans ((dV (v:=.dead) (s':=dY s (i::m)) ?_).trans rfl)),?_⟩
 ·simp only[aL,aq,h.hb,dX,eR];rfl
 ·simp only[aL,aq,cH,h.m7,Nat.reduceEqDiff,if_false,if_true,hH,pr];rw[show Nat.blt i 40=true from by rw[Nat.blt_eq];exact bY];rfl
 ·simp only[aL,aq,cH,if_true,ae.ap];exact Af s m bY
 ·exact⟨by simp [cH,h.vp],by simp [cH,h.hb],by simp [cH,h.g2],by simp [cH,h.m7]⟩
theorem qG(h:qv hy l i g):∃g',gX kq aaE g (dY s m)=some (g',dY s m)∧wm hy l i i g':=by
 refine⟨_,(dV (v:=.int .i64 i) (s':=dY s m) ?_).trans ((dV (v:=.int .i64 i) (s':=dY s m) ?_).trans rfl),?_⟩
 ·simp only[aL,aq,h.hb,dX,eR];rfl
 ·simp only[aL,aq,cH,if_true];rfl
 ·exact⟨by simp [cH,h.vp],by simp [cH,h.hb],by simp [cH,h.g2],by simp [cH,h.m7],by simp [cH]⟩
theorem CO(h:wm hy l i k g):∃g',gX kq aaF g (dY s m)=some (g',dY s m)∧wm hy l i k g'∧g' 12=.bool (decide (k≥0)):=by
 refine⟨_,(dV (v:=.int .i64 k) (s':=dY s m) ?_).trans ((dV (v:=.bool (decide (k≥0))) (s':=dY s m) ?_).trans rfl),?_,?_⟩
 ·simp only[aL,aq,h.ic];rfl
 ·simp only[aL,aq,cH,if_true];rfl
 ·exact⟨by simp [cH,h.vp],by simp [cH,h.hb],by simp [cH,h.g2],by simp [cH,h.m7],by simp [cH,h.ic]⟩
 ·simp [cH]
theorem ab4(h:wm hy l i k g)(ar:0≤k)(av:k<40):∃g',gX kq aaG g (dY s m)=some (g',dY s m)∧wm hy l i (k-1) g':=by
 refine⟨_,(dV (v:=.int .i64 k) (s':=dY s m) ?_).trans ((dV (v:=.int .i64 (k-1)) (s':=dY s m) ?_).trans ((dV (v:=.int .i64 (k-1)) (s':=dY s m) ?_).trans rfl)),?_⟩
 ·simp only[aL,aq,h.ic];rfl
 ·simp only[aL,aq,cH,if_true];show qu kq _ _ (some (.int .i64 (IntKind.i64.wrap (k-1))))=_;rw[J3 (by omega) (by omega)];rfl
 ·simp only[aL,aq,cH,if_true];rfl
 ·exact⟨by simp [cH,h.vp],by simp [cH,h.hb],by simp [cH,h.g2],by simp [cH,h.m7],by simp [cH]⟩
theorem ab5(h:wm hy l i k g){x:Nat}(dc:k=x)(a9:x<40):∃g',gX kq aaH g (dY s m)=some (g',dY s m)∧wm hy l i k g'∧g' 18=.bool (!m.elem x):=by
 subst dc;refine⟨_,(dV (v:=.int .i64 (x:Nat)) (s':=dY s m) ?_).trans ((dV (v:=.ref (.l 0) (0+x*1)) (s':=dY s m) ?_).trans ((dV (v:=.bool (m.elem x)) (s':=dY s m) ?_).trans ((dV (v:=.bool (!m.elem x)) (s':=dY s m) ?_).trans rfl))),?_,?_⟩
 ·simp only[aL,aq,h.ic];rfl
 ·simp only[aL,aq,cH,h.m7,Nat.reduceEqDiff,if_false,if_true,hH,pr];rw[show Nat.blt x 40=true from by rw[Nat.blt_eq];exact a9];rfl
 ·simp only[aL,aq,cH,if_true,dX,show(dY s m).get (.l 0)=some (.cells (hX m)) from rfl,bf,Nat.mul_one];have ar:=mV m a9;obtain⟨e,he⟩:=eA.1 ar;rw[jq e,he];rfl
 ·simp only[aL,aq,cH,if_true];rfl
 ·exact⟨by simp [cH,h.vp],by simp [cH,h.hb],by simp [cH,h.g2],by simp [cH,h.m7],by simp [cH,h.ic]⟩
 ·simp [cH]
end
theorem Ag{es:List ae}{hh:List Nat}(h:qx es=some hh):es=hh.map fun n=>.int .i64 (n:Nat):=by
 induction es generalizing hh with
 |nil=>simp only[qx,bj] at h;subst h;rfl
 |cons e es u=>
  unfold qx at h;split at h
  ·rename_i r;cases r
  ·rename_i n l r;cases r;split at h
   ·rename_i dk;obtain⟨l',ar,av⟩:=Option.map_eq_some_iff.1 h;subst av;rw[gd,←u ar];simp [Int.toNat_of_nonneg dk]
   ·cases h
  ·cases h
theorem Df{es:List ae}{A:List (List Nat)}(h:sc es=some A):A.length=es.length∧∀(j:Nat) (e:ae),es[j]? =some e→∃hh,A[j]? =some hh∧nP e=some hh:=by
 induction es generalizing A with
 |nil=>simp only[sc,bj] at h;subst h;exact⟨rfl,fun j e df=>by simp at df⟩
 |cons e es r=>
  simp only[sc] at h;obtain⟨hh,ar,av⟩:=Option.bind_eq_some_iff.1 h;obtain⟨u,bO,dD⟩:=Option.map_eq_some_iff.1 av;subst dD;obtain⟨i1,i2⟩:=r bO;refine⟨by simp [i1],fun j hR df=>?_⟩;cases j with
  |zero=>simp at df;subst df;exact⟨hh,rfl,ar⟩
  |succ j=>exact i2 j hR (by simpa using df)
theorem Ah{e:ae}{hh:List Nat}(h:nP e=some hh):∃cs ps,e=.agg cs∧cs[2]? =some (.cr 1 (hh.map fun n=>.int .i64 (n:Nat)) ps):=by
 unfold nP at h;split at h
 ·rename_i cs;split at h
  ·rename_i es ps a1;exact⟨cs,ps,rfl,by rw[a1,Ag h]⟩
  ·cases h
 ·cases h
theorem xF{sz:Nat}:∀(n:Nat) (cs:List ae) (j:Nat),j<n→(chunk sz n cs)[j]? =some (nn sz (cs.drop (j*sz)))
 |0,_,_,h=>absurd h (Nat.not_lt_zero _)
 |n+1,cs,0,_=>by simp [chunk]
 |n+1,cs,j+1,h=>by simp only[chunk,List.getElem?_cons_succ,xF n (cs.drop sz) j (by omega),List.drop_drop];rw[show sz+j*sz=(j+1)*sz by rw[e5];omega]
theorem J4{S:ag}{hy:ae}{es:List ae}{d:Nat}{κ:bh}{x:Value}(bJ:dA κ d hy x)(he:dG S hy=some (12,es)){k:Nat}{e:ae}(dc:es[k]? =some e){hh:List Nat}(F:nP e=some hh):
  ∃p q ps,kz kq S .ok 12 hy (.int .i64 (k:Nat))=.ok p S∧gJ kq S .ok 2 p=.ok q S∧dX kq S .ok none q=.ok (.cr 1 (hh.map fun n=>.int .i64 (n:Nat)) ps) S:=by
 obtain⟨cs,ps,rfl,a1⟩:=Ah F;have y:=(eA.1 dc).1;have cr:∀z h g',hy=.cr z h g'→z=12→h=es→∃p q ps,kz kq S .ok 12 hy (.int .i64 (k:Nat))=.ok p S∧gJ kq S .ok 2 p=.ok q S∧dX kq S .ok none q=.ok (.cr 1 (hh.map fun n=>.int .i64 (n:Nat)) ps) S:=fun z h g' ar av bO=>by
  subst ar av bO;refine⟨.bP cs,.bP (cs.drop 2),ps,?_,rfl,?_⟩
  ·simp only[kz,pr,gf,bX,dc];rfl
  ·obtain⟨dD,r⟩:=eA.1 a1;simp only[dX,jq dD,r];rfl
 unfold dG at he;split at he
 ·split at he
  ·simp only[bj,eW] at he;exact cr _ _ _ rfl he.1 he.2
  ·cases he
 ·simp only[bj,eW] at he;exact cr _ _ _ rfl he.1 he.2
 ·simp at he
 ·rename_i a off len cap sz;split at he
  ·rename_i H cB;simp only at he;split at he
   ·rename_i A;simp only[bj,eW] at he;obtain⟨rfl,he⟩:=he;simp only[bm] at A;have hle:=dW A.1.2;have B:k<len:=by rw[←he,fo] at y;exact y
    have u:=dc;rw[←he,xF len _ k B] at u;have I:cs=((H.drop off).drop (k*12)).take 12:=by simp only[nn,bj,ae.agg.injEq] at u;exact u.symm
    rw[I,List.getElem?_take,if_pos (by omega),List.getElem?_drop,List.getElem?_drop] at a1;refine⟨.ref a (off+k*12),.ref a (off+k*12+2),ps,?_,rfl,?_⟩
    ·simp only[kz,pr,gf,show Nat.blt k len=true from by rw[Nat.blt_eq];exact B,bC,bX];rfl
    ·rw[show off+(k*12+2)=off+k*12+2 by omega] at a1;obtain⟨dD,r⟩:=eA.1 a1;simp only[dX,cB,jq dD,r];rfl
   ·cases he
  ·cases he
 ·cases he
section
variable{s:ag}{hy:ae}{l i:Nat}{k:Int}{g:Nat→ae}{m:List Nat}
structure J5 (hy:ae) (l i:Nat) (k:Int) (hh:List Nat) (q:Nat) (g:Nat→ae):Prop extends wm hy l i k g where
 OW:∃ps,g 32=.cr 1 (hh.map fun n=>.int .i64 (n:Nat)) ps
 J6:g 33=.int .i64 hh.length
 IA:g 34=.int .i64 q
theorem ab8(h:wm hy l i k g){x:Nat}(dc:k=x){es:List ae}{d:Nat}{κ:bh}{v:Value}(bJ:dA κ d hy v)(he:dG (dY s m) hy=some (12,es)){e:ae}(a9:es[x]? =some e){hh:List Nat}(r:nP e=some hh):∃g',gX kq aaI g (dY s m)=some (g',dY s m)∧J5 hy l i k hh 0 g':=by
 subst dc;obtain⟨p,q,ps,ar,av,bO⟩:=J4 bJ he a9 r;refine⟨_,(dV (v:=hy) (s':=dY s m) ?_).trans ((dV (v:=.int .i64 (x:Nat)) (s':=dY s m) ?_).trans ((dV (v:=p) (s':=dY s m) ?_).trans ((dV (v:=q) (s':=dY s m) ?_).trans ((dV (v:=.cr 1 (hh.map fun n=>.int .i64 (n:Nat)) ps) (s':=dY s m) ?_).trans ((dV (v:=.int .i64 (hh.length:Nat)) (s':=dY s m) ?_).trans ((dV (v:=.int .i64 0) (s':=dY s m) ?_).trans rfl)))))),?_⟩
 ·simp only[aL,aq,h.g2,dX,eR];rfl
 ·simp only[aL,aq,cH,h.ic,Nat.reduceEqDiff,if_false];rfl
 ·simp only[aL,aq,cH,Nat.reduceEqDiff,if_false,if_true];exact ar
 ·simp only[aL,aq,cH,if_true];exact av
 ·simp only[aL,aq,cH,if_true];exact bO
 ·simp only[aL,aq,cH,if_true,pC,eo];rfl
 ·simp only[aL,aq];rfl
 ·exact⟨⟨by simp [cH,h.vp],by simp [cH,h.hb],by simp [cH,h.g2],by simp [cH,h.m7],by simp [cH,h.ic]⟩,⟨ps,by simp [cH]⟩,by simp [cH],by simp [cH]⟩
theorem aaz{hh:List Nat}{q:Nat}(h:J5 hy l i k hh q g):∃g',gX kq aaJ g (dY s m)=some (g',dY s m)∧J5 hy l i k hh q g'∧g' 35=.bool (decide (q<hh.length)):=by
 refine⟨_,(dV (v:=.bool (decide ((q:Int)<hh.length))) (s':=dY s m) ?_).trans rfl,?_,?_⟩
 ·simp only[aL,aq,h.J6,h.IA];rfl
 ·obtain⟨ps,e⟩:=h.OW;exact⟨⟨by simp [cH,h.vp],by simp [cH,h.hb],by simp [cH,h.g2],by simp [cH,h.m7],by simp [cH,h.ic]⟩,⟨ps,by simp [cH,e]⟩,by simp [cH,h.J6],by simp [cH,h.IA]⟩
 ·simp [cH]
theorem acf{hh:List Nat}{q x:Nat}(h:J5 hy l i k hh q g)(a9:hh[q]? =some x):∃g',gX kq aaK g (dY s m)=some (g',dY s m)∧J5 hy l i k hh q g'∧g' 7=.int .i64 x:=by
 obtain⟨ps,e⟩:=h.OW;refine⟨_,(dV (v:=.bP [.int .i64 x]) (s':=dY s m) ?_).trans ((dV (v:=.int .i64 x) (s':=dY s m) ?_).trans ((dV (v:=.int .i64 x) (s':=dY s m) ?_).trans rfl)),?_,?_⟩
 ·simp only[aL,aq,e,h.IA,kz,pr,gf,bX,iJ,a9,ep];rfl
 ·simp only[aL,aq,cH,if_true,dX,eR];rfl
 ·simp only[aL,aq,cH,if_true];rfl
 ·exact⟨⟨by simp [cH,h.vp],by simp [cH,h.hb],by simp [cH,h.g2],by simp [cH,h.m7],by simp [cH,h.ic]⟩,⟨ps,by simp [cH,e]⟩,by simp [cH,h.J6],by simp [cH,h.IA]⟩
 ·simp [cH]
theorem acg{hh:List Nat}{q x:Nat}(h:J5 hy l i k hh q g)(e:g 7=.int .i64 x)(a9:x<40):∃g',gX kq Vp g (dY s m)=some (g',dY s (x::m))∧J5 hy l i k hh q g':=by
 obtain⟨ps,r⟩:=h.OW;refine⟨_,(dV (v:=.int .i64 x) (s':=dY s m) ?_).trans ((dV (v:=.ref (.l 0) (0+x*1)) (s':=dY s m) ?_).trans ((dV (v:=.dead) (s':=dY s (x::m)) ?_).trans rfl)),?_⟩
 ·simp only[aL,aq,e];rfl
 ·simp only[aL,aq,cH,h.m7,Nat.reduceEqDiff,if_false,if_true,hH,pr];rw[show Nat.blt x 40=true from by rw[Nat.blt_eq];exact a9];rfl
 ·simp only[aL,aq,cH,if_true,ae.ap];exact Af s m a9
 ·exact⟨⟨by simp [cH,h.vp],by simp [cH,h.hb],by simp [cH,h.g2],by simp [cH,h.m7],by simp [cH,h.ic]⟩,⟨ps,by simp [cH,r]⟩,by simp [cH,h.J6],by simp [cH,h.IA]⟩
theorem ach{hh:List Nat}{q:Nat}(h:J5 hy l i k hh q g)(gr:(q:Int)+1≤9223372036854775807):∃g',gX kq Vq g (dY s m)=some (g',dY s m)∧J5 hy l i k hh (q+1) g':=by
 obtain⟨ps,e⟩:=h.OW;have hw:IntKind.i64.wrap ((q:Int)+1)=((q+1:Nat):Int):=by simp [IntKind.wrap,IntKind.bits,IntKind.signed];split<;> omega
 refine⟨_,(dV (v:=.int .i64 ((q+1:Nat):Int)) (s':=dY s m) ?_).trans ((dV (v:=.int .i64 ((q+1:Nat):Int)) (s':=dY s m) ?_).trans rfl),?_⟩
 ·simp only[aL,aq,h.IA];show qu kq _ _ (some (.int .i64 (IntKind.i64.wrap ((q:Int)+1))))=_;rw[hw];rfl
 ·simp only[aL,aq,cH,if_true];rfl
 ·exact⟨⟨by simp [cH,h.vp],by simp [cH,h.hb],by simp [cH,h.g2],by simp [cH,h.m7],by simp [cH,h.ic]⟩,⟨ps,by simp [cH,e]⟩,by simp [cH,h.J6],by simp [cH]⟩
end
section
variable{P:Program}{T:kD}(eO:T.pn P){s:ag}{hy:ae}{l i:Nat}{k:Int}{B:Nat}
include eO
theorem Dg{c:Code}(dd:dn T 41 false (.loop .e aaL) c=true){hh:List Nat}(K:∀x,x∈hh→x<40)(hlen:hh.length<9223372036854775807){κ:bh}{w:World}{g:Nat→ae}{a:Act}{m:List Nat}(h:fz κ (dY s m) w g a 41 B kq.au)(cB:J5 hy l i k hh 0 g):
  c.wpIn (wM none) 0 P (fun e fN w'=>e=.exit 2∧∃κ' g' jg,ft κ (dY s m) w κ' (dY s jg) w'∧fz κ' (dY s jg) w' g' fN 41 B kq.au∧wm hy l i k g'∧∀x,jg.elem x=(hh++m).elem x) a w:=by
 obtain⟨aB,rfl,ar⟩:=rq dd;obtain⟨aC,aD,rfl,L,av⟩:=fm ar;obtain⟨aE,aF,rfl,M⟩:=gb L;obtain⟨aG,aH,rfl,N,bO⟩:=fm av;obtain⟨aI,aJ,ce,rfl,Db,O,U⟩:=lP N;obtain rfl:=n9 U;obtain⟨aK,aL,rfl,y,V⟩:=fm bO;obtain⟨aM,rfl,y⟩:=k8 y;obtain⟨aN,aO,rfl,Y,Z⟩:=fm y;obtain⟨aP,aQ,rfl,aa⟩:=gb Y;obtain⟨aR,aS,rfl,ab⟩:=gb Z;obtain⟨aT,aU,rfl,ac⟩:=gb V;refine oQ (fun n fN w'=>∃κ' g' q jg,n=hh.length-q∧q≤hh.length∧ft κ (dY s m) w κ' (dY s jg) w'∧fz κ' (dY s jg) w' g' fN 41 B kq.au∧J5 hy l i k hh q g'∧∀x,jg.elem x=(hh.take q++m).elem x) (fun n fN w' ad=>?_) (n:=hh.length) ⟨κ,g,0,m,rfl,Nat.zero_le _,.refl _ _ _,h,cB,fun x=>rfl⟩;obtain⟨aV,hb,q,Aa,dk,gr,A,af,ag,F⟩:=ad;obtain⟨g2,ah,H,I⟩:=aaz (s:=s) (m:=Aa) ag;refine wpIn_seq (iC eO M af ah fun ai aW aX J u=>?_);refine wpIn_seq ?_;by_cases r:q<hh.length
 ·refine wpIn_cond_true (jl Db u (b:=true) (by show g2 35=_;rw[I];simp [r])) (nD O ?_);have a9:hh[q]? =some hh[q]:=eI r;obtain⟨aY,aj,ak,al⟩:=acf (s:=s) (m:=Aa) H a9;refine wpIn_seq (wpIn_block (wpIn_seq (iC eO aa u aj fun aZ a0 a1 am an=>?_)));obtain⟨m7,ao,ap⟩:=acg (s:=s) (m:=Aa) ak al (K _ (m0 r));refine iC eO ab an ao fun a2 a3 a4 aq as=>?_
  obtain⟨ic,aw,ax⟩:=ach (s:=s) (m:=hh[q]::Aa) ap (by omega);refine iC eO ac as aw fun ay a5 a6 az aA=>?_
  refine⟨hh.length-(q+1),by omega,ay,ic,q+1,hh[q]::Aa,rfl,r,(((A.trans J).trans am).trans aq).trans az,aA,ax,fun x=>?_⟩;rw[List.take_succ_eq_append_getElem r]
  have:=F x;simp only[List.elem_eq_mem,List.mem_cons,List.mem_append,p3,or_false,decide_eq_decide] at this ⊢;rw[this];constructor
  ·rintro (h|h|h)
   ·exact .inl (.inr h)
   ·exact .inl (.inl h)
   ·exact .inr h
  ·rintro ((h|h)|h)
   ·exact .inr (.inl h)
   ·exact .inl h
   ·exact .inr (.inr h)
 ·refine wpIn_cond_false (jl Db u (b:=false) (by show g2 35=_;rw[I];simp [r])) (wpIn_exit ?_);refine⟨rfl,ai,g2,Aa,A.trans J,u,H.1,fun x=>?_⟩;rw[F x,jr (by omega)]
theorem J7{c:Code}(dd:dn T 41 false Vr c=true){es:List ae}{hh:List Nat}{x:Nat}{e:ae}(dc:k=x)(r:∀x,x∈hh→x<40)(hlen:hh.length<9223372036854775807){κ:bh}{w:World}{g:Nat→ae}{a:Act}{m:List Nat}(h:fz κ (dY s m) w g a 41 B kq.au)(cB:wm hy l i k g)
  {d:Nat}{u:bh}{v:Value}(bJ:dA u d hy v)(he:dG (dY s m) hy=some (12,es))(a9:es[x]? =some e)(y:nP e=some hh):
  c.wpIn (wM none) 0 P (fun e fN w'=>e=.normal∧∃κ' g' jg,ft κ (dY s m) w κ' (dY s jg) w'∧fz κ' (dY s jg) w' g' fN 41 B kq.au∧wm hy l i k g'∧∀x,jg.elem x=(hh++m).elem x) a w:=by
 obtain⟨U,V,rfl,A,ar⟩:=fm dd;obtain⟨Y,Z,rfl,F⟩:=gb A;obtain⟨aa,rfl,av⟩:=k8 ar;obtain⟨g2,H,I⟩:=ab8 (s:=s) (m:=m) cB dc bJ he a9 y;refine wpIn_seq (iC eO F h H fun ab ac ad J K=>?_);refine wpIn_block (wpIn_mono (Dg eO av r hlen K I) ?_)
 rintro e fN w' ⟨rfl,κ',g',jg,L,M,N,O⟩
 exact⟨rfl,κ',g',jg,J.trans L,M,N,O⟩
end
theorem fz.aaM{κ κ':bh}{s s':ag}{w w':World}{g:Nat→ae}{a:Act}{fL B l:Nat}{G:Nat→ae}(h:fz κ s w g a fL B G)(he:hi l κ s w κ' s' w')(bK:l<B)(a3:cY κ' s' w'){v:ae}{x:Value}(a9:dA κ' (s.aa+1) (v.ap s.aa) x){d fG:Option Nat}(cR:na fL d fG=true):fz κ' s' w' (cH g d v) (a.put fG x) fL B G:=by
 have bZ:wl κ' s' g a:=fun t=>by have:=(h.ao t).mono he.k;rw[he.aa];exact this
 have u:Marks B w' a.defers:=by obtain⟨eJ,ot,ar,av,bO⟩:=h.defers;refine⟨Nat.le_trans eJ he.size,ot,ar,av,fun D r=>⟨(bO D r).1,?_⟩⟩;have dD:=(bO D r).2;rw[he.kK D (Array.getElem?_eq_some_iff.1 dD).1 (by have:=(bO D r).1;omega) (h.iL.xn dD)];exact dD
 cases d with
 |none=>
  cases fG with
  |none=>exact⟨a3,bZ,u,h.size,h.au.mono he.k⟩
  |some b=>simp [na] at cR
 |some n=>
  cases fG with
  |none=>simp [na] at cR
  |some b=>
   simp only[na,bm] at cR;have e:=dj cR.1;subst e;have dk:n<a.tmps.size:=by rw[h.size];have:=cR.2;rw[Nat.blt_eq] at this;exact this
   refine⟨a3,fun t=>?_,u,by simp [Act.put,h.size],h.au.mono he.k⟩;simp only[cH];by_cases dU:t=n
   ·subst dU;rw[if_pos rfl,he.aa];simp only[Act.put,Array.getD_eq_getD_getElem?,Array.getElem?_setIfInBounds_self_of_lt dk,Option.getD_some];exact a9
   ·rw[if_neg dU]
    have:=bZ t;simp only[Act.put,Array.getD_eq_getD_getElem?,Array.getElem?_setIfInBounds_ne (Ne.symm dU)] at this ⊢;exact this
structure xe (iq:bh) (hA:ag) (jb:World) (κ:bh) (s:ag) (w:World):Prop where
 ext:ft iq hA jb κ s w
 loc:jb.heap.size≤κ.loc (s.aa+1) 0
section
variable{iq:bh}{hA:ag}{jb:World}{κ κ':bh}{s s':ag}{w w':World}{m jg:List Nat}{l:Nat}
theorem xe.own(h:xe iq hA jb κ s w):∀i x b,([dp.cells (hX m)]:List dp)[i]? =some x→bg κ (s.aa+1) i x=some b→jb.heap.size≤b:=fun i x b a9 e=>by
 cases i with
 |zero=>simp only[List.getElem?_cons_zero,bj] at a9;subst a9;simp only[bg,bj] at e;exact e ▸ h.loc
 |succ i=>simp at a9
theorem xe.aaN(h:xe iq hA jb κ s w)(a3:cY κ (dY s m) w)(he:gO κ κ' ((dY s m).aa+1))(cR:s'.aa=s.aa):jb.heap.size≤κ'.loc (s'.aa+1) 0:=by rw[cR,he.loc (s.aa+1) 0 (by rw[ag.gZ];omega) (a3.ns (d:=s.aa+1) (i:=0) (o:=.cells (hX m)) (by rw[ag.ko,if_pos rfl];rfl))];exact h.loc
theorem xe.step(h:xe iq hA jb κ s w)(a3:cY κ (dY s m) w)(he:ft κ (dY s m) w κ' (dY s' jg) w'):xe iq hA jb κ' s' w':=
 ⟨(hi.under (l:=jb.heap.size) h.ext.x he.x h.own).q8 (aB _),h.aaN a3 he.k (by have:=he.aa;rw[ag.gZ,ag.gZ] at this;omega)⟩
theorem xe.nA(h:xe iq hA jb κ s w)(bK:l<jb.heap.size)(dk:¬Live iq hA l):¬Live κ (dY s m) l:=fun e=>by
 rcases e.on with ar|⟨i,x,ar,av⟩
 ·exact dk (h.ext.live l bK ar)
 ·exact absurd (h.own (m:=m) i x l ar av) (by omega)
end
theorem mu(A:Nat→List Nat)(i:Nat):∀(n:Nat) (m jg:List Nat),(∀x,m.elem x=jg.elem x)→fR A i n m=fR A i n jg
 |0,_,_,_=>rfl
 |n+1,m,jg,h=>by
  have av:∀x,(A n++m).elem x=(A n++jg).elem x:=fun x=>by have:=h x;simp only[List.elem_eq_mem,List.mem_append,decide_eq_decide] at this ⊢;rw[this]
  simp only[fR,h n,mu A i n _ _ h,mu A i n _ _ av]
theorem yK{cs e:List ae}(h:ae.kG cs e=true):cs=e:=(ae.iF cs e).1 h
theorem Ai{κ:bh}{hA s:ag}{hy:ae}{D:Nat}{x:Value}(bJ:dA κ D hy x)(r:D≤s.aa+1)(h:fS hA s (.bP [hy])=true)(o:List dp)(he:(dG hA hy).isSome=true):dG (s.on o) hy=dG hA hy:=by
 cases hy<;> try rfl
 case cr sz es g=>cases g<;> rfl
 case cZ a off len cap sz=>
  cases a with
  |l i=>cases bJ
  |g d i=>
   obtain⟨lE,e,cR,bY,_⟩:=dA.jL bJ;have ar:(s.on o).get (.g d i)=s.get (.g d i):=by rw[ag.ko,if_neg (by omega)]
   simp only[fS] at h;split at h
   ·rename_i cs u av bO
    have:=yK h;subst this;simp only[dG,ar,av,bO]
   ·cases h
theorem Aj{s:ag}{dC xs:List ae}(h:qy s 0 dC=some xs):∃(i:Nat) (hy:ae) (es:List ae) (A:List (List Nat)),dC=[.bP [.int .i64 i],.bP [hy]]∧dG s hy=some (12,es)∧sc es=some A∧i<es.length∧es.length≤40∧(∀hh,hh∈A→hh.length≤1000∧∀x,x∈hh→x<es.length)∧xs=(fR (A.getD · []) i (i+1) [i]).map fun k=>.int .i64 (k:Nat):=by
 unfold qy at h;split at h
 ·rename_i i hy _;obtain⟨p,ar,av⟩:=Option.bind_eq_some_iff.1 h;obtain⟨z,es⟩:=p;cases hC:Nat.beq z 12 with
  |false=>rw[hC] at av;cases av
  |true=>
   rw[hC] at av;simp only[bX] at av
   have:=dj hC;subst this;unfold zy at av;split at av
   ·rename_i A u;cases e:(decide (0≤i)&&Nat.blt i.toNat es.length&&Nat.ble es.length 40&&A.all (fun l=>Nat.ble l.length 1000&&l.all (Nat.blt · es.length))) with
    |false=>rw[e] at av;cases av
    |true=>rw[e] at av;simp only[bX,bj] at av;simp only[bm,b6,List.all_eq_true,Nat.blt_eq] at e;refine⟨i.toNat,hy,es,A,by rw[Int.toNat_of_nonneg e.1.1.1],ar,u,e.1.1.2,dW e.1.2,fun hh r=>⟨dW (e.2 hh r).1,(e.2 hh r).2⟩,av.symm⟩
   ·cases av
 ·cases h
theorem Live.mono{κ κ':bh}{s:ag}{w:World}(a3:cY κ s w)(dc:gO κ κ' (s.aa+1)){b:Nat}(h:Live κ s b):Live κ' s b:=by
 obtain⟨d,i,o,ar,av⟩:=h;have cR:d<s.aa+1:=by have:=ag.gv ar;omega
 have bY:=a3.ns ar;refine⟨d,i,o,ar,?_⟩;cases o with
 |cells cs=>simp only[bg] at av ⊢;rw[dc.loc d i cR bY];exact av
 |map es=>simp only[bg] at av ⊢;rw[dc.loc d i cR bY];exact av
 |gone=>cases av
 |tok n=>simp only[bg] at av ⊢;obtain⟨x,bO,dD⟩:=Option.map_eq_some_iff.1 av;rw[dc.lo d i n x cR bY bO];simp [dD]
theorem cY.IB{κ:bh}{s:ag}{w:World}(a3:cY κ s w):∃κ',cY κ' s.push w∧gO κ κ' (s.aa+1)∧ft κ s w κ' s w:=by obtain⟨κ',ar,av,bO,dD⟩:=a3.push;refine⟨κ',ar,av,av,rfl,aB _,rfl,rfl,rfl,fun _ _ _=>rfl,fun b _ ⟨d,i,o,hb,g2⟩=>⟨d,i,o,hb,by rw[←dD d i o hb];exact g2⟩,fun a e=>.inl (by rw[bO] at e;exact e)⟩
def rr(J:Nat→ag→Prop)(e:ag→Option Obj→Prop)(N l:Nat)(iq:bh)(hA:ag)(jb w':World):Prop:=(∃κ' s',ft iq hA jb κ' s' w'∧cY κ' s' w'∧J N s')∨∃κ' s',hi l iq hA jb κ' s' w'∧cY κ' s' w'∧e s' w'.heap[l]?
theorem rr.shut{J:Nat→ag→Prop}{y:ag→Option Obj→Prop}{N l:Nat}{iq:bh}{hA:ag}{jb w' r:World}{ot:List Nat}(h:rr J y N l iq hA jb w')(bK:l<jb.heap.size)(u:∀D,D∈ot→jb.heap.size≤D)(cR:∀D,D∈ot→w'.heap[D]? =some (.deferred (some [])))(hw:Fp ot w' r):rr J y N l iq hA jb r:=by
 have iL:∀{κ s},cY κ s w'→cY κ s r:=fun a3=>a3.heap fun b o ar av=>by rw[hw.same b,ar];intro hm;rw[cR b hm] at ar;cases ar;rcases av with⟨C,e,jt,av⟩|⟨fi,clock,av⟩<;> cases av
 rcases h with⟨κ',s',ar,av,bO⟩|⟨κ',s',ar,av,bO⟩
 ·exact .inl ⟨κ',s',ar.shut u hw,iL av,bO⟩
 ·refine .inr ⟨κ',s',⟨ar.k,ar.aa,by rw[hw.size];exact ar.size,hw.os.trans ar.os,hw.tape.trans ar.tape,hw.output.trans ar.output,fun b A dk bK=>?_,ar.live,ar.oF⟩,iL av,?_⟩
  ·rw[hw.same b (fun hm=>by have:=u b hm;omega)];exact ar.kK b A dk bK
  ·rw[hw.same l (fun hm=>by have:=u l hm;omega)];exact bO
section
variable{P:Program}{T:kD}(eO:T.pn P)
include eO
theorem Dh{id:Nat}{A:Array Oper}(dd:i7 T 41 A J2 A.toList=true){iq:bh}{hA:ag}{jb:World}{l:Nat}(bK:l<jb.heap.size)(aG:¬Live iq hA l){hy:ae}{i x:Nat}(bA:x≠i)
  {κ:bh}{s:ag}{w:World}{m:List Nat}{g:Nat→ae}{a:Act}(aT:xe iq hA jb κ s w)(h:fz κ (dY s m) w g a 41 jb.heap.size kq.au)(cB:wm hy l i x g)
  {Rt:ag→Prop}{Rf:ag→Option Obj→Prop}
  (aU:∀(κ':bh) (w':World) (B:Value),xe iq hA jb κ' s w'→cY κ' s w'→dA κ' (s.aa+1) (.int .i64 x) B→YieldAt Fence.wide 0 P l #[B] w' fun e ac=>(e=.returned (.bool true)∧∃ad O,ft κ' s w' ad O ac∧cY ad O ac∧Rt O)∨(e=.returned (.bool false)∧∃ad O,hi l κ' s w' ad O ac∧cY ad O ac∧Rf O ac.heap[l]?))
  {Q:Exit→Act→World→Prop}
  (aV:∀κ' s' w' g' fN,xe iq hA jb κ' s' w'→fz κ' (dY s' m) w' g' fN 41 jb.heap.size kq.au→wm hy l i x g'→g' 27=.bool false→Rt s'→Q .normal fN w')
  (aW:∀κ' s' w' g' fN,hi l iq hA jb κ' s' w'→fz κ' (dY s' m) w' g' fN 41 jb.heap.size kq.au→g' 27=.bool true→Rf s' w'.heap[l]?→Q .normal fN w'):
  (Code.region id A false).wpIn (wM none) 0 P Q a w:=by
 obtain⟨hlen,aX⟩:=h5 dd;have eZ:A.size=9:=by rw[←Array.length_toList,←hlen];rfl
 have op:∀j F,J2[j]? =some F→∃o,A[j]? =some o∧n0 T 41 A F o=true:=fun j F df=>by
  have aH:j<A.size:=by rw[eZ];exact(eA.1 df).1
  exact⟨A[j],Array.getElem?_eq_getElem aH,aX j F _ df (by simp [aH])⟩
 have one:∀{j:Nat} {F:cQ} {κ:bh} {S S':ag} {w:World} {g:Nat→ae} {a:Act} {v:ae} {K:Act→World→Prop},J2[j]? =some F→fz κ S w g a 41 jb.heap.size kq.au→ji kq F g S=some (v,S')→
   (∀κ' w' fN,ft κ S w κ' S' w'→fz κ' S' w' (cH g F.dst v) fN 41 jb.heap.size kq.au→K fN w')→wpOpIn (wM none) 0 P A Q j K a w:=fun {j F κ S S' w g a v K} df aQ he aw=>by
  obtain⟨o,ar,av⟩:=op j F df;exact oP eO rfl (J1 P) aQ ar av he aw
 have nV:∀{d:Option Nat} {o:f9} {g:Nat→ae} {S S':ag} {v:ae},aL kq g S .ok .panic o=.ok v S'→ji kq ⟨d,none,o⟩ g S=some (v,S'):=fun h=>by simp only[ji,fV,h]
 have dM:∀{d:Option Nat} {o:f9} {g:Nat→ae} {S S':ag} {v:ae},g 22=.bool true→aL kq g S .ok .panic o=.ok v S'→ji kq ⟨d,some (22,true),o⟩ g S=some (v,S'):=fun aY h=>by simp only[ji,fV,aY,beq_self_eq_true,h]
 refine wpIn_region ?_;rw[eZ,show List.range 9=[0,1,2,3,4,5,6,7,8] from rfl];rw[wpOpsIn_cons];refine one rfl h (nV (v:=.int .i64 x) (S':=dY s m) (by simp only[aL,aq,cB.ic];rfl)) fun bB bC bD aZ a0=>?_
 rw[wpOpsIn_cons];refine one rfl a0 (nV (v:=.int .i64 i) (S':=dY s m) (by simp only[aL,aq,cH,cB.hb,Nat.reduceEqDiff,if_false,dX,eR];rfl)) fun bE bF bG a2 a3=>?_
 rw[wpOpsIn_cons];refine one rfl a3 (nV (v:=.bool true) (S':=dY s m) (by simp only[aL,aq,cH,Nat.reduceEqDiff,if_false,if_true];show qu kq _ _ (some (.bool ((x:Int) != i)))=_;rw[show((x:Int) != i)=true from by simp;omega];rfl)) fun bH bI bJ a4 a5=>?_
 rw[wpOpsIn_cons];refine one rfl a5 (nV (v:=.bool true) (S':=dY s m) (by simp only[aL,aq,cH,if_true];rfl)) fun bL bM bN a6 a7=>?_
 rw[wpOpsIn_cons];refine one rfl a7 (dM (v:=.j8 l) (S':=dY s m) (by simp [cH]) (by simp only[aL,aq,cH,cB.vp,Nat.reduceEqDiff,if_false];rfl)) fun bO bP bQ a8 a9=>?_
 rw[wpOpsIn_cons];refine one rfl a9 (dM (v:=.int .i64 x) (S':=dY s m) (by simp [cH]) (by simp only[aL,aq,cH,cB.ic,Nat.reduceEqDiff,if_false];rfl)) fun U af J ba u=>?_
 rw[wpOpsIn_cons];have he:=(((((aZ.trans a2).trans a4).trans a6).trans a8).trans ba);have L:xe iq hA jb U s af:=aT.step h.iL he;obtain⟨H,V⟩:∃H,H=cH (cH (cH (cH (cH (cH g (some 19) (.int .i64 x)) (some 20) (.int .i64 i)) (some 21) (.bool true)) (some 22) (.bool true)) (some 23) (.j8 l)) (some 24) (.int .i64 x):=⟨_,rfl⟩;have u:fz U (dY s m) af H J 41 jb.heap.size kq.au:=by rw[V];exact u
 have ah:wm hy l i x H:=by rw[V];exact⟨by simp [cH,cB.vp],by simp [cH,cB.hb],by simp [cH,cB.g2],by simp [cH,cB.m7],by simp [cH,cB.ic]⟩
 have ax:H 22=.bool true:=by rw[V];simp [cH]
 have bb:H 23=.j8 l:=by rw[V];simp [cH]
 have bc:H 24=.int .i64 x:=by rw[V];simp [cH]
 clear V;obtain⟨o,bd,aI⟩:=op 6 _ rfl;simp only[n0,bm] at aI;obtain⟨⟨aJ,be⟩,M⟩:=aI;unfold wpOpIn;simp only[bd];rw[u.wanted be (b:=true) (by simp only[fV,ax,beq_self_eq_true])];simp only[↓reduceIte];refine⟨fun _ _=>trivial,?_⟩;simp only[eB] at M;split at M
 ·rename_i ay bf;split at M
  ·rename_i y eQ;simp only[bm] at M;have az:=bq u.ao u.au M.1;have aA:=ik u.ao u.au _ _ M.2;rw[show aq kq.au H (.t 23)=.j8 l from bb] at az;simp only[gd,List.map_nil,show aq kq.au H (.t 24)=.int .i64 x from bc] at aA;have bi:J.eval y=.func (.yield l) #[] #[]:=by
    generalize J.eval y=z at az;cases az;rfl
   obtain⟨B,aK⟩:∃B,ay.args.toList.map J.eval=[B]:=List.length_eq_one_iff.1 (by rw[aA.1];rfl);have bk:dA U (s.aa+1) (.int .i64 x) B:=by have:=aA.2 0 _ B rfl (by rw[aK];rfl);rw[dA.ew (k:=.i64) (n:=x) this];exact .int _ _
   have bl:ay.args.map J.eval= #[B]:=by apply Array.ext';rw[Array.toList_map,aK]
   have hex:execOp J.eval o=Instr.yield l #[B]:=by have:=Ad (ty:=o.type) (ρ:=J.eval) (c:=ay) (l:=l) ⟨y,eQ,bi⟩ o.dst o.pos o.after o.guard;rw[bl] at this;rw[←this,←bf]
   obtain⟨fn,tmps,assign,body,bn,aM⟩:=aU U af B L u.iL.off bk;show o.uponIn (wM none) 0 P J _ Q ((execOp J.eval o).run P af);rw[hex,bn,Oper.uponIn_round];refine⟨fun ai=>(by cases ai),?_⟩;have rest:∀(b:Bool) (aj:bh) (r:ag) (I:World) (aB:Act),fz aj (dY r m) I (cH H (some 25) (.bool b)) aB 41 jb.heap.size kq.au→
     (∀κ' w' g' fN,ft aj (dY r m) I κ' (dY r m) w'→fz κ' (dY r m) w' g' fN 41 jb.heap.size kq.au→wm hy l i x g'→g' 27=.bool (!b)→Q .normal fN w')→wpOpsIn (wM none) 0 P A Q [7,8] aB I:=fun b aj r I aB bo aw=>by
    rw[wpOpsIn_cons];refine one rfl bo (dM (v:=.bool (!b)) (S':=dY r m) (by simp [cH,ax]) (by simp only[aL,aq,cH,if_true];rfl)) fun N bR bS bp br=>?_
    rw[wpOpsIn_cons];refine one rfl br (nV (v:=.bool (!b)) (S':=dY r m) (by simp only[aL,aq,cH,ax,Nat.reduceEqDiff,if_false,if_true,m4,bX];rfl)) fun Y Z ak ab al=>?_
    exact aw Y Z _ ak (bp.trans ab) al ⟨by simp [cH,ah.vp],by simp [cH,ah.hb],by simp [cH,ah.g2],by simp [cH,ah.m7],by simp [cH,ah.ic]⟩ (by simp [cH])
   have aN:∀(hx:Nat) (z:dp),([dp.cells (hX m)]:List dp)[hx]? =some z→bg U (s.aa+1) hx z≠some l:=fun hx z hC an=>by have:=L.own hx z l hC an;omega
   refine⟨aM.1,fun c cs bs=>?_⟩;obtain⟨e,I,bt,a1⟩:=aM.2 c cs bs;refine⟨e,I,?_,a1⟩;rcases bt with⟨rfl,aj,r,ap,aC,bu⟩|⟨rfl,aj,r,ap,aC,bv⟩
   ·obtain⟨N,as,am,aO⟩:=u.iL.lay ap.x aC aN;have aP:ft U (dY s m) af N (dY r m) I:=am.ext (ap.kK l (fX bK L.ext.size) fun ai=>aG (L.ext.live l bK ai));refine rest true N r I _ (u.put aP as (.bool true) aJ) fun Y Z aD ak ab al aR aE=>?_
    exact aV Y r Z aD ak ((L.step u.iL aP).step as ab) al aR aE bu
   ·obtain⟨N,as,am,aO⟩:=u.iL.lay ap aC aN;refine rest false N r I _ (u.aaM am bK as (.bool false) aJ) fun Y Z aD ak ab al aR aE=>?_
    have aF:hi l iq hA jb N r I:=hi.under L.ext.x am L.own;have bw:r.aa=s.aa:=by have:=am.aa;rw[ag.gZ,ag.gZ] at this;omega
    have aS:∀hx z b,([dp.cells (hX m)]:List dp)[hx]? =some z→bg N (r.aa+1) hx z=some b→jb.heap.size≤b:=fun hx z b hC an=>by
     cases hx with
     |zero=>simp only[List.getElem?_cons_zero,bj] at hC;subst hC;simp only[bg,bj] at an;rw[←an,bw,aO 0];exact L.loc
     |succ hx=>simp at hC
    have bx:hi l iq hA jb Y r Z:=hi.under aF ab.x aS;refine aW Y r Z aD ak bx al aE ?_;have bz:¬Live N (dY r m) l:=fun ai=>by
     rcases ai.on with ar|⟨hx,z,ar,av⟩
     ·exact aG (aF.live l bK ar)
     ·have:=aS hx z l ar av;omega
    rw[ab.kK l (fX bK aF.size) bz];exact bv
  ·cases M
 ·cases M
end
theorem aaO(a b c:Value)(X:Array Value):((#[a]++[b,c].toArray)++X).getD 0 undef=a∧((#[a]++[b,c].toArray)++X).getD 1 undef=b∧((#[a]++[b,c].toArray)++X).getD 2 undef=c:=by refine⟨?_,?_,?_⟩<;> (rw[Array.getD_eq_getD_getElem?,Array.getElem?_append_left (by simp)];rfl)
theorem IC{P:Program}{T:kD}(eO:T.pn P){f:Nat}{fn:Func}{c:Code}(bt:P.funcs[f]? =some fn)(aM:fn.body=some c)(bg:(fn.name== "runtime.NumGoroutine")=false)(bi:fn.results= #[])(bj:fn.ntmps=41)(dd:dn T 41 false ace c=true):zM P f 0:=by
 refine⟨⟨fn,bt,by simp [aM],bg⟩,?_⟩;intro dC xs iq hA jb dr l bk bl ay bK bn de J V bo bp;obtain⟨i,hy,es,A,rfl,iB,bq,bY,df,aN,fU⟩:=Aj bk;obtain⟨dg,br⟩:=Df bq;unfold ace at dd;obtain⟨iw,qk,rfl,bs,ar⟩:=fm dd;obtain⟨dh,Ak,rfl,bu⟩:=gb bs;obtain⟨bQ,pt,rfl,bv,av⟩:=fm ar;obtain⟨di,gN,rfl,bw⟩:=gb bv;obtain⟨dk,dl,rfl,bx,bO⟩:=fm av;obtain⟨dm,dp,rfl,bz⟩:=gb bx;obtain⟨dq,rfl,dD⟩:=k8 bO;obtain⟨ds,rfl,aO⟩:=rq dD;unfold Vt at aO;obtain⟨dt,du,rfl,bA,bB⟩:=fm aO;obtain⟨dv,dw,rfl,bC,bD⟩:=fm bA;obtain⟨dx,dy,rfl,bE⟩:=gb bC;obtain⟨dz,t3,dB,rfl,aP,bF,bG⟩:=lP bD;obtain rfl:=n9 bG;obtain⟨dE,dF,rfl,bH,bI⟩:=fm bB;obtain⟨aQ,aR,rfl,bL⟩:=gb bI;obtain⟨jA,rfl,bM⟩:=k8 bH;obtain⟨dH,dI,rfl,bN,aS⟩:=fm bM;obtain⟨dJ,dK,rfl,bR,bS⟩:=fm bN;obtain⟨dL,dM,rfl,bT⟩:=gb bR;obtain⟨dN,t5,dO,rfl,aT,bU,bV⟩:=lP bS;obtain rfl:=n9 bU;unfold Vs at aS;obtain⟨dP,bZ,rfl,b0,b1⟩:=fm aS;obtain⟨dQ,dR,rfl,b2,b3⟩:=fm b0;obtain⟨dS,dT,rfl,aU⟩:=gb b2;obtain⟨dU,t6,dW,rfl,az,b4,aV⟩:=lP b3;obtain rfl:=Ac b4;refine CallsIn.mono (R:=fun e w'=>(∃v,e=.returned v)∧rr J V xs.length l iq hA jb w') ?_ (fun e w' h=>h);refine callsIn_of_wp_marks bt aM trivial (wpIn_mono (Q:=fun e fN w'=>(e=.normal∨e=.ret)∧Marks jb.heap.size w' fN.defers∧rr J V xs.length l iq hA jb w') ?_ ?_) rfl
 rotate_left
 ·rintro e fN w' ⟨he,⟨dZ,ot,b5,b6,ac⟩,h1⟩
  have key:LeavesInM Fence.wide 0 P fn fN.tmps (fun e w'=>(∃v,e=.returned v)∧rr J V xs.length l iq hA jb w') fN.defers .returning w':=by
   rw[b5];refine kR ot w' b6 (fun D O=>(ac D O).2) fun d0 hw=>⟨.tuple #[],?_,⟨_,rfl⟩,h1.shut bK (fun D O=>(ac D O).1) (fun D O=>(ac D O).2) hw⟩
   simp [results,bi]
  rcases he with rfl |rfl <;> exact key
 obtain⟨v1,v2,rfl⟩:∃v1 v2,dr=[v1,v2]:=by
  match dr,ay.1 with
  |[v1,v2],_=>exact⟨v1,v2,rfl⟩
 have b7:=ay.2 0 _ v1 rfl rfl;have aA:=ay.2 1 _ v2 rfl rfl;obtain⟨d4,aW⟩:∃x,dA iq (hA.aa+1) hy x:=by generalize v2=z at aA;cases aA;rename_i a vs a3 h1 bJ;exact⟨_,bJ 0 hy rfl⟩
 obtain⟨ad,an,aX,b8⟩:=bl.IB;have an:cY ad (hA.on []) jb:=an;have b9:fz ad (hA.on []) jb (fun t=>if t=0 then .j8 l else if t=1 then .bP [.int .i64 i] else if t=2 then .bP [hy] else .dead) {tmps:=(#[Value.func (.yield l) #[] #[]]++[v1,v2].toArray)++Array.replicate (fn.ntmps-(#[Value.func (.yield l) #[] #[]]++[v1,v2].toArray).size) undef,defers:=[]} 41 jb.heap.size kq.au:=by
  refine⟨an,fun t=>?_,Marks.nil (aB _),by simp [bj],V0 _⟩;obtain⟨ca,cb,aY⟩:=aaO (.func (.yield l) #[] #[]) v1 v2 (Array.replicate (fn.ntmps-(#[Value.func (.yield l) #[] #[]]++[v1,v2].toArray).size) undef);have O:hA.aa+1≤(hA.on []).aa+1:=by rw[ag.gZ];omega
  by_cases aZ:t=0
  ·subst aZ;show dA ad _ (.j8 l) _;rw[ca];exact .j8 l
  ·by_cases a0:t=1
   ·subst a0;show dA ad _ (.bP [.int .i64 i]) _;rw[cb];exact(b7.mono aX).up O
   ·by_cases lG:t=2
    ·subst lG;show dA ad _ (.bP [hy]) _;rw[aY];exact(aA.mono aX).up O
    ·simp only[aZ,a0,lG,if_false];exact .dead _
 refine wpIn_seq (iC eO bu b9 ((dV (v:=.ref (.l 0) 0) (s':=dY hA []) rfl).trans rfl) fun aC cc aY aD aE=>?_);have cd:xe iq hA jb aC hA cc:=by
  refine⟨(hi.under (l:=jb.heap.size) b8.x aD.x (fun i x b h=>by simp at h)).q8 (aB _),?_⟩;refine Nat.le_of_not_lt fun ce=>?_
  have cB:(dY hA []).get (.g (hA.aa+1) 0)=some (.cells (hX [])):=by rw[ag.ko,if_pos rfl];rfl
  have cf:Live aC (dY hA []) (aC.loc (hA.aa+1) 0):=⟨_,0,_,cB,rfl⟩;have ar:=aD.live _ ce cf;rcases ar.on with ar|⟨hx,z,ar,_⟩
  ·exact aE.iL.n8 (i:=0) (x:=.cells (hX [])) rfl rfl (Live.mono an.off (aD.k.low (by rw[ag.gZ];omega)) ar)
  ·simp at ar
 have cg:qv hy l i (cH (fun t=>if t=0 then .j8 l else if t=1 then .bP [.int .i64 i] else if t=2 then .bP [hy] else .dead) (some 4) (.ref (.l 0) 0)):=⟨by simp [cH],by simp [cH],by simp [cH],by simp [cH]⟩;obtain⟨d5,ac,ch⟩:=px (s:=hA) (m:=[]) cg (by omega);refine wpIn_seq (iC eO bw aE ac fun d6 d7 d8 ci a1=>?_);obtain⟨m7,cj,ck⟩:=qG (s:=hA) (m:=[i]) ch;refine wpIn_seq (iC eO bz a1 cj fun a2 cl d9 cm cn=>?_);have co:xe iq hA jb a2 hA cl:=(cd.step aE.iL ci).step a1.iL cm;have cp:([.bP [.int .i64 i],.bP [hy]]:List ae).all (fS hA hA)=true:=by
  simp only[List.all_cons,List.all_nil,Bool.and_true,show fS hA hA (.bP [.int .i64 i])=true from rfl,er];cases hy<;> try rfl
  rename_i a off len cap sz;simp only[fS];unfold dG at iB;simp only at iB;split at iB
  ·rename_i cs cq;rw[cq];exact(ae.iF cs cs).2 rfl
  ·cases iB
 refine wpIn_block (oQ (fun n fN w'=>∃κ' s' g' jg j,xe iq hA jb κ' s' w'∧fz κ' (dY s' jg) w' g' fN 41 jb.heap.size kq.au∧wm hy l i ((n:Int)-1) g'∧n≤i+1∧J j s'∧j≤xs.length∧([.bP [.int .i64 i],.bP [hy]]:List ae).all (fS hA s')=true∧xs.drop j=(fR (A.getD · []) i n jg).map fun k=>.int .i64 (k:Nat)) (fun n fN w' cr=>?_) (n:=i+1)
  ⟨a2,hA,m7,[i],0,co,cn,by rw[show(((i+1:Nat):Int)-1)=(i:Int) by omega];exact ck,aB _,bo,Nat.zero_le _,cp,by rw[bW,fU]⟩)
 obtain⟨ea,B,ic,r,j,ct,a4,cv,ec,ao,a5,aF,ap⟩:=cr;obtain⟨a6,cw,a7,aG⟩:=CO (s:=B) (m:=r) cv;refine wpIn_seq (wpIn_seq (iC eO bE a4 cw fun cy ed ee cz Z=>?_));have a8:=ct.step a4.iL cz;cases n with
 |zero=>
  refine wpIn_cond_false (jl aP Z (b:=false) (by show a6 12=_;rw[aG];simp)) (wpIn_exit ?_);refine⟨.inl rfl,Z.defers,.inl ⟨cy,B,a8.ext,Z.iL.off,?_⟩⟩
  have:xs.length=j:=by have:=congrArg List.length ap;simp only[List.length_drop,fR,List.map_nil,cx] at this;omega
  rw[this];exact ao
 |succ x=>
  have cA:((x+1:Nat):Int)-1=(x:Int):=by omega
  rw[cA] at a7 aG;refine wpIn_cond_true (jl aP Z (b:=true) (by show a6 12=_;rw[aG];simp)) (nD bF ?_);have next:∀(af:bh) (Y:ag) (ah:List Nat) (ab:World) (L:Nat→ae) (ai:Act) (aj:Nat),xe iq hA jb af Y ab→fz af (dY Y ah) ab L ai 41 jb.heap.size kq.au→wm hy l i x L→J aj Y→aj≤xs.length→([.bP [.int .i64 i],.bP [hy]]:List ae).all (fS hA Y)=true→xs.drop aj=(fR (A.getD · []) i x ah).map (fun k=>.int .i64 (k:Nat))→
    (Code.region aQ aR false).wpIn (wM none) 0 P (Exit.then (fun fN w'=>∃m,m<x+1∧∃κ' s' g' jg j,xe iq hA jb κ' s' w'∧fz κ' (dY s' jg) w' g' fN 41 jb.heap.size kq.au∧wm hy l i ((m:Int)-1) g'∧m≤i+1∧J j s'∧j≤xs.length∧([.bP [.int .i64 i],.bP [hy]]:List ae).all (fS hA s')=true∧xs.drop j=(fR (A.getD · []) i m jg).map fun k=>.int .i64 (k:Nat)) (Exit.inBlock 0 fun e fN w'=>(e=.normal∨e=.ret)∧Marks jb.heap.size w' fN.defers∧rr J V xs.length l iq hA jb w')) ai ab:=fun af Y ah ab L ai aj ak M F cC cD cE cF=>by
   obtain⟨U,cG,al⟩:=ab4 (s:=Y) (m:=ah) F (by omega) (by omega);exact iC eO bL M cG fun H K N aH u=>⟨x,Nat.lt_succ_self x,H,Y,U,ah,aj,ak.step M.iL aH,u,al,by omega,cC,cD,cE,cF⟩
  refine wpIn_seq (wpIn_block ?_);obtain⟨L,cI,F,a9⟩:=ab5 (s:=B) (m:=r) (x:=x) a7 rfl (by omega);refine wpIn_seq (wpIn_seq (iC eO bT Z cI fun af ab ai cJ M=>?_));have ak:=a8.step Z.iL cJ;cases am:r.elem x with
  |false=>refine wpIn_cond_true (jl aT M (b:=true) (by show L 18=_;rw[a9,am];rfl)) (wpIn_exit ?_);refine next af B r ab L ai j ak M F ao a5 aF ?_;rw[ap];simp only[fR,am,cond_false]
  |true=>
   refine wpIn_cond_false (jl aT M (b:=false) (by show L 18=_;rw[a9,am];rfl)) (nD bV ?_);have hex:es[x]? =some es[x]:=eI (by omega);obtain⟨hh,aI,cK⟩:=br x _ hex;have ba:A.getD x []=hh:=by simp [List.getD_eq_getElem?_getD,aI]
   have cL:∀y,y∈hh→y<40:=fun y eQ=>by have:=(aN hh (List.mem_of_getElem? aI)).2 y eQ;omega
   have cM:∀s':ag,s'.aa=hA.aa→([.bP [.int .i64 i],.bP [hy]]:List ae).all (fS hA s')=true→∀o,dG (s'.on o) hy=some (12,es):=fun s' cR dc o=>by rw[Ai aW (by omega) (by simp only[List.all_cons,List.all_nil,Bool.and_true,bm] at dc;exact dc.2) o (by rw[iB];rfl)];exact iB
   have cN:hh.length<9223372036854775807:=by have:=(aN hh (List.mem_of_getElem? aI)).1;omega
   have bb:∀(H:bh) (I:ag) (K:World) (U:Nat→ae) (N:Act) (oB:Nat),xe iq hA jb H I K→fz H (dY I r) K U N 41 jb.heap.size kq.au→wm hy l i x U→J oB I→oB≤xs.length→([.bP [.int .i64 i],.bP [hy]]:List ae).all (fS hA I)=true→xs.drop oB=(fR (A.getD · []) i x (hh++r)).map (fun k=>.int .i64 (k:Nat))→
     bZ.wpIn (wM none) 0 P (Exit.inBlock 1 (Exit.then ((Code.region aQ aR false).wpIn (wM none) 0 P (Exit.then (fun fN w'=>∃m,m<x+1∧∃κ' s' g' jg j,xe iq hA jb κ' s' w'∧fz κ' (dY s' jg) w' g' fN 41 jb.heap.size kq.au∧wm hy l i ((m:Int)-1) g'∧m≤i+1∧J j s'∧j≤xs.length∧([.bP [.int .i64 i],.bP [hy]]:List ae).all (fS hA s')=true∧xs.drop j=(fR (A.getD · []) i m jg).map fun k=>.int .i64 (k:Nat)) (Exit.inBlock 0 fun e fN w'=>(e=.normal∨e=.ret)∧Marks jb.heap.size w' fN.defers∧rr J V xs.length l iq hA jb w'))) (Exit.then (fun fN w'=>∃m,m<x+1∧∃κ' s' g' jg j,xe iq hA jb κ' s' w'∧fz κ' (dY s' jg) w' g' fN 41 jb.heap.size kq.au∧wm hy l i ((m:Int)-1) g'∧m≤i+1∧J j s'∧j≤xs.length∧([.bP [.int .i64 i],.bP [hy]]:List ae).all (fS hA s')=true∧xs.drop j=(fR (A.getD · []) i m jg).map fun k=>.int .i64 (k:Nat)) (Exit.inBlock 0 fun e fN w'=>(e=.normal∨e=.ret)∧Marks jb.heap.size w' fN.defers∧rr J V xs.length l iq hA jb w')))) N K:=fun H I K U N oB as u al cO cP bc cS=>by
    refine wpIn_mono (J7 eO b1 rfl cL cN u al aW (cM I as.ext.aa bc _) hex cK) ?_
    rintro e cT cU ⟨rfl,cV,cW,cX,cZ,c0,c1,c2⟩
    refine next cV I cX cU cW cT oB (as.step u.iL cZ) c0 c1 cO cP bc ?_;rw[cS,mu _ _ _ _ _ c2]
   refine wpIn_seq (wpIn_seq ?_);by_cases aJ:x=i
   ·
    subst aJ;have c3:gX kq J2 L (dY B r)=some (cH (cH (cH (cH (cH (cH (cH (cH (cH L (some 19) (.int .i64 x)) (some 20) (.int .i64 x)) (some 21) (.bool false)) (some 22) (.bool false)) (some 23) (.eb [])) (some 24) (.eb [])) (some 25) (.eb [])) (some 26) (.eb [])) (some 27) (.bool false),dY B r):=by
     have aw:∀{d:Option Nat} {op:f9} {os:List cQ} {g:Nat→ae} {s:ag},g 22=.bool false→gX kq (⟨d,some (22,true),op⟩::os) g s=gX kq os (cH g d (.eb [])) s:=fun h=>by simp only[gX,ji,fV,h,show(false==true)=false from rfl,f0]
     refine(dV (v:=.int .i64 x) (s':=dY B r) (by simp only[aL,aq,F.ic];rfl)).trans ?_;refine(dV (v:=.int .i64 x) (s':=dY B r) (by simp only[aL,aq,cH,F.hb,Nat.reduceEqDiff,if_false,dX,eR];rfl)).trans ?_;refine(dV (v:=.bool false) (s':=dY B r) (by simp only[aL,aq,cH,Nat.reduceEqDiff,if_false,if_true];show qu kq _ _ (some (.bool ((x:Int) != x)))=_;rw[show((x:Int) != x)=false from by simp];rfl)).trans ?_
     refine(dV (v:=.bool false) (s':=dY B r) (by simp only[aL,aq,cH,if_true];rfl)).trans ?_;refine(aw (by simp [cH])).trans ((aw (by simp [cH])).trans ((aw (by simp [cH])).trans ((aw (by simp [cH])).trans ?_)));exact(dV (v:=.bool false) (s':=dY B r) (by simp only[aL,aq,cH,Nat.reduceEqDiff,if_false,if_true,m4,cond_false];rfl)).trans rfl
    refine iC eO aU M c3 fun H K N aH u=>?_
    refine wpIn_cond_false (jl az u (b:=false) (by simp [aq,cH])) (nD aV ?_);refine bb H B K _ N j (ak.step M.iL aH) u ⟨by simp [cH,F.vp],by simp [cH,F.hb],by simp [cH,F.g2],by simp [cH,F.m7],by simp [cH,F.ic]⟩ ao a5 aF ?_;rw[ap];simp only[fR,am,bX,gf,ba]
   ·have e3:Nat.beq x i=false:=by
     cases c4:Nat.beq x i with
     |false=>rfl
     |true=>exact absurd (dj c4) aJ
    have bd:xs.drop j=.int .i64 (x:Nat)::(fR (A.getD · []) i x (hh++r)).map (fun k=>.int .i64 (k:Nat)):=by rw[ap];simp only[fR,am,bX,e3,cond_false,ba,gd]
    have be:xs[j]? =some (.int .i64 (x:Nat)):=by have:=congrArg (fun l:List ae=>l[0]?) bd;simpa using this
    have c5:j<xs.length:=(eA.1 be).1;have c6:xs.drop (j+1)=(fR (A.getD · []) i x (hh++r)).map (fun k=>.int .i64 (k:Nat)):=by rw[←List.tail_drop,bd];rfl
    refine Dh eO aU bK bn aJ ak M F (Rt:=fun bf=>J (j+1) bf∧([.bP [.int .i64 i],.bP [hy]]:List ae).all (fS hA bf)=true) (Rf:=V) (fun κ' w' c7 c8 c9 da=>?_) (fun H I K U N as u al aK ax=>?_) (fun H I K U N db u aK ax=>?_)
    ·have:=bp j _ c7 κ' B w' be c8.ext c9 ao aF da;exact this
    ·refine wpIn_cond_false (jl az u (b:=false) aK) (nD aV ?_);exact bb H I K U N (j+1) as u al ax.1 c5 ax.2 c6
    ·refine wpIn_cond_true (jl az u (b:=true) aK) (wpIn_ret ?_);exact⟨.inr rfl,u.defers,.inr ⟨H,I,db,u.iL.off,ax⟩⟩
end Go.Ab
end
