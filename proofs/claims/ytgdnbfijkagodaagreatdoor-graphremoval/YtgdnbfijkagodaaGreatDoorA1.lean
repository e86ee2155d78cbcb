/- A part of the proof: no condition. -/
import Derived.Test.YtgdnbfijkagodaaGreatDoorA0
import Derived.Laws.IdiomStrings
import Derived.MapKept
import Derived.RangeFuncRecord
import Derived.RangeFuncSeq
import Derived.RangeFuncLeaves
import Derived.RangeFuncCalls
import Derived.OrdersIn
import Derived.Laws.StructEq
set_option linter.unusedSectionVars false
set_option linter.unusedSimpArgs false
set_option linter.unusedVariables false
namespace Go.Ab
theorem u9(z:List af)(v:Array Value)(gA:∀κ D,eH κ D z v.toList)(n:Nat):∀κ D,eH κ D (List.replicate n z).flatten (madeCells v (n*z.length)).toList:=by
 intro κ D;have bU:v.size=z.length:=by simpa using (gA κ D).1
 refine⟨by simp [madeCells],fun j c x a0 a1=>?_⟩;simp only[madeCells,Array.toList_map,gb] at a1;by_cases eO:z.length=0
 ·have:z=[]:=jj eO;subst this;simp at a0
 ·have cL:j<n*z.length:=by
   have:=(dy.1 a0).1;simpa using this
  have aV:(Array.range (n*z.length)).toList[j]? =some j:=by simp [cL]
  rw[aV] at a1;simp only[ep,bt] at a1;have hm:j%z.length<z.length:=Nat.mod_lt _ (by omega);have lr:z[j%z.length]? =some c:=by
   have:∀(n j:Nat),j<n*z.length→(List.replicate n z).flatten[j]? =z[j%z.length]?:=by
    intro n
    induction n with
    |zero=>intro j cL;simp at cL
    |succ n e=>
     intro j cL;rw[List.replicate_succ,List.flatten_cons];by_cases ar:j<z.length
     ·rw[fB ar,hT ar]
     ·rw[jt (by omega),e _ (by rw[Nat.succ_mul] at cL;omega),←Nat.mod_eq_sub_mod (by omega)]
   rw[←this n j cL];exact a0
  have h:v.toList[j%z.length]? =some x:=by
   have r:j%v.size<v.size:=by rw[bU];exact hm
   rw[←a1];simp only[bU] at r ⊢;simp [bU,hm]
  exact(gA κ D).2 _ c x lr h
section
variable{P:Program}{ty:TypeId}{ρ:Operand→Value}{κ:bq}{s:ah}{w:World}(ba:db κ s w)
include ba
theorem tH{E:Env}(bB:E.F=.not){k:af→ah→ai}{r:ai}(bA:r≠.fail){t el:TypeId}{z:List af}{bytes:Nat}{l c:af}{x y:Operand}(eo:P.underlying t=some (.slice el))(gA:ku P el z=true)(fi:fw P el=some z.length)(u:(P.info? el).map (·.bytes)=some bytes)(A:0<bytes)
  (a1:dK κ (s.aa+1) (l.ao s.aa) (ρ x))(ez:dK κ (s.aa+1) (c.ao s.aa) (ρ y))(aV:n5 E s k z bytes l c=r):∃f7 s',k f7 s'=r∧dT P (.makeSlice t x y) ty ρ κ s w f7 s':=by
 unfold n5 at aV;cases bU:ff l with
 |none=>rw[bU] at aV;exact absurd aV.symm bA
 |some m=>
  cases a0:ff c with
  |none=>rw[bU,a0] at aV;exact absurd aV.symm bA
  |some n=>
   rw[bU,a0] at aV;simp only[bB,a2.not] at aV;obtain⟨h,B⟩:=c9 aV bA;rw[bo] at h;have ar:=d9 h.1;have aw:=d9 h.2;obtain⟨H,rfl⟩:=jD bU;obtain⟨I,rfl⟩:=jD a0;obtain⟨v,e,bX,_,i,bZ,J⟩:=lx gA w;have M:i.size=z.length:=by simpa [fw,bZ] using fi
   have N:i.bytes=bytes:=by simpa [bZ] using u
   have O:(n:Int)≤9223372036854775807:=by have:n*1≤n*bytes:=Nat.mul_le_mul_left _ A;omega
   have hmul:(i.bytes:Int)*(n:Int)≤281474976710656:=by
    have:(i.bytes:Int)*(n:Int)=((n*bytes:Nat):Int):=by rw[N,eM];simp
    omega
   have run:=run_make w t el i v eo bZ J H I m n (by omega) (by omega) hmul O;simp only[Int.toNat_natCast,M] at run;obtain⟨κ',gZ,g2,U,n9⟩:=ba.pJ (List.replicate n z).flatten (madeCells v.cells (n*z.length)) el (u9 z v.cells bX n _ _) (w':=w.alloc (.cells (madeCells v.cells (n*z.length)) el)) rfl rfl rfl rfl;refine⟨_,_,B,.slice (some ⟨w.heap.size,0,none⟩) m n,κ',_,.inl (fun _ _ _ _=>?_),g2,gZ,?_⟩
   ·simp [execOp,a1.eP,ez.eP,run]
   ·simp only[af.ao,Loc.ao];rw[←U];exact .cH _ _ _ _ _ _ _ (Nat.lt_succ_self _) n9 ar (.inl rfl)
omit ba in
theorem ou{vs:List af}(h:vs.all af.en=true){D:Nat}{xs:List Value}(bX:eH κ D vs xs):∀x∈xs,x.oneCell'=true:=by
 intro x a1;obtain⟨j,cL⟩:=List.mem_iff_getElem?.1 a1;have e:=(dy.1 cL).1;have r:j<vs.length:=by rw[←bX.1];exact e
 have a0:vs[j]? =some vs[j]:=eb r;exact(bX.2 j _ x a0 cL).Ov (List.all_eq_true.1 h _ (List.mem_of_getElem? a0))
theorem oa{d i off:Nat}{cs:List af}{xs:List Value}(b2:s.get (.g d i)=some (.cells cs))(B:off+xs.length≤cs.length)(ar:∀x∈xs,x.oneCell'=true):
  (storeCells ⟨κ.loc d i,off,none⟩ xs).run P w=.ok () (w.setCells (κ.loc d i) off xs):=by
 obtain⟨⟨C,e,jA,r,y,A,_⟩,ls⟩:=ba.obj d i _ b2;have F:cs.length≤C.size:=by have:=A.1;simp at this;omega
 have:=run_storeCells_cells (P:=P) (κ.loc d i) off xs 0 w (fun j cL=>by rw[gi r];simp;omega) (fun j cL=>?_) ar
 ·simpa using this
 ·have hu:=y (off+0+j) (by omega);simp only[World.frozen?,r];rw[Bool.and_eq_false_iff];by_cases u:jA.1≤off+0+j
  ·right;simp only[decide_eq_false_iff_not];exact fun h=>hu ⟨u,h⟩
  ·left;simpa using u
omit ba in
theorem nJ{a:Loc}{d i:Nat}(r:a.ao s.aa=.g d i){vs:List af}{xs:List Value}(bX:eH κ (s.aa+1) vs xs)(h:s.gL a vs=true):eH κ (d+1) vs xs:=by
 unfold ah.gL at h;rcases Bool.or_eq_true _ _ ▸ h with h|aw
 rcases Bool.or_eq_true _ _ ▸ h with ar|ar
 ·have:d=s.aa:=by
   cases a with
   |l j=>simp [Loc.ao] at r;exact r.1.symm
   |g gg j=>simp [Loc.ao] at r;simp [ah.oN] at ar;omega
  subst this;exact bX
 ·exact bX.bb ar _ (fun _ _ h=>h)
 ·cases a with
  |l j=>cases aw
  |g e j=>simp only[Loc.ao,Loc.g.injEq] at r;obtain⟨rfl,rfl⟩:=r;exact⟨bX.1,fun j c x a0 a1=>(bX.2 j c x a0 a1).lower (ol aw a0)⟩
theorem rZ{E:Env}(bB:E.F=.not){k:af→ah→ai}{r:ai}(bA:r≠.fail){t:TypeId}{n:Nat}{x y:Operand}{v u:af}(cZ:fw P t=some n)(a1:dK κ (s.aa+1) (v.ao s.aa) (ρ x))(ez:dK κ (s.aa+1) u (ρ y))
  (aV:fh E s k n v u=r):∃f7 s',k f7 s'=r∧dT P (.store t x y) ty ρ κ s w f7 s':=by
 cases v<;> simp only[af.ao] at a1<;> simp only[fh] at aV<;> try exact absurd aV.symm bA
 rename_i a off;obtain⟨I,h⟩:=c9 aV bA;rw[bo] at I;have hlen:=dq I.2;have J:=ez.cells I.1;unfold h9 at h;rw[←ah.ic] at h;cases B:a.ao s.aa with
 |l i=>cases a<;> simp [Loc.ao] at B
 |g d i=>
  rw[B] at h a1;obtain⟨e,cW,bZ⟩:=a1.na;cases b2:s.get (.g d i) with
  |none=>rw[b2] at h;exact absurd h.symm bA
  |some o=>
   rw[b2] at h;cases o<;> try exact absurd h.symm bA
   rename_i cs;obtain⟨H,A⟩:=c9 h bA;rw[bo,bo] at H;have ar:=d9 H.1.1;simp only[bB,a2.not] at A;rw[←ah.lX,B] at A;cases M:s.set (.g d i) (.cells (dE cs off u.cells)) with
   |none=>rw[M] at A;exact absurd A.symm bA
   |some s'=>
    rw[M] at A;have N:(ρ y).cells.toList.length=u.cells.length:=J.1;have O:=nJ B J H.1.2;obtain⟨gZ,g2⟩:=ba.store b2 M O ar;have U:=oa (P:=P) ba b2 (off:=off) (xs:=(ρ y).cells.toList) (by omega) (ou H.2 J);have fi:(ρ y).cells.size=n:=by rw[←Array.length_toList,N,hlen]
    refine⟨_,_,A,undef,κ,_,.inr ⟨fun _ _ _ _=>?_,rfl⟩,g2,gZ,.dead _⟩;simp [execOp,Instr.storeAt,e,Instr.sureAddr,storeVar,eQ cZ,fi,U]
theorem kZ{v:af}{X:Value}{sz:Nat}{es:List af}(bX:dK κ (s.aa+1) (v.ao s.aa) X)(h:dw s v=some (sz,es)):
  ((∃fo a,v=.str fo∧X=.string a∧a.data.toList.map UInt8.toNat=fo∧sz=1∧es=fo.map fun b=>.int .u8 (b:Nat))∨
   (∃A c,X=.slice A es.length c∧(A=none→es=[])∧∀a,A=some a→Reads κ (s.aa+1) w a (es.flatMap af.cells)))∧
  af.aX es=true∧∀e,e∈es→e.cells.length=sz:=by
 cases v
 all_goals first|(simp [dw] at h;done)|skip
 case str fo=>
  simp only[dw,bt,fb] at h;obtain⟨rfl,rfl⟩:=h;obtain⟨a,rfl,r⟩:=bX.iF;refine⟨.inl ⟨fo,a,rfl,rfl,r,rfl,rfl⟩,eA.2 (fun c a0=>?_),fun e he=>?_⟩
  ·obtain⟨b,_,rfl⟩:=List.mem_map.1 a0;rfl
  ·obtain⟨b,_,rfl⟩:=List.mem_map.1 he;rfl
 case bx z l g=>
  have key:(z=sz∧l=es)∧(af.aX es=true∨∀a,g≠.cP a):=by
   cases g with
   |cP a=>
    simp only[dw] at h;split at h
    ·rename_i aV;simp only[bt,fb] at h;exact⟨h,.inl (h.2 ▸ aV)⟩
    ·cases h
   |nil=>simp only[dw,bt,fb] at h;exact⟨h,.inr fun a e=>by cases e⟩
   |exact=>simp only[dw,bt,fb] at h;exact⟨h,.inr fun a e=>by cases e⟩
   |any=>simp only[dw,bt,fb] at h;exact⟨h,.inr fun a e=>by cases e⟩
  obtain⟨⟨rfl,rfl⟩,u⟩:=key;rcases bX.hY with⟨rfl,_,rfl⟩|⟨a,cap,dz,rfl,_,_,_,dB,y,B,F⟩
  ·exact⟨.inr ⟨none,0,rfl,fun _=>rfl,fun a r=>(by cases r)⟩,rfl,fun e he=>(by simp at he)⟩
  ·refine⟨.inr ⟨some a,cap,rfl,fun r=>(by cases r),fun f6 r=>?_⟩,?_,dB⟩
   rotate_left
   ·rcases u with cK|cK
    ·exact cK
    ·exact eA.2 (y.left fun d j e=>by cases g<;> first|exact cK _ rfl |cases e)
   cases r;exact⟨dz,fun j cL=>(ba.jb _ _ (B j cL)).2,F⟩
 case cH a off len cap z=>
  simp only[dw] at h;rw[←ah.ic] at h;cases r:a.ao s.aa with
  |l i=>cases a<;> simp [Loc.ao] at r
  |g d i=>
   rw[r] at h;simp only[af.ao,r] at bX;obtain⟨mv,rfl,cW,bZ,_⟩:=bX.km;cases b2:s.get (.g d i) with
   |none=>rw[b2] at h;cases h
   |some o=>
    rw[b2] at h;cases o<;> first|(simp at h;done)|skip
    rename_i cs;simp only at h;split at h
    ·rename_i a0;simp only[bt,fb] at h;obtain⟨rfl,rfl⟩:=h;simp only[bo,Bool.not_eq_true'] at a0;have gA:z≠0:=fun eO=>by rw[eO] at a0;simp at a0
     have hle:=d9 a0.1.2;obtain⟨H,I⟩:=kY z gA len (cs.drop off) (by simp;omega);refine⟨.inr ⟨some ⟨κ.loc d i,off,none⟩,mv,(by rw[fK]),fun r=>(by cases r),fun f6 r=>?_⟩,a0.1.1,I⟩;cases r;rw[H];obtain⟨dz,px,rk⟩:=tB (oU ba b2 off) (show d+1≤s.aa+1 by omega);refine⟨dz,fun j cL=>px j (by simp at cL ⊢;omega),fun j c cL=>rk j c ?_⟩;rw[List.getElem?_take] at cL;split at cL
     ·exact cL
     ·cases cL
    ·cases h
end
section
variable{P:Program}{ty:TypeId}{ρ:Operand→Value}{κ:bq}{s:ah}{w:World}(ba:db κ s w)
theorem Ap(b:ByteArray)(n:Nat)(κ:bq)(D:Nat):eH κ D (((b.data.toList.map UInt8.toNat).take n).map fun m=>af.int .u8 (m:Nat)) ((b.extract 0 n).data.map fun c=>Value.int .u8 c.toNat).toList:=by
 have eO:(b.extract 0 n).data.toList=b.data.toList.take n:=by rw[ot];simp
 have bU:b.data.toList.length=b.size:=Array.length_toList;refine⟨?_,fun j c x a0 a1=>?_⟩
 ·rw[Array.toList_map,d0,eO];simp only[d0,List.length_take]
 ·rw[Array.toList_map,eO,gb] at a1;rw[←List.map_take,List.map_map,gb] at a0;cases fz:(b.data.toList.take n)[j]? with
  |none=>rw[fz] at a1;cases a1
  |some q=>rw[fz] at a1 a0;simp only[ep,bt,Function.comp] at a1 a0;rw[←a1,←a0];exact .int _ _
theorem fE{X:Value}{sz:Nat}{es:List af}{v:af}(h:(∃fo a,v=.str fo∧X=.string a∧a.data.toList.map UInt8.toNat=fo∧sz=1∧es=fo.map fun b=>.int .u8 (b:Nat))∨
   (∃A c,X=.slice A es.length c∧(A=none→es=[])∧∀a,A=some a→Reads κ (s.aa+1) w a (es.flatMap af.cells)))(fi:∀e,e∈es→e.cells.length=sz)(n:Nat)(cZ:n≤es.length)(w':World)(hw:∀a,w'.cell? a=w.cell? a):
  (Builtin.lenOf X).run P w'=.ok es.length w'∧∃xs:List Value,(Builtin.firstCells sz n X).run P w'=.ok xs.toArray w'∧eH κ (s.aa+1) ((es.take n).flatMap af.cells) xs:=by
 rcases h with⟨fo,a,_,rfl,r,rfl,rfl⟩|⟨A,c,rfl,ar,aw⟩
 ·have u:a.size=fo.length:=by have:=congrArg List.length r;rw[d0,Array.length_toList] at this;exact this
  simp only[d0] at cZ ⊢;refine⟨by simp [Builtin.lenOf,u],((a.extract 0 n).data.map fun c=>Value.int .u8 c.toNat).toList,by simp only[Builtin.firstCells,Array.toArray_toList,Sem.run_pure],?_⟩
  have:=Ap a n κ (s.aa+1);rw[r] at this;have e:(List.map (fun b=>af.int IntKind.u8 ((b:Nat):Int)) fo).take n=(fo.take n).map fun m=>af.int .u8 (m:Nat):=by rw[List.map_take]
  rw[e];have y:∀l:List Nat,(l.map fun m=>af.int .u8 (m:Nat)).flatMap af.cells=l.map fun m=>af.int .u8 (m:Nat):=by
   intro l
   induction l with
   |nil=>rfl
   |cons x l B=>simp [List.flatMap_cons,B,af.cells]
  rw[y];exact this
 ·refine⟨by simp [Builtin.lenOf],?_⟩;cases A with
  |none=>
   have:=ar rfl;subst this
   have:n=0:=by simpa using cZ
   subst this;exact⟨[],by simp [Builtin.firstCells],.nil _ _⟩
  |some a=>
   have aV:=aw a rfl;have F:=fl es sz fi;have iP:Reads κ (s.aa+1) w' a (es.flatMap af.cells):=by obtain⟨dz,px,rk⟩:=aV;exact⟨dz,fun j cL=>by rw[hw];exact px j cL,rk⟩
   have hle:n*sz≤(es.flatMap af.cells).length:=by rw[F];exact gn _ cZ
   obtain⟨xs,e,a1⟩:=ug (P:=P) iP hle;refine⟨xs,by simp only[Builtin.firstCells];exact e,?_⟩
   have:(es.flatMap af.cells).take (n*sz)=(es.take n).flatMap af.cells:=by
    have bS:es.flatMap af.cells=(es.take n).flatMap af.cells++(es.drop n).flatMap af.cells:=by rw[←List.flatMap_append,List.take_append_drop]
    have dB:((es.take n).flatMap af.cells).length=n*sz:=by rw[fl _ sz (fun e he=>fi e (List.mem_of_mem_take he)),List.length_take,Nat.min_eq_left cZ]
    rw[bS,←dB,List.take_left]
   rw[←this];exact a1
theorem FQ(e:Nat):∀(r c:Nat),Builtin.growBy e r c≤max c (e+(e+768)/4):=by
 intro r
 induction r with
 |zero=>intro c;simp only[Builtin.growBy];omega
 |succ r h=>
  intro c;simp only[Builtin.growBy];split
  ·omega
  ·have:=h (c+(c+768)/4);omega
theorem nextslicecap_le{e FR:Nat}(h:FR<e):Builtin.nextslicecap e FR≤2*e+400:=by
 unfold Builtin.nextslicecap;split
 ·omega
 ·split
  ·omega
  ·have:=FQ e 4 FR;omega
structure ob (P:Program) (t t2 el:TypeId) (sz bytes:Nat) (z:Value):Prop where
 eo:P.underlying t=some (.slice el)
 mx:(∃im,P.underlying t2=some (.slice im))∨P.underlying t2=some .string
 info:∃i,P.info? el=some i∧i.size=sz∧i.bytes=bytes∧i.zero=some z
 ahT:z.cells.size=sz
 Ox:0<bytes
 wj:bytes≤1048576
theorem ob.size{t t2 el:TypeId}{sz bytes:Nat}{z:Value}(h:ob P t t2 el sz bytes z):fw P el=some sz:=by obtain⟨i,ar,aw,_⟩:=h.info;simp [fw,ar,aw]
theorem run_append_fits{t t2 el:TypeId}{sz bytes:Nat}{z:Value}(h:ob P t t2 el sz bytes z){base:Option Addr}{f8 jE n:Nat}{X:Value}{xs:List Value}(bU:(Builtin.lenOf X).run P w=.ok n w)(a0:(Builtin.firstCells sz n X).run P w=.ok xs.toArray w)(cZ:f8+n≤jE)
  {w':World}(e:match base with
   |some a=>(storeCells (a.add (f8*sz)) xs).run P w=.ok () w'
   |none=>w'=w):(Builtin.append_ #[t,t2] ty #[.slice base f8 jE,X]).run P w=.ok (.slice base (f8+n) jE) w':=by
 cases base with
 |none=>subst e;rcases h.mx with⟨im,cW⟩|cW<;> simp [Builtin.append_,run_underlying h.eo,run_underlying cW,eQ h.size,bU,a0,cZ]
 |some a=>simp only at e;rcases h.mx with⟨im,cW⟩|cW<;> simp [Builtin.append_,run_underlying h.eo,run_underlying cW,eQ h.size,bU,a0,cZ,e]
theorem jo{t t2 el:TypeId}{sz bytes:Nat}{z:Value}(h:ob P t t2 el sz bytes z){base:Option Addr}{f8 jE n:Nat}{X:Value}{os xs:List Value}(bU:(Builtin.lenOf X).run P w=.ok n w)
  (a0:(Builtin.firstCells sz n X).run P w.drew=.ok xs.toArray w.drew)(u:(Builtin.firstCells sz f8 (.slice base f8 jE)).run P w.drew=.ok os.toArray w.drew)
  (e:xs.length=n*sz)(r:os.length=f8*sz)(cZ:jE<f8+n)(N:(f8+n)*bytes≤1099511627776):
  ∃cap C,f8+n≤cap∧C.size=cap*sz∧(∀j,j<(f8+n)*sz→C[j]? =(os++xs)[j]?)∧
   (Builtin.append_ #[t,t2] ty #[.slice base f8 jE,X]).run P w=.ok (.slice (some ⟨w.heap.size,0,none⟩) (f8+n) cap) (w.drew.alloc (.cells C el)):=by
 obtain⟨i,bZ,O,y,A⟩:=h.info;have U:(f8+n)*1≤(f8+n)*bytes:=Nat.mul_le_mul_left _ h.Ox;have B:¬(f8+n≤jE):=by omega
 have V:Builtin.nextslicecap (f8+n) jE*bytes≤281474976710656:=by
  have ar:=nextslicecap_le cZ;have aw:Builtin.nextslicecap (f8+n) jE*bytes≤(2*(f8+n)+400)*bytes:=gn _ ar;have bS:(2*(f8+n)+400)*bytes=2*((f8+n)*bytes)+400*bytes:=by rw[fq,hb]
  have dB:=h.wj;omega
 let cap:=(Question.appendCap (f8+n) jE el).cut (w.tape w.drawn (.appendCap (f8+n) jE el))
 have pk:f8+n≤cap:=by simp only[cap,Question.cut];omega
 let C:Array Value:=os.toArray++xs.toArray++Builtin.zeroCells z.cells (cap-(f8+n))
 have F:C.size=cap*sz:=by
  have dn:(f8+n)*sz+(cap-(f8+n))*sz=cap*sz:=by rw[←fq];congr 1;omega
  have H:f8*sz+n*sz=(f8+n)*sz:=by rw[fq]
  simp only[C,Array.size_append,List.size_toArray,e,r,Builtin.zeroCells,Array.size_map,Array.size_range,h.ahT];omega
 refine⟨cap,C,pk,F,fun j cL=>?_,?_⟩
 ·have H:f8*sz+n*sz=(f8+n)*sz:=by rw[fq]
  simp only[C];rw[Array.getElem?_append_left (by simp only[Array.size_append,List.size_toArray,e,r];omega)];simp
 ·have I:¬(9223372036854775807<((f8:Int)+(n:Int))):=by omega
  have J:¬(281474976710656<Builtin.nextslicecap (f8+n) jE*i.bytes):=by rw[y];omega
  have fz:(Question.appendCap (f8+n) jE el).forced=false:=rfl;have M:¬(f8+n≤jE):=B;rcases h.mx with⟨im,cW⟩|cW<;> simp [Builtin.append_,run_underlying h.eo,run_underlying cW,eQ h.size,typeInfo,bZ,bU,M,I,J,fz,a0,u,zeroValue,A,newRow,C,cap]
end
section
variable{P:Program}{ty:TypeId}{ρ:Operand→Value}{κ:bq}{s:ah}{w:World}(ba:db κ s w)
theorem ie{t t2:TypeId}{x y:Operand}{z:Value}{w':World}(h:(Builtin.append_ #[t,t2] ty #[ρ x,ρ y]).run P w=.ok z w')(dst:Option Tmp)(pos:String)(after:Array Edge)(guard:Option (Nat×Bool)):
  (execOp ρ ⟨dst,.call {callee:=.builtin .append,args:= #[x,y],argTypes:= #[t,t2]},ty,pos,after,guard⟩).run P w=.ok (.value z) w':=by
 simp [execOp,resolve,invoke,builtin,h]
theorem dK.Aq{κ':bq}{D d i n sz cap b:Nat}{es:List af}{xs:List Value}(cW:d<D)(bZ:i<κ'.n d)(eo:κ'.mb d i es.length=some (⟨b,0,none⟩,cap,sz))(cZ:es.length≤cap)(fi:∀e,e∈es→e.cells.length=sz)(aV:∀e,e∈es→e.low d=true)
  (a1:eH κ' D (es.flatMap af.cells) xs)(iC:∀j,j<(es.flatMap af.cells).length→κ'.F ⟨b,j,none⟩=xs[j]?)(bU:n=es.length):dK κ' D (.bx sz es (.cP (.g d i))) (.slice (some ⟨b,0,none⟩) n cap):=by
 subst bU;refine .bx sz es _ _ _ (fun j=>xs.getD j undef) ⟨cW,bZ,eo⟩ cZ (fun _=>rfl) fi (.inr ⟨d,i,rfl,aV⟩) (fun j cL=>?_) (fun j c a0=>?_)
 ·rw[gu rfl];simp only[bh];rw[iC j cL]
  have:j<xs.length:=by rw[a1.1];exact cL
  simp [List.getD,this]
 ·obtain⟨y,ez,bX⟩:=a1.get a0
  have:xs.getD j undef=y:=by simp [List.getD,ez]
  rw[this];exact bX
include ba
def Form(κ:bq)(s:ah)(w:World)(v:af)(X:Value)(sz:Nat)(es:List af):Prop:=
 (∃fo a,v=.str fo∧X=.string a∧a.data.toList.map UInt8.toNat=fo∧sz=1∧es=fo.map fun b=>.int .u8 (b:Nat))∨
   (∃A c,X=.slice A es.length c∧(A=none→es=[])∧∀a,A=some a→Reads κ (s.aa+1) w a (es.flatMap af.cells))
theorem r0{t t2 el:TypeId}{sz bytes:Nat}{z:Value}(h:ob P t t2 el sz bytes z){x y:Operand}{es new:List af}{base:Option Addr}{u:Nat}{Y:af}(lg:ρ x=.slice base es.length u)(F:Form κ s w Y (ρ y) sz new)(r:∀e,e∈new→e.cells.length=sz)
  (N:(∃A c,ρ x=.slice A es.length c∧(A=none→es=[])∧∀a,A=some a→Reads κ (s.aa+1) w a (es.flatMap af.cells)))(fi:∀e,e∈es→e.cells.length=sz)(pk:u<es.length+new.length)(O:(es.length+new.length)*bytes≤1099511627776){mc l:Loc}{s':ah}(U:s.gU mc (.tok (es.length+new.length))=some (l,s'))
  (aV:∀d i,l.ao s.aa=.g d i→∀e,e∈es++new→e.low d=true):
  dT P (.call {callee:=.builtin .append,args:= #[x,y],argTypes:= #[t,t2]}) ty ρ κ s w (.bx sz (es++new) (.cP l)) s':=by
 obtain⟨V,Z,bU,H⟩:=iW.by U
 obtain⟨hlen,xs,a0,gv⟩:=fE (P:=P) F r new.length (aC _) w.drew (fun _=>rfl);have ab:=(fE (P:=P) F r new.length (aC _) w (fun _=>rfl)).1;obtain⟨_,os,I,B⟩:=fE (P:=P) (X:=ρ x) (v:=.dead) (.inr N) fi es.length (aC _) w.drew (fun _=>rfl);simp only[List.take_length] at gv B;have ac:xs.length=new.length*sz:=by rw[gv.1,fl new sz r]
 have ad:os.length=es.length*sz:=by rw[B.1,fl es sz fi]
 rw[lg] at I;obtain⟨cap,C,J,ae,ag,ai⟩:=jo (ty:=ty) h (base:=base) (f8:=es.length) (jE:=u) ab a0 I ac ad pk O;obtain⟨κ',gZ,g2,aj,n9,iO⟩:=ba.IX (w':=w.drew.alloc (.cells C el)) C el (es.length+new.length) sz cap H ae J rfl rfl rfl rfl;refine⟨_,κ',_,.inl (ie (by rw[lg];exact ai)),g2,gZ,?_⟩;simp only[af.ao,e0.ao,bU];have M:∀e,e∈es++new→e.cells.length=sz:=fun e he=>by
  rcases List.mem_append.1 he with he|he
  ·exact fi e he
  ·exact r e he
 refine dK.Aq (Nat.lt_succ_of_le H.le) aj (by rw[fW];exact n9) (by rw[fW];exact J) M (aV V Z bU) (xs:=os++xs) (by rw[List.flatMap_append];exact(B.append gv).mono g2.k) (fun j cL=>?_) (by rw[fW]);rw[fl _ sz M,fW] at cL;rw[iO j cL,ag j cL]
theorem uk{t t2 el:TypeId}{sz bytes:Nat}{z:Value}(h:ob P t t2 el sz bytes z){x y:Operand}{es new:List af}{base:Option Addr}{r:Nat}{Y:af}(lg:ρ x=.slice base es.length r)(u:dK κ (s.aa+1) (Y.ao s.aa) (ρ y))(iQ:dw s Y=some (sz,new))
  (B:(∃A c,ρ x=.slice A es.length c∧(A=none→es=[])∧∀a,A=some a→Reads κ (s.aa+1) w a (es.flatMap af.cells)))(fi:∀e,e∈es→e.cells.length=sz)(aV:∀e,e∈es→e.bb=true)(pk:r<es.length+new.length)(F:(es.length+new.length)*bytes≤1099511627776){mc l:Loc}{s':ah}(H:s.gU mc (.tok (es.length+new.length))=some (l,s')):
  dT P (.call {callee:=.builtin .append,args:= #[x,y],argTypes:= #[t,t2]}) ty ρ κ s w (.bx sz (es++new) (.cP l)) s':=by
 obtain⟨I,J,M⟩:=kZ ba u iQ;refine r0 ba h lg I M B fi pk F H fun d i _ e he=>af.mw _ _ ?_
 rcases List.mem_append.1 he with he|he
 ·exact aV e he
 ·exact eA.1 J e he
theorem ul{t t2 el:TypeId}{q bytes:Nat}{z:Value}(h:ob P t t2 el q bytes z){x y:Operand}{es new:List af}{Y:af}(O:Form κ s w Y (ρ y) q new)(u:∀e,e∈new→e.cells.length=q)(lh:0<new.length){a:Loc}{s':ah}(lg:dK κ (s.aa+1) (.bx q es (.cP (a.ao s.aa))) (ρ x))
  (H:s.get a=some (.tok es.length))(an:(new.flatMap af.cells).all af.en=true)(I:s.set a (.tok (es.length+new.length))=some s')(ad:rf s a new=true)(ap:(es.length+new.length)*bytes≤1099511627776):
  dT P (.call {callee:=.builtin .append,args:= #[x,y],argTypes:= #[t,t2]}) ty ρ κ s w (.bx q (es++new) (.cP a)) s':=by
 rw[←ah.ic] at H;rw[←ah.lX] at I;rcases lg.hY with⟨_,b2,_⟩|⟨A,cap,dz,e,b2,cZ,aJ,dB,B,ae,ag⟩
 ·cases b2
 cases r:a.ao s.aa with
 |l i=>cases a<;> simp [Loc.ao] at r
 |g d i=>
  rw[r] at H I b2 B;obtain⟨cW,bZ,ai⟩:=b2;have aq:∀e,e∈new→e.low d=true:=by
   cases a with
   |l j=>simp only[Loc.ao,Loc.g.injEq] at r;exact lp.1 (r.1 ▸ ad)
   |g gg j=>simp only[Loc.ao,Loc.g.injEq] at r;exact lp.1 (r.1 ▸ ad)
  have au:∀e,e∈es→e.low d=true:=by
   rcases B with B|⟨gg,hZ,im,B⟩
   ·exact fun e he=>af.mw _ _ (B e he)
   ·cases im;exact B
  obtain⟨b,aK,aL,t1,aM,⟨av,ml,aw,t3,t4,t5⟩,t6,t7⟩:=ba.obj d i _ H;rw[ai] at t1;simp only[bt,fb] at t1;obtain⟨rfl,rfl,rfl⟩:=t1;have J:∀e,e∈es++new→e.cells.length=q:=fun e he=>by
   rcases List.mem_append.1 he with he|he
   ·exact dB e he
   ·exact u e he
  have aj:∀e,e∈es++new→e.low d=true:=fun e he=>by
   rcases List.mem_append.1 he with he|he
   ·exact au e he
   ·exact aq e he
  have ax:Reads κ (s.aa+1) w ⟨b,0,none⟩ (es.flatMap af.cells):=⟨dz,fun j cL=>(ba.jb _ _ (ae j cL)).2,ag⟩;have M:=fl es q dB;by_cases N:es.length+new.length≤cap
  ·
   obtain⟨hlen,xs,a0,gv⟩:=fE (P:=P) O u new.length (aC _) w (fun _=>rfl);simp only[List.take_length] at gv;have U:xs.length=new.length*q:=by rw[gv.1,fl new q u]
   have ay:(es.length+new.length)*q≤av.size:=by rw[t4];exact gn _ N
   rw[fq] at ay;have ar:=ou an gv;have az:=run_storeCells_cells (P:=P) b (es.length*q) xs 0 w (fun j cL=>by rw[gi t3];simp;omega) (fun j cL=>by
    have hu:=t5 (es.length*q+0+j) (by omega);simp only[World.frozen?,t3];rw[Bool.and_eq_false_iff];by_cases ak:aw.1≤es.length*q+0+j
    ·right;simp only[decide_eq_false_iff_not];exact fun h=>hu ⟨ak,h⟩
    ·left;simpa using ak) ar
   have aA:=run_append_fits (ty:=ty) h (base:=some ⟨b,0,none⟩) (f8:=es.length) (jE:=cap) hlen a0 N (w':=w.setCells b (es.length*q) xs) (by
    have aB:(⟨b,0,none⟩:Addr).add (es.length*q)=⟨b,es.length*q,none⟩:=by rw[gu rfl];simp
    simp only[aB];simpa using az)
   obtain⟨κ',gZ,g2,V,n9⟩:=ba.Ot H ai I (by omega) N xs (by rw[U];congr 1;omega);refine⟨_,κ',_,.inl (ie (by rw[e];exact aA)),g2,gZ,?_⟩;simp only[af.ao,e0.ao,r];have hold:eH κ (s.aa+1) (es.flatMap af.cells) ((List.range (es.length*q)).map dz):=by
    refine⟨by simp [M],fun j c x a0 a1=>?_⟩;have cL:j<es.length*q:=by rw[←M];exact(dy.1 a0).1
    have:(List.range (es.length*q))[j]? =some j:=by simp [cL]
    rw[gb,this] at a1;simp only[ep,bt] at a1;exact a1 ▸ ag j c a0
   refine dK.Aq cW (gy bZ (g2.k.n d cW)) (by rw[fW];exact V) (by rw[fW];exact N) J aj (xs:=(List.range (es.length*q)).map dz++xs) (by rw[List.flatMap_append];exact(hold.append gv).mono g2.k) (fun j cL=>?_) (by rw[fW]);rw[fl _ q J,fW,fq] at cL;by_cases Z:j<es.length*q
   ·rw[fB (by simpa using Z)];have ab:=g2.k.F _ _ (ae j (by rw[M];exact Z));rw[gu rfl] at ab;simp only[bh] at ab;rw[ab];simp [Z]
   ·rw[jt (by simp;omega)];obtain⟨m,rfl⟩:∃m,j=es.length*q+m:=⟨j-es.length*q,by omega⟩;have hm:m<xs.length:=by omega
    rw[n9 m xs[m] (eb hm)];simp [hm]
  ·
   obtain⟨hlen,xs,a0,gv⟩:=fE (P:=P) O u new.length (aC _) w.drew (fun _=>rfl);have aD:=(fE (P:=P) O u new.length (aC _) w (fun _=>rfl)).1;obtain⟨_,os,al,ac⟩:=fE (P:=P) (X:=ρ x) (v:=.dead) (.inr ⟨some ⟨b,0,none⟩,cap,e,fun r=>(by cases r),fun f6 r=>(by cases r;exact ax)⟩) dB es.length (aC _) w.drew (fun _=>rfl);simp only[List.take_length] at gv ac;have U:xs.length=new.length*q:=by rw[gv.1,fl new q u]
   have aE:os.length=es.length*q:=by rw[ac.1,M]
   rw[e] at al;obtain⟨aF,C,am,aG,aH,aI⟩:=jo (ty:=ty) h (base:=some ⟨b,0,none⟩) (f8:=es.length) (jE:=cap) aD a0 al U aE (by omega) ap;obtain⟨κ',gZ,g2,V,n9⟩:=ba.Ou (w':=w.drew.alloc (.cells C el)) H I (by omega) C el aF q aG am rfl rfl rfl rfl;refine⟨_,κ',_,.inl (ie (by rw[e];exact aI)),g2,gZ,?_⟩;simp only[af.ao,e0.ao,r];refine dK.Aq cW (gy bZ (g2.k.n d cW)) (by rw[fW];exact V) (by rw[fW];exact am) J aj (xs:=os++xs) (by rw[List.flatMap_append];exact(ac.append gv).mono g2.k) (fun j cL=>?_) (by rw[fW]);rw[fl _ q J,fW] at cL;rw[n9 j cL,aH j cL]
theorem qS{E:Env}(bB:E.F=.not){k:af→ah→ai}{r:ai}(bA:r≠.fail){t t2 el:TypeId}{sz bytes:Nat}{z:Value}(h:ob P t t2 el sz bytes z){x y:Operand}{X Y:af}
  (lg:dK κ (s.aa+1) (X.ao s.aa) (ρ x))(O:dK κ (s.aa+1) (Y.ao s.aa) (ρ y)){mc:Loc}(aV:hd E s k sz bytes mc X Y=r):∃f7 s',k f7 s'=r∧dT P (.call {callee:=.builtin .append,args:= #[x,y],argTypes:= #[t,t2]}) ty ρ κ s w f7 s':=by
 unfold hd at aV;cases iQ:dw s Y with
 |none=>rw[iQ] at aV;exact absurd aV.symm bA
 |some p=>
  obtain⟨ag,new⟩:=p;rw[iQ] at aV;obtain⟨U,aj,N⟩:=kZ ba O iQ;cases X<;> simp only[af.ao] at lg<;> simp only[bB,a2.not] at aV<;> try exact absurd aV.symm bA
  case bx q es g=>
   obtain⟨H,u⟩:=c9 aV bA;clear aV;rw[bo,bo] at H;have V:ag=sz:=dq H.1.1;have Z:q=sz:=dq H.1.2;have ab:=d9 H.2;subst V;subst Z;cases new with
   |nil=>
    simp only at u;refine⟨_,_,u,?_⟩;obtain⟨hlen,xs,a0,gv⟩:=fE (P:=P) U N 0 (aC _) w (fun _=>rfl);have an:xs=[]:=jj (by rw[gv.1];rfl);subst an
    have:∃A cap,ρ x=.slice A es.length cap∧es.length≤cap:=by
     rcases lg.hY with⟨rfl,_,e⟩|⟨a,cap,_,e,_,cZ,_⟩
     ·exact⟨none,0,e,aC _⟩
     ·exact⟨some a,cap,e,cZ⟩
    obtain⟨A,cap,e,cZ⟩:=this;have ac:=run_append_fits (ty:=ty) h (base:=A) (f8:=es.length) (jE:=cap) hlen a0 (by simpa using cZ) (w':=w) (by cases A with
     |none=>rfl
     |some a=>simp [storeCells])
    refine bQ ba _ (ie (by rw[e];exact ac)) ?_;simp only[af.ao,ca,Nat.add_zero];rw[←e];exact lg
   |cons ap Uq=>
    simp only at u;generalize aq:ap::Uq=new at *;have lh:0<new.length:=by rw[←aq];simp
    cases g with
    |any=>exact absurd u.symm bA
    |nil=>
     simp only at u;cases I:s.gU mc (.tok (es.length+new.length)) with
     |none=>rw[I] at u;exact absurd u.symm bA
     |some p=>
     obtain⟨l,ar⟩:=p;rw[I] at u;refine⟨_,_,u,?_⟩;rcases lg.hY with⟨rfl,_,e⟩|⟨a,cap,_,e,b2,_⟩
     ·exact uk ba h e O iQ ⟨none,0,e,fun _=>rfl,fun a B=>(by cases B)⟩ (fun e he=>by simp at he) (fun e he=>by simp at he) (by simpa using lh) ab I
     ·simp [e0.ao,ja] at b2
    |exact=>
     simp only at u;cases I:s.gU mc (.tok (es.length+new.length)) with
     |none=>rw[I] at u;exact absurd u.symm bA
     |some p=>
     obtain⟨l,ar⟩:=p;rw[I] at u;refine⟨_,_,u,?_⟩;rcases lg.hY with⟨_,b2,_⟩|⟨a,cap,dz,e,b2,cZ,aK,dB,ak,al,au⟩
     ·simp [e0.ao] at b2
     ·simp only[e0.ao,ja] at b2;subst b2;exact uk ba h e O iQ ⟨some a,_,e,fun B=>(by cases B),fun f6 B=>(by cases B;exact⟨dz,fun j cL=>(ba.jb _ _ (al j cL)).2,au⟩)⟩ dB (ak.left fun d j e=>(by cases e)) (by omega) ab I
    |cP a=>
     simp only at u
     ·rw[←ah.ic] at u;cases B:a.ao s.aa with
      |l i=>cases a<;> simp [Loc.ao] at B
      |g d i=>
       rw[B] at u;cases ad:s.get (.g d i) with
       |none=>rw[ad] at u;exact absurd u.symm bA
       |some o=>
        rw[ad] at u;cases o<;> try exact absurd u.symm bA
        rename_i n;obtain⟨ae,M⟩:=c9 u bA;rw[bo] at ae;have av:n=es.length:=dq ae.1;subst av;rw[←ah.lX,B] at M;cases J:s.set (.g d i) (.tok (es.length+new.length)) with
        |none=>rw[J] at M;exact absurd M.symm bA
        |some s'=>
         rw[J] at M;refine⟨_,_,M,?_⟩;have aw:s.get a=some (.tok es.length):=by rw[←ah.ic,B];exact ad
         have ax:s.set a (.tok (es.length+new.length))=some s':=by rw[←ah.lX,B];exact J
         refine ul ba h U N lh lg aw ae.2 ax ?_ ab;unfold rf;cases a<;> exact af.jh _ _ aj
  case cH a off len cap q=>
   rw[←ah.ic] at aV;cases B:a.ao s.aa with
   |l i=>cases a<;> simp [Loc.ao] at B
   |g d i=>
    rw[B] at aV lg;obtain⟨mv,e,cW,bZ,aL,wk⟩:=lg.km;cases b2:s.get (.g d i) with
    |none=>rw[b2] at aV;exact absurd aV.symm bA
    |some o=>
     rw[b2] at aV;cases o<;> try exact absurd aV.symm bA
     rename_i cs;obtain⟨H,u⟩:=c9 aV bA;simp only[bo] at H;obtain⟨⟨⟨⟨⟨ay,az⟩,aA⟩,aB⟩,aM⟩,aD⟩:=H;have V:ag=sz:=dq ay;have Z:q=sz:=dq az;subst V;subst Z;have bS:=d9 aA;have dB:=d9 aB;rw[←ah.lX,B] at u;have am:=fl new q N;cases J:s.set (.g d i) (.cells (dE cs (off+len*q) (new.flatMap af.cells))) with
     |none=>rw[J] at u;exact absurd u.symm bA
     |some s'=>
      rw[J] at u;refine⟨_,_,u,?_⟩;obtain⟨hlen,xs,a0,gv⟩:=fE (P:=P) U N new.length (aC _) w (fun _=>rfl);simp only[List.take_length] at gv;have hmul:off+(len+new.length)*q=off+len*q+new.length*q:=by rw[fq];omega
      have aN:xs.length=new.length*q:=by rw[gv.1,am]
      have py:af.aX (new.flatMap af.cells)=true:=eA.2 (fun c a0=>by obtain⟨im,aE,aF⟩:=List.mem_flatMap.1 a0;exact iD (eA.1 aj im aE) aF)
      have aG:=nJ B gv (by simp [ah.gL,py]);obtain⟨gZ,g2⟩:=ba.store b2 J aG (by rw[am];omega);have aH:=oa (P:=P) ba b2 (off:=off+len*q) (xs:=xs) (by omega) (ou aD gv);have aI:mv=cap:=by
       rcases wk with h|⟨ak,al,_⟩
       ·exact h
       ·omega
      subst aI;have ac:=run_append_fits (ty:=ty) h (base:=some ⟨κ.loc d i,off,none⟩) (f8:=len) (jE:=mv) hlen a0 bS (w':=w.setCells (κ.loc d i) (off+len*q) xs) (by
       have aJ:(⟨κ.loc d i,off,none⟩:Addr).add (len*q)=⟨κ.loc d i,off+len*q,none⟩:=by rw[gu rfl]
       simp only[aJ];exact aH)
      refine⟨_,κ,_,.inl (ie (by rw[e];exact ac)),g2,gZ,?_⟩;simp only[af.ao,B];exact .cH d i off _ mv mv q cW bZ bS (.inl rfl)
theorem wl{E:Env}(bB:E.F=.not){k:af→ah→ai}{r:ai}(bA:r≠.fail){t t2 el:TypeId}{sz bytes:Nat}{z:Value}(h:ob P t t2 el sz bytes z){x y:Operand}{X Y:af}
  (lg:dK κ (s.aa+1) (X.ao s.aa) (ρ x))(U:dK κ (s.aa+1) (Y.ao s.aa) (ρ y)){mc:Loc}(aV:h3 E s k sz bytes mc X Y=r):∃f7 s',k f7 s'=r∧dT P (.call {callee:=.builtin .append,args:= #[x,y],argTypes:= #[t,t2]}) ty ρ κ s w f7 s':=by
 unfold h3 at aV;cases Y<;> simp only[af.ao] at U<;> simp only[bB,a2.not] at aV<;> try exact absurd aV.symm bA
 rename_i ac new ap;cases X<;> simp only[af.ao] at lg<;> try exact absurd aV.symm bA
 rename_i q es g;obtain⟨J,A⟩:=c9 aV bA;clear aV;rw[bo,bo] at J;have ad:ac=sz:=dq J.1.1;have ae:q=sz:=dq J.1.2;have V:=d9 J.2;subst ad;subst ae;have ag:Form κ s w .dead (ρ y) q new∧∀e,e∈new→e.cells.length=q:=by
  rcases U.hY with⟨rfl,_,e⟩|⟨a,cap,dz,e,_,_,_,dB,_,aj,ak⟩
  ·exact⟨.inr ⟨none,0,e,fun _=>rfl,fun a H=>(by cases H)⟩,fun e he=>(by simp at he)⟩
  ·exact⟨.inr ⟨some a,cap,e,fun H=>(by cases H),fun f6 H=>(by cases H;exact⟨dz,fun j cL=>(ba.jb _ _ (aj j cL)).2,ak⟩)⟩,dB⟩
 obtain⟨Z,ab⟩:=ag;cases new with
 |nil=>exact absurd A.symm bA
 |cons al Uq=>
  simp only at A;generalize am:al::Uq=new at *;have lh:0<new.length:=by rw[←am];simp
  cases g with
  |any=>exact absurd A.symm bA
  |exact=>exact absurd A.symm bA
  |nil=>
   simp only at A;obtain⟨I,B⟩:=c9 A bA;cases u:s.gU mc (.tok (es.length+new.length)) with
   |none=>rw[u] at B;exact absurd B.symm bA
   |some p=>
   obtain⟨l,aq⟩:=p;rw[u] at B;refine⟨_,_,B,?_⟩;rcases lg.hY with⟨rfl,_,e⟩|⟨a,cap,_,e,b2,_⟩
   ·refine r0 ba h e Z ab ⟨none,0,e,fun _=>rfl,fun a H=>(by cases H)⟩ (fun e he=>by simp at he) (by simpa using lh) V u fun d i bU e he=>?_
    simp only[List.nil_append] at he;have cW:rf s mc new=true→∀e,e∈new→e.low d=true:=by
     intro I;cases mc with
     |l j=>simp only[ah.gU,bt,fb] at u;obtain⟨rfl,_⟩:=u;simp only[Loc.ao,Loc.g.injEq] at bU;exact lp.1 (bU.1 ▸ I)
     |g gg j=>
      simp only[ah.gU] at u;split at u
      ·rename_i ar;simp only[bt,fb] at u;obtain⟨rfl,_⟩:=u;simp only[Loc.ao,Loc.g.injEq] at bU
       have:gg=d:=by omega
       exact lp.1 (this ▸ I)
      ·split at u
       ·split at u
        ·simp only[bt,fb] at u;obtain⟨rfl,_⟩:=u;simp only[Loc.ao,Loc.g.injEq] at bU;exact lp.1 (bU.1 ▸ I)
        ·cases u
       ·cases u
    exact cW I e he
   ·simp [e0.ao,ja] at b2
  |cP a=>
   simp only at A;cases N:s.get a with
   |none=>rw[N] at A;exact absurd A.symm bA
   |some o=>
    rw[N] at A;cases o<;> try exact absurd A.symm bA
    rename_i n;obtain⟨M,B⟩:=c9 A bA;rw[bo,bo] at M;have an:n=es.length:=dq M.1.1;subst an;cases O:s.set a (.tok (es.length+new.length)) with
    |none=>rw[O] at B;exact absurd B.symm bA
    |some s'=>rw[O] at B;exact⟨_,_,B,ul ba h Z ab lh lg N M.1.2 O M.2 V⟩
theorem rn{G:Nat→af}{ap:Nat→af}{a:Act}(cd:yk κ s ap a)(d8:kQ κ G){t el:TypeId}{sz:Nat}{z:List af}{er:List bN}{r:List Operand}(eo:P.underlying t=some (.slice el))(fi:fw P el=some sz)(gA:ku P el z=true)(A:z.length=sz)
  (hp:¬(r.length*sz>2^24))(c0:dH er r=true){es:List af}(y:er.map (fun x=>(au G ap x).ao s.aa)=es)(aV:af.j4 s.aa es=true)(bX:∀e,e∈es→e.e9=true∧e.cells.length=sz):
  dT P (.buildSlice t r.length (r.zipIdx.map fun p=>(p.2,p.1)).toArray) ty a.eval κ s w (.bx sz es (.cP (.l s.own.length))) (s.new (.tok es.length)):=by
 obtain⟨v,e,ar,_,_⟩:=lx gA w;have N:v.cells.size=sz:=by rw[←Array.length_toList,(ar κ 0).1,A]
 have hlen:es.length=r.length:=by
  have:∀(er:List bN) (r:List Operand),dH er r=true→er.length=r.length:=by
   intro er
   induction er with
   |nil=>intro r h;cases r<;> simp [dH] at h ⊢
   |cons p er B=>intro r h;cases r with
    |nil=>simp [dH] at h
    |cons q r=>simp only[dH,bo] at h;simp [B r h.2]
  simp [←y,this er r c0]
 obtain⟨xs,im,gv⟩:=nI cd d8 sz er r 0 es [] ((Array.range (r.length*sz)).map (v.cells[· % v.cells.size]!)).toList c0 y.symm bX (by simp) (by simp);have F:∀dst pos after guard,(execOp a.eval ⟨dst,.buildSlice t r.length (r.zipIdx.map fun p=>(p.2,p.1)).toArray,ty,pos,after,guard⟩).run P w=.ok (.value (.slice (some ⟨w.heap.size,0,none⟩) r.length r.length)) (w.alloc (.cells xs.toArray el)):=by
  intro dst pos after guard;simp only[List.nil_append,Array.toArray_toList] at im;have H:=md (parts:=((r.zipIdx.map fun p=>(p.2,p.1)).toArray.map fun p=>(p.1,a.eval p.2))) eo fi e hp (xs:=xs.toArray) (by rw[Array.toList_map,List.map_map];exact im)
  have a1:∀(o:Oper),o.op=.buildSlice t r.length (r.zipIdx.map fun p=>(p.2,p.1)).toArray→execOp a.eval o=(do pure (.value (←Instr.buildSlice t r.length ((r.zipIdx.map fun p=>(p.2,p.1)).toArray.map fun p=>(p.1,a.eval p.2)))):Sem Next):=by intro o I;unfold execOp;rw[I]
  rw[a1 _ rfl,Sem.run_bind,H];rfl
 have u:∀e,e∈es→e.cells.length=sz:=fun e he=>(bX e he).2
 have J:xs.length=es.length*sz:=by rw[gv.1,fl _ sz u]
 obtain⟨κ',gZ,g2,M,n9,iO⟩:=ba.IX (w':=w.alloc (.cells xs.toArray el)) xs.toArray el es.length sz es.length (iW.new s _) (by simpa using J) (aC _) rfl rfl rfl rfl;refine⟨_,κ',_,.inl F,g2,gZ,?_⟩;simp only[af.ao,e0.ao,Loc.ao];rw[←hlen];refine dK.Aq (Nat.lt_succ_self _) M n9 (aC _) u (lp.1 aV) (xs:=xs) (gv.mono g2.k) (fun j cL=>?_) rfl;rw[fl _ sz u] at cL;rw[iO j cL];simp
theorem rp{G:Nat→af}{ap:Nat→af}{a:Act}(cd:yk κ s ap a)(d8:kQ κ G){t el:TypeId}{sz:Nat}{z:List af}{er:List bN}{r:List Operand}(eo:P.underlying t=some (.slice el))(fi:fw P el=some sz)(gA:ku P el z=true)(y:z.length=sz)
  (hp:¬(r.length*sz>2^24))(c0:dH er r=true){es:List af}(u:er.map (fun x=>(au G ap x).ao s.aa)=es)(bX:∀e,e∈es→e.e9=true∧e.cells.length=sz):
  dT P (.buildSlice t r.length (r.zipIdx.map fun p=>(p.2,p.1)).toArray) ty a.eval κ s w (.cH (.l s.own.length) 0 es.length es.length sz) (s.new (.cells (es.flatMap af.cells))):=by
 obtain⟨v,e,ar,_,_⟩:=lx gA w;have J:v.cells.size=sz:=by rw[←Array.length_toList,(ar κ 0).1,y]
 have hlen:es.length=r.length:=by
  have:∀(er:List bN) (r:List Operand),dH er r=true→er.length=r.length:=by
   intro er
   induction er with
   |nil=>intro r h;cases r<;> simp [dH] at h ⊢
   |cons p er A=>intro r h;cases r with
    |nil=>simp [dH] at h
    |cons q r=>simp only[dH,bo] at h;simp [A r h.2]
  simp [←u,this er r c0]
 obtain⟨xs,im,gv⟩:=nI cd d8 sz er r 0 es [] ((Array.range (r.length*sz)).map (v.cells[· % v.cells.size]!)).toList c0 u.symm bX (by simp) (by simp);have B:∀dst pos after guard,(execOp a.eval ⟨dst,.buildSlice t r.length (r.zipIdx.map fun p=>(p.2,p.1)).toArray,ty,pos,after,guard⟩).run P w=.ok (.value (.slice (some ⟨w.heap.size,0,none⟩) r.length r.length)) (w.alloc (.cells xs.toArray el)):=by
  intro dst pos after guard;simp only[List.nil_append,Array.toArray_toList] at im;have F:=md (parts:=((r.zipIdx.map fun p=>(p.2,p.1)).toArray.map fun p=>(p.1,a.eval p.2))) eo fi e hp (xs:=xs.toArray) (by rw[Array.toList_map,List.map_map];exact im)
  have a1:∀(o:Oper),o.op=.buildSlice t r.length (r.zipIdx.map fun p=>(p.2,p.1)).toArray→execOp a.eval o=(do pure (.value (←Instr.buildSlice t r.length ((r.zipIdx.map fun p=>(p.2,p.1)).toArray.map fun p=>(p.1,a.eval p.2)))):Sem Next):=by intro o H;unfold execOp;rw[H]
  rw[a1 _ rfl,Sem.run_bind,F];rfl
 obtain⟨κ',gZ,g2,I,n9⟩:=ba.pJ (es.flatMap af.cells) xs.toArray el (by simpa using gv) (w':=w.alloc (.cells xs.toArray el)) rfl rfl rfl rfl;refine⟨_,κ',_,.inl B,g2,gZ,?_⟩;simp only[af.ao,Loc.ao];rw[←I,←hlen];exact .cH _ _ _ _ _ _ _ (Nat.lt_succ_self _) n9 (aC _) (.inl rfl)
end
section
variable{P:Program}{ty:TypeId}{ρ:Operand→Value}{κ:bq}{s:ah}{w:World}(ba:db κ s w)
include ba
theorem Cm{E:Env}(bB:E.F=.not){k:af→ah→ai}{r:ai}(bA:r≠.fail){t t2 el:TypeId}{sz:Nat}(eo:P.underlying t=some (.slice el))(gA:fw P el=some sz){x y:Operand}{X Y:af}(fz:∀a off len cap q,X=.cH a off len cap q→q=sz)
  (lg:dK κ (s.aa+1) (X.ao s.aa) (ρ x))(M:dK κ (s.aa+1) (Y.ao s.aa) (ρ y))(aV:copyV E s k X Y=r):∃f7 s',k f7 s'=r∧dT P (.call {callee:=.builtin .copy,args:= #[x,y],argTypes:= #[t,t2]}) ty ρ κ s w f7 s':=by
 cases X<;> simp only[af.ao] at lg<;> simp only[copyV] at aV<;> try exact absurd aV.symm bA
 rename_i a off len cap q;obtain rfl:=fz _ _ _ _ _ rfl;cases iQ:dw s Y with
 |none=>rw[iQ] at aV;exact absurd aV.symm bA
 |some p=>
  obtain⟨h,es⟩:=p;rw[iQ] at aV;obtain⟨N,O,H⟩:=kZ ba M iQ;simp only at aV;rw[←ah.ic] at aV;cases A:a.ao s.aa with
  |l i=>cases a<;> simp [Loc.ao] at A
  |g d i=>
   rw[A] at aV lg;obtain⟨mv,e,cW,bZ,_⟩:=lg.km;cases b2:s.get (.g d i) with
   |none=>rw[b2] at aV;exact absurd aV.symm bA
   |some o=>
    rw[b2] at aV;cases o<;> try exact absurd aV.symm bA
    rename_i cs;simp only[bB,a2.not] at aV;obtain⟨I,u⟩:=c9 aV bA;simp only[bo] at I;obtain⟨⟨U,V⟩,Z⟩:=I;have ab:h=q:=dq U;subst ab;have aw:=d9 V;rw[←ah.lX,A] at u;obtain⟨hlen,xs,a0,gv⟩:=fE (P:=P) N H (min es.length len) (Nat.min_le_left _ _) w (fun _=>rfl);have J:((es.take (min es.length len)).flatMap af.cells).length=min es.length len*h:=by rw[fl _ h (fun e he=>H e (List.mem_of_mem_take he)),List.length_take];congr 1;omega
    have hmul:min es.length len*h≤len*h:=gn _ (Nat.min_le_right _ _);have py:af.aX ((es.take (min es.length len)).flatMap af.cells)=true:=eA.2 (fun c a0=>by obtain⟨im,ac,ad⟩:=List.mem_flatMap.1 a0;exact iD (eA.1 O im (List.mem_of_mem_take ac)) ad)
    cases B:s.set (.g d i) (.cells (dE cs off ((es.take (min es.length len)).flatMap af.cells))) with
    |none=>rw[B] at u;exact absurd u.symm bA
    |some s'=>
     rw[B] at u;refine⟨_,_,u,?_⟩;have aj:xs.length=min es.length len*h:=by rw[gv.1,J]
     have ae:=nJ A gv (by simp [ah.gL,py]);obtain⟨gZ,g2⟩:=ba.store b2 B ae (by rw[J];omega);have ag:=oa (P:=P) ba b2 (off:=off) (xs:=xs) (by omega) (ou Z gv);have ak:Nat.min es.length len=min es.length len:=rfl;refine⟨.int .i64 (min es.length len:Nat),κ,_,.inl (fun _ _ _ _=>?_),g2,gZ,.int _ _⟩;simp only[execOp,resolve,invoke,builtin,List.map_toArray,fc,List.map_nil,Sem.run_bind,Sem.run_pure,Result.andThen_ok]
     have:(Builtin.copy_ #[t,t2] ty #[ρ x,ρ y]).run P w=.ok (goInt (min es.length len:Nat)) (w.setCells (κ.loc d i) off xs):=by simp [Builtin.copy_,run_underlying eo,e,hlen,eQ gA,a0,ag]
     simp [this,goInt]
theorem r1{E:Env}(bB:E.F=.not){k:af→ah→ai}{r:ai}(bA:r≠.fail){o:Op}{x:Operand}(I:∀dst pos after guard,(execOp ρ ⟨dst,o,ty,pos,after,guard⟩).run P w=.ok (.value (ρ x)) w){v:af}
  (a1:dK κ (s.aa+1) (v.ao s.aa) (ρ x))(aV:nG E s k v=r):∃f7 s',k f7 s'=r∧dT P o ty ρ κ s w f7 s':=by
 cases v<;> simp only[nG] at aV<;> try exact absurd aV.symm bA
 rename_i a off len cap sz;cases a with
 |g d i=>exact absurd aV.symm bA
 |l i=>
  simp only[af.ao,Loc.ao] at a1;obtain⟨mv,e,cW,bZ,u6,wk⟩:=a1.km;have J:s.own[i]? =s.get (.g s.aa i):=by simp [ah.get]
  simp only at aV;rw[J] at aV;cases b2:s.get (.g s.aa i) with
  |none=>rw[b2] at aV;exact absurd aV.symm bA
  |some M=>
   rw[b2] at aV;cases M<;> try exact absurd aV.symm bA
   rename_i cs;simp only[bB,a2.not] at aV;obtain⟨u,N⟩:=c9 aV bA;simp only[bo,Bool.not_eq_true'] at u;have gA:sz≠0:=fun eO=>by rw[eO] at u;simp at u
   have hle:=d9 u.1.2;obtain⟨C,el,jA,Z,B,O,ls⟩:=ba.vW (s':={s with own:=s.own.set i .gone}) b2 (by simp [ah.set]);refine⟨_,_,N,ρ x,_,_,.inl I,ls,O,?_⟩;rw[e];simp only[af.ao];have U:(if len=cap then e0.exact else e0.any).ao s.aa=(if len=cap then e0.exact else e0.any):=by split<;> rfl
   rw[U];obtain⟨H,V⟩:=kY sz gA len (cs.drop off) (by simp;omega);have bU:cs.length≤C.size:=by have:=B.1;simp at this;omega
   have py:len=cap→mv=cap:=fun h=>by rcases wk with ar|⟨ar,aw,_⟩<;> omega
   have key:dK (κ.freeze (κ.loc s.aa i) 0 C) (s.aa+1) (.bx sz (chunk sz len (cs.drop off)) (if len=cap then e0.exact else e0.any)) (.slice (some ⟨κ.loc s.aa i,off,none⟩) (chunk sz len (cs.drop off)).length mv):=by
    refine .bx sz _ _ _ _ (fun j=>C.getD (off+j) undef) ?_ (by rw[fK];exact u6) (fun _=>rfl) V (.inl fun e he=>eA.1 u.1.1 e he) (fun j cL=>?_) (fun j c a0=>?_)
    ·by_cases h:len=cap
     ·simp [h,ja,fK,py h]
     ·simp [h,ja]
    ·rw[H] at cL;simp at cL;have A:off+j<C.size:=by omega
     rw[gu rfl];show(κ.freeze (κ.loc s.aa i) 0 C).F ⟨κ.loc s.aa i,off+j,none⟩=_;rw[oS (Nat.zero_le _) A];simp [Array.getD,A]
    ·rw[H,List.getElem?_take] at a0;split at a0
     ·rw[List.getElem?_drop] at a0;obtain⟨y,ez,bX⟩:=B.get a0;have A:off+j<cs.length:=(dy.1 a0).1
      have:C.getD (off+j) undef=y:=by
       rw[List.getElem?_take,if_pos A] at ez;have Y:C[off+j]? =some y:=by simpa using ez
       simp [Array.getD_eq_getD_getElem?,Y]
      rw[this];exact bX.mono ls.k
     ·cases a0
   rw[fK] at key;exact key
theorem r2{E:Env}(bB:E.F=.not){k:af→ah→ai}{r:ai}(bA:r≠.fail){src dst el:TypeId}{x:Operand}{v:af}(A:P.underlying src=some .string)(B:P.underlying dst=some (.slice el))(iQ:P.underlying el=some (.int .u8))
  (a1:dK κ (s.aa+1) (v.ao s.aa) (ρ x))(aV:hL E s k v=r):∃f7,k f7 s=r∧dT P (.convert src dst x) ty ρ κ s w f7 s:=by
 cases v<;> simp only[af.ao] at a1<;> simp only[hL,bB,a2.not] at aV<;> try exact absurd aV.symm bA
 rename_i fo;refine⟨_,aV,?_⟩;obtain⟨a,ex,u⟩:=a1.iF;have fi:a.size=fo.length:=by have:=congrArg List.length u;rw[d0,Array.length_toList] at this;exact this
 let cap:=grownCap w a.size 0 el
 let C:Array Value:=bytesRow a cap
 have pk:a.size≤cap:=by simp only[cap,grownCap,Question.cut];omega
 have J:C.size=cap:=by
  simp only[C,bytesRow,Array.size_append,Array.size_map,Array.size_replicate]
  have:a.data.size=a.size:=rfl;omega
 have e:=run_bytes_of_string (P:=P) w src dst el a A B iQ;obtain⟨gZ,g2⟩:=ba.rT (w':=w.drew.alloc (.cells C el (C.size,C.size+1))) C el (C.size,C.size+1) rfl rfl rfl rfl;refine⟨.slice (some ⟨w.heap.size,0,none⟩) a.size cap,_,_,.inl (fun _ _ _ _=>?_),g2,gZ,?_⟩
 ·simp only[execOp,ex];simp [e,C,cap]
 ·simp only[af.ao,e0.ao];have y:(fo.map fun b=>af.int .u8 (b:Nat)).flatMap af.cells=fo.map fun b=>af.int .u8 (b:Nat):=by
   clear aV fi u a1
   induction fo with
   |nil=>rfl
   |cons x l H=>simp [List.flatMap_cons,H,af.cells]
  have yF:(fo.map fun b=>af.int .u8 (b:Nat)).length=a.size:=by rw[d0,fi]
  rw[←yF];refine .bx 1 _ .any _ _ (fun j=>C.getD j undef) trivial (by rw[yF];exact pk) (fun _=>rfl) (fun e he=>?_) (.inl fun e he=>?_) (fun j cL=>?_) (fun j c a0=>?_)
  ·obtain⟨b,_,rfl⟩:=List.mem_map.1 he;rfl
  ·obtain⟨b,_,rfl⟩:=List.mem_map.1 he;rfl
  ·rw[y,yF] at cL;rw[gu rfl];simp only[bh];rw[oS (Nat.zero_le _) (by omega)];simp [Array.getD,show j<C.size by omega]
  ·rw[y,gb] at a0;cases h:fo[j]? with
   |none=>rw[h] at a0;cases a0
   |some b=>
    rw[h] at a0;simp only[ep,bt] at a0;subst a0;rw[←u,gb] at h;cases fz:a.data.toList[j]? with
    |none=>rw[fz] at h;cases h
    |some q=>
     rw[fz] at h;simp only[ep,bt] at h;have cL:j<a.data.size:=by have:=(dy.1 fz).1;simpa using this
     have:C[j]? =some (.int .u8 q.toNat):=by
      have I:a.data[j]? =some q:=by simpa using fz
      show(a.data.map (fun b=>Value.int .u8 b.toNat)++Array.replicate (cap-a.size) (.int .u8 0))[j]? =_;rw[Array.getElem?_append_left (by rw[Array.size_map];exact cL),Array.getElem?_map,I];rfl
     simp only[Array.getD_eq_getD_getElem?,this,Option.getD_some,h];exact .int _ _
end
theorem qT:∀(es:List af) (fo:List Nat),iz es=some fo→∃hO:List Int,es=hO.map (af.int .u8)∧fo=hO.map Int.toNat∧∀n,n∈hO→n.toNat<256
 |[],fo,h=>by simp only[iz,bt] at h;subst h;exact⟨[],rfl,rfl,fun _ cZ=>by cases cZ⟩
 |e::es,fo,h=>by
  unfold iz at h;split at h
  ·rename_i r;simp at r
  ·rename_i n A r;simp only[List.cons.injEq] at r;obtain⟨rfl,rfl⟩:=r;split at h
   ·rename_i y;cases u:iz es with
    |none=>rw[u] at h;cases h
    |some l=>
     rw[u] at h;simp only[ep,bt] at h;subst h;obtain⟨hO,ar,aw,bS⟩:=qT es l u;exact⟨n::hO,by rw[ar];rfl,by rw[aw];rfl,fun m hm=>by
      rcases List.mem_cons.1 hm with rfl |hm
      ·exact y
      ·exact bS m hm⟩
   ·cases h
  ·cases h
theorem foldl_push:∀(hO:List Int) (s:ByteArray),(hO.foldl (fun r n=>r.push (UInt8.ofNat n.toNat)) s).data.toList=s.data.toList++hO.map fun n=>UInt8.ofNat n.toNat
 |[],s=>by simp
 |n::hO,s=>by simp only[List.foldl_cons];rw[foldl_push hO];simp [ByteArray.push]
section
variable{P:Program}{ty:TypeId}{ρ:Operand→Value}{κ:bq}{s:ah}{w:World}(ba:db κ s w)
include ba
theorem r3{E:Env}(bB:E.F=.not){k:af→ah→ai}{r:ai}(bA:r≠.fail){src dst el:TypeId}{x:Operand}{v:af}(y:P.underlying src=some (.slice el))(iQ:P.underlying el=some (.int .u8))(B:P.underlying dst=some .string)
  (a1:dK κ (s.aa+1) (v.ao s.aa) (ρ x))(aV:g3 E s k v=r):∃f7,k f7 s=r∧dT P (.convert src dst x) ty ρ κ s w f7 s:=by
 have eu:∀fo,v≠.str fo:=fun fo h=>by subst h;exact absurd aV.symm bA
 have iP:(match dw s v with
  |some (_,es)=>rL E s k ((iz es).map .str)
  |none=>.fail)=r:=by
  unfold g3 at aV;split at aV
  ·exact absurd aV.symm bA
  ·exact aV
 cases e:dw s v with
 |none=>rw[e] at iP;exact absurd iP.symm bA
 |some p=>
  obtain⟨z,es⟩:=p;rw[e] at iP;simp only at iP;cases u:iz es with
  |none=>rw[u] at iP;exact absurd iP.symm bA
  |some fo=>
   rw[u] at iP;simp only[ep,rL,bB,a2.not] at iP;refine⟨_,iP,?_⟩;obtain⟨hO,ar,aw,bS⟩:=qT es fo u;obtain⟨N,_,_⟩:=kZ ba a1 e;rcases N with⟨O,a,rfl,_⟩|⟨A,c,lg,H,I⟩
   ·exact absurd rfl (eu O)
   have J:es.flatMap af.cells=hO.map (af.int .u8):=by
    rw[ar];clear ar aw bS u e I H lg
    induction hO with
    |nil=>rfl
    |cons n hO U=>simp [List.flatMap_cons,U,af.cells]
   have hlen:es.length=hO.length:=by rw[ar,d0]
   have M:(hO.map fun n=>UInt8.ofNat n.toNat).map UInt8.toNat=fo:=by rw[aw,List.map_map];refine List.map_congr_left (fun n cZ=>?_);simp only[Function.comp,UInt8.toNat_ofNat'];exact hT (bS n cZ)
   cases A with
   |none=>
    have:es=[]:=H rfl;have V:hO=[]:=jj (by rw[←hlen,this];rfl);subst V;refine bQ ba (.string .empty) (fun _ _ _ _=>?_) ?_
    ·simp only[execOp,lg];have dn:=run_convert_bytes_string (P:=P) w src dst el none es.length c y iQ B;have Y:(Conv.bytesToString (.slice none es.length c)).run P w=.ok (.string .empty) w:=by simp [Conv.bytesToString]
     rw[Y] at dn;simp [dn]
    ·exact .str _ _ (by rw[←M];rfl)
   |some a=>
    obtain⟨dz,px,rk⟩:=I a rfl;have Z:∀j v,(hO.map (Value.int .u8))[j]? =some v→w.cell? (a.add j)=some v:=fun j v cL=>by
     rw[gb] at cL;cases fz:hO[j]? with
     |none=>rw[fz] at cL;cases cL
     |some n=>
      rw[fz] at cL;simp only[ep,bt] at cL;have vX:=(dy.1 fz).1;rw[px j (by rw[J,d0];exact vX)]
      have:=rk j (.int .u8 n) (by rw[J,gb,fz];rfl);rw[this.eP,←cL]
    have bU:=run_loadCells_list (P:=P) w a (hO.map (Value.int .u8)) Z;rw[d0,←hlen] at bU;refine bQ ba _ (fun _ _ _ _=>?_) (.str _ (hO.foldl (fun r n=>r.push (UInt8.ofNat n.toNat)) ByteArray.empty) ?_)
    ·simp only[execOp,lg];have dn:=run_convert_bytes_string (P:=P) w src dst el (some a) es.length c y iQ B;rw[run_bytesToString w a es.length c hO bU] at dn;simp [dn]
    ·rw[foldl_push];rw[List.map_append,M];rfl
end
def li:yo→TypeDesc→Bool
 |.int k,.int l9=>decide (k=l9)
 |.str,.string=>true
 |.bool,.bool=>true
 |_,_=>false
theorem dK.Cn{κ:bq}{D:Nat}{v:af}{x:Value}(h:dK κ D v x){d:Nat}:v.ao d=v:=by
 cases h<;> try rfl
 rename_i sz es g a cap dz b2 ar aw bS dB e r;cases g<;> try rfl
 rename_i l;cases l with
 |l i=>exact absurd b2 (by simp [ja])
 |g d i=>rfl
theorem IZ{κ:bq}{D:Nat}{ld:yo}{d:TypeDesc}{x:af}{X:Value}(cW:li ld d=true)(cK:isKey ld x=true)(a1:dK κ D x X):MapKept.IsKey d X:=by
 cases ld<;> cases d<;> simp [li] at cW<;> cases x<;> simp [isKey] at cK
 ·subst cW;subst cK;rw[a1.eP];rfl
 ·obtain⟨s,rfl,_⟩:=a1.iF;trivial
 ·rw[a1.ho];trivial
theorem wm{κ:bq}{D:Nat}{ld:yo}{d:TypeDesc}{x y:af}{X Y:Value}{b:Bool}(cW:li ld d=true)(cK:isKey ld x=true)(a1:dK κ D x X)(ez:dK κ D y Y)(h:tw x y=some b):Instr.sameNow d X Y=some b∧(b=true→X=Y):=by
 unfold tw at h;split at h
 ·rename_i k a l9 f6;split at h
  ·rename_i u;subst u;simp only[bt] at h;rw[a1.eP,ez.eP];cases ld<;> simp [isKey] at cK;cases d<;> simp [li] at cW;refine⟨by simp [Instr.sameNow,←h],fun r=>?_⟩;subst r;simp at h;rw[h]
  ·cases h
 ·rename_i a f6;simp only[bt] at h;obtain⟨s,rfl,ba⟩:=a1.iF;obtain⟨s',rfl,A⟩:=ez.iF;cases ld<;> simp [isKey] at cK;cases d<;> simp [li] at cW;have key:s=s'↔a=f6:=by
   rw[←ba,←A];constructor
   ·rintro rfl;rfl
   ·intro e
    have:=(List.map_inj_right (f:=UInt8.toNat) (fun a b h=>UInt8.toNat_inj.1 h)).1 e;cases s;cases s';simp at this;rw[this]
  refine⟨?_,fun r=>?_⟩
  ·simp only[Instr.sameNow,bt];rw[←h,Bool.eq_iff_iff,MapKept.bytes_beq,key];simp
  ·subst r;simp at h;rw[key.2 h]
 ·simp only[bt] at h;rw[a1.ho,ez.ho];cases ld<;> simp [isKey] at cK;cases d<;> simp [li] at cW;refine⟨by simp [Instr.sameNow,←h],fun r=>?_⟩;subst r;simp at h;rw[h]
 ·cases h
theorem m3.vn{κ:bq}{D:Nat}{p:af×af}{es:List (af×af)}{l:List MapEntry}(h:m3 κ D (p::es) l):∃e l',l=e::l'∧dK κ D p.1 e.key∧dK κ D p.2 e.val∧m3 κ D es l':=by
 cases l with
 |nil=>exact absurd h.1 (by simp)
 |cons e l'=>refine⟨e,l',rfl,(h.2 0 p e rfl rfl).1,(h.2 0 p e rfl rfl).2,by have:=h.1;simpa using this,fun j q f fz bA=>h.2 (j+1) q f (by simpa using fz) (by simpa using bA)⟩
theorem pM{κ:bq}{D:Nat}{ld:yo}{d:TypeDesc}{x:af}{X:Value}(cW:li ld d=true)(cK:isKey ld x=true)(a1:dK κ D x X):∀(es:List (af×af)) (l:List MapEntry) (i:Nat) (r:Option af),m3 κ D es l→findKey x es=some r→
  (r=none∧Instr.findNow d X l i=some none)∨∃v j e,r=some v∧Instr.findNow d X l i=some (some (i+j,e.val))∧l[j]? =some e∧e.key=X∧dK κ D v e.val
 |[],l,i,r,hm,h=>by have:l=[]:=jj hm.1;subst this;simp only[findKey,bt] at h;exact .inl ⟨h.symm,rfl⟩
 |(y,v)::es,l,i,r,hm,h=>by
  obtain⟨e,l',rfl,ez,bX,B⟩:=hm.vn;simp only[findKey] at h;cases u:tw x y with
  |none=>rw[u] at h;cases h
  |some b=>
   rw[u] at h;obtain⟨ar,aw⟩:=wm cW cK a1 ez u;cases b with
   |true=>simp only[bt] at h;exact .inr ⟨v,0,e,h.symm,by simp [Instr.findNow,ar],rfl,(aw rfl).symm,bX⟩
   |false=>
    simp only at h;rcases pM cW cK a1 es l' (i+1) r B h with⟨dn,A⟩|⟨f7,j,im,dn,A,F,H,I⟩
    ·exact .inl ⟨dn,by simp [Instr.findNow,ar,A]⟩
    ·refine .inr ⟨f7,j+1,im,dn,?_,by simpa using F,H,I⟩;simp [Instr.findNow,ar,A];omega
theorem qU{κ:bq}{D:Nat}{ld:yo}{d:TypeDesc}{x v:af}{X V:Value}(cW:li ld d=true)(cK:isKey ld x=true)(a1:dK κ D x X)(bX:dK κ D v V):∀(es:List (af×af)) (l:List MapEntry) (i:Nat) (r:List (af×af)),m3 κ D es l→putKey x v es=some r→
  (Instr.findNow d X l i=some none∧∀clock,m3 κ D r (l++[{key:=X,val:=V,born:=clock}]))∨∃j e,Instr.findNow d X l i=some (some (i+j,e.val))∧l[j]? =some e∧e.key=X∧m3 κ D r (l.set j {e with key:=X,val:=V})
 |[],l,i,r,hm,h=>by
  have:l=[]:=jj hm.1;subst this;simp only[putKey,bt] at h;subst h;refine .inl ⟨rfl,fun clock=>⟨rfl,fun j p e fS he=>?_⟩⟩;cases j with
  |zero=>simp at fS he;subst fS;subst he;exact⟨a1,bX⟩
  |succ j=>simp at fS
 |(y,u)::es,l,i,r,hm,h=>by
  obtain⟨e,l',rfl,ez,hu,H⟩:=hm.vn;simp only[putKey] at h;cases A:tw x y with
  |none=>rw[A] at h;cases h
  |some b=>
   rw[A] at h;obtain⟨ar,aw⟩:=wm cW cK a1 ez A;cases b with
   |true=>
    simp only[bt] at h;subst h;refine .inr ⟨0,e,by simp [Instr.findNow,ar],rfl,(aw rfl).symm,by have:=hm.1;simpa using this,fun j p q fS fz=>?_⟩;cases j with
    |zero=>simp at fS fz;subst fS;subst fz;exact⟨by rw[aw rfl];exact ez,bX⟩
    |succ j=>exact H.2 j p q (by simpa using fS) (by simpa using fz)
   |false=>
    simp only at h;cases fS:putKey x v es with
    |none=>rw[fS] at h;cases h
    |some B=>
     rw[fS] at h;simp only[ep,bt] at h;subst h;have cons:∀{I},m3 κ D B I→m3 κ D ((y,u)::B) (e::I):=fun J=>by
      refine⟨by simp [J.1],fun j p q fS fz=>?_⟩;cases j with
      |zero=>simp at fS fz;subst fS;subst fz;exact⟨ez,hu⟩
      |succ j=>exact J.2 j p q (by simpa using fS) (by simpa using fz)
     rcases qU cW cK a1 bX es l' (i+1) B H fS with⟨dn,F⟩|⟨j,im,dn,F,M,N⟩
     ·exact .inl ⟨by simp [Instr.findNow,ar,dn],fun clock=>by simpa using cons (F clock)⟩
     ·refine .inr ⟨j+1,im,?_,by simpa using F,M,by simpa using cons N⟩;simp [Instr.findNow,ar,dn];omega
section
variable{P:Program}{ty:TypeId}{ρ:Operand→Value}{κ:bq}{s:ah}{w:World}(ba:db κ s w)
include ba
theorem wo{E:Env}(bB:E.F=.not){k:af→ah→ai}{r:ai}(bA:r≠.fail){t:TypeId}{b:Option Loc}(aV:mM E s k b=r):∃f7 s',k f7 s'=r∧dT P (.makeMap t none) ty ρ κ s w f7 s':=by
 unfold mM at aV;cases b with
 |none=>exact absurd aV.symm bA
 |some b=>
  simp only at aV;cases e:s.gU b (.map []) with
  |none=>rw[e] at aV;exact absurd aV.symm bA
  |some p=>
   obtain⟨l,s'⟩:=p;rw[e] at aV;simp only[bB,a2.not] at aV;obtain⟨u,y,bU,h⟩:=iW.by e
   obtain⟨κ',gZ,g2,A,n9⟩:=ba.Um (w':=w.alloc (.map #[] 0)) h rfl rfl rfl rfl;refine⟨_,_,aV,.map (some w.heap.size),κ',w.alloc (.map #[] 0),.inl (fun dst pos after guard=>?_),g2,gZ,?_⟩
   ·simp [execOp,Instr.makeMap,Result.andThen]
   ·simp only[af.ao,bU];rw[←A];exact .map u y (Nat.lt_succ_of_le h.le) n9
theorem yG{E:Env}(bB:E.F=.not){k:af→ah→ai}{r:ai}(bA:r≠.fail){o:Op}{t J ab:TypeId}{d:TypeDesc}{ld:yo}(eo:P.underlying t=some (.map J ab))(u:P.underlying J=some d)(cW:li ld d=true){m x v:af}{M X V:Value}
  (hm:dK κ (s.aa+1) (m.ao s.aa) M)(a1:dK κ (s.aa+1) x X)(bX:dK κ (s.aa+1) v V)(N:∀dst pos after guard,execOp ρ ⟨dst,o,ty,pos,after,guard⟩=(do Instr.mapUpdate t M X V;pure .skip:Sem Next))(aV:lV E s k ld m x v=r):
  ∃f7 s',k f7 s'=r∧dT P o ty ρ κ s w f7 s':=by
 cases m<;> simp only[lV] at aV<;> try exact absurd aV.symm bA
 rename_i a;simp only[af.ao] at hm;rw[←ah.ic] at aV;cases y:a.ao s.aa with
 |l i=>cases a<;> simp [Loc.ao] at y
 |g e i=>
  rw[y] at aV hm;have ac:M=.map (some (κ.loc e i))∧e<s.aa+1∧i<κ.n e:=by cases hm;exact⟨rfl,by assumption,by assumption⟩
  obtain⟨rfl,he,bZ⟩:=ac;cases b2:s.get (.g e i) with
  |none=>rw[b2] at aV;exact absurd aV.symm bA
  |some ad=>
   rw[b2] at aV;cases ad<;> try exact absurd aV.symm bA
   rename_i es;simp only[bB,a2.not] at aV;obtain⟨A,h⟩:=c9 aV bA;simp only[bo] at A;cases fS:putKey x v es with
   |none=>rw[fS] at h;exact absurd h.symm bA
   |some O=>
    rw[fS] at h;simp only at h;rw[←ah.lX,y] at h;cases B:s.set (.g e i) (.map O) with
    |none=>rw[B] at h;exact absurd h.symm bA
    |some s'=>
     rw[B] at h;obtain⟨fD,clock,ar,aw⟩:=ba.obj e i _ b2;have U:=nJ y (eH.cons a1 (eH.cons bX (eH.nil _ _))) A.2;have Y:=U.2 0 x X rfl rfl;have ae:=U.2 1 v V rfl rfl;have I:=IZ cW A.1.1 Y;rcases qU cW A.1.1 Y ae es fD.toList 0 O aw fS with⟨dn,H⟩|⟨j,Z,dn,H,ag,aj⟩
     ·obtain⟨gZ,g2⟩:=ba.IW (fD:=fD.push {key:=X,val:=V,born:=clock}) (clock:=clock+1) b2 B (by simpa using H clock);refine⟨_,_,h,undef,κ,_,.inr ⟨fun dst pos after guard=>?_,rfl⟩,g2,gZ,.dead _⟩;rw[N];simp [Instr.mapUpdate,run_underlying eo,MapKept.run_getObj_map ar,MapKept.run_checkKey u I,MapKept.run_findKey u dn,MapKept.run_setObj_map _ ar,Result.andThen]
     ·have cL:fD[j]? =some Z:=by simpa using H
      obtain⟨gZ,g2⟩:=ba.IW (fD:=fD.modify j fun e=>{e with key:=X,val:=V}) (clock:=clock) b2 B (by
       have:(fD.modify j fun e=>{e with key:=X,val:=V}).toList=fD.toList.set j {Z with key:=X,val:=V}:=by
        apply List.ext_getElem?;intro q;simp only[Array.getElem?_toList,Array.getElem?_modify,List.getElem?_set];by_cases fz:j=q
        ·subst fz;have ak:j<fD.toList.length:=(dy.1 H).1;rw[if_pos rfl,if_pos rfl,if_pos ak,cL];rfl
        ·simp [fz]
       rw[this];exact aj)
      refine⟨_,_,h,undef,κ,_,.inr ⟨fun dst pos after guard=>?_,rfl⟩,g2,gZ,.dead _⟩;rw[N];simp only[bh] at dn;have al:(fD[j]?.map MapEntry.key).getD X=X:=by rw[cL];exact ag
      simp [Instr.mapUpdate,run_underlying eo,MapKept.run_getObj_map ar,MapKept.run_checkKey u I,MapKept.run_findKey u dn,MapKept.run_setObj_map _ ar,al,MapKept.run_keyThatStays I,Result.andThen]
theorem yH{E:Env}(bB:E.F=.not){k:af→ah→ai}{r:ai}(bA:r≠.fail){t ad J:TypeId}{x y:Operand}{d:TypeDesc}{ld:yo}{ok:Bool}{zero:af}{i:TypeInfo}{Z:Value}(eo:P.underlying t=some (.map ad J))(H:P.underlying ad=some d)(cW:li ld d=true)
  (bZ:P.info? J=some i)(ak:i.zero=some Z)(gA:hM zero Z=true){m u:af}
  (hm:dK κ (s.aa+1) (m.ao s.aa) (ρ x))(a1:dK κ (s.aa+1) u (ρ y))(aV:lW E s k ld zero ok m u=r):∃f7,k f7 s=r∧dT P (.lookup t x y ok) ty ρ κ s w f7 s:=by
 unfold lW at aV;obtain⟨ae,h⟩:=c9 aV bA;clear aV;have M:=IZ cW ae a1;have ag:(zeroValue J).run P w=.ok Z w:=by simp [zeroValue,typeInfo,bZ,ak]
 cases A:entriesOf s m with
 |none=>rw[A] at h;exact absurd h.symm bA
 |some es=>
  rw[A] at h;simp only[bB,a2.not] at h;have al:∃l:Array MapEntry,m3 κ (s.aa+1) es l.toList∧((ρ x=.map none∧l= #[])∨∃q clock,ρ x=.map (some q)∧w.heap[q]? =some (.map l clock)):=by
   cases m<;> simp only[entriesOf] at A<;> try cases A
   ·rename_i a;simp only[af.ao] at hm;rw[←ah.ic] at A;cases B:a.ao s.aa with
    |l j=>cases a<;> simp [Loc.ao] at B
    |g e j=>
     rw[B] at A hm;have I:ρ x=.map (some (κ.loc e j))∧e<s.aa+1:=by generalize ρ x=q at hm;cases hm;exact⟨rfl,by assumption⟩
     cases b2:s.get (.g e j) with
     |none=>rw[b2] at A;cases A
     |some am=>
      rw[b2] at A;cases am<;> simp only[bt] at A<;> try cases A
      obtain⟨fD,clock,ar,aw⟩:=ba.obj e j _ b2;refine⟨fD,⟨aw.1,fun q p N fS aj=>⟨((aw.2 q p N fS aj).1).up (by have:=I.2;omega),((aw.2 q p N fS aj).2).up (by have:=I.2;omega)⟩⟩,?_⟩;exact .inr ⟨_,clock,I.1,ar⟩
   ·have I:ρ x=.map none:=by
     simp only[af.ao] at hm;generalize ρ x=q at hm;cases hm;rfl
    exact⟨#[],⟨rfl,fun q p N fS=>by simp at fS⟩,.inl ⟨I,rfl⟩⟩
  obtain⟨l,bU,an⟩:=al;have hex:∀(a:Option (Nat×Value)) (V:Value),Instr.findNow d (ρ y) l.toList 0=some a→V=(match a with |some (_,v)=>v|none=>Z)→∀dst pos after guard,(execOp ρ ⟨dst,.lookup t x y ok,ty,pos,after,guard⟩).run P w=.ok (.value (if ok then .tuple #[V,.bool a.isSome] else V)) w:=by
   intro a V B O dst pos after guard;have dn:(Instr.lookup t (ρ x) (ρ y) ok).run P w=.ok (if ok then .tuple #[V,.bool a.isSome] else V) w:=by
    rcases an with⟨e,rfl⟩|⟨q,clock,e,ar⟩
    ·cases a with
     |none=>simp [Instr.lookup,run_underlying eo,e,MapKept.run_checkKey H M,MapKept.run_findKey H B,ag,O,Result.andThen]
     |some p=>simp [Instr.findNow] at B
    ·cases a with
     |none=>simp [Instr.lookup,run_underlying eo,e,MapKept.run_getObj_map ar,MapKept.run_checkKey H M,MapKept.run_findKey H B,ag,O,Result.andThen]
     |some p=>simp [Instr.lookup,run_underlying eo,e,MapKept.run_getObj_map ar,MapKept.run_checkKey H M,MapKept.run_findKey H B,O,Result.andThen]
   simp only[execOp,Sem.run_bind,dn,Result.andThen];rfl
  cases U:findKey u es with
  |none=>rw[U] at h;exact absurd h.symm bA
  |some ap=>
   rw[U] at h;obtain⟨Y,aq⟩:=oT zero Z gA;rcases pM cW ae a1 es l.toList 0 ap bU U with⟨rfl,ab⟩|⟨v,j,e,rfl,ab,au,av,ac⟩
   ·simp only at h;refine⟨_,h,bQ ba _ (hex none Z ab rfl) ?_⟩;cases ok with
    |true=>have:eH κ (s.aa+1) [zero,.bool false] [Z,.bool false]:=.cons (Y _ _) (.cons (.bool _) (.nil _ _));exact .ed _ _ this.1 this.2
    |false=>simp only[cond_false,b5,↓reduceIte];rw[(Y κ (s.aa+1)).Cn];exact Y _ _
   ·simp only at h;refine⟨_,h,bQ ba _ (hex _ e.val ab rfl) ?_⟩;cases ok with
    |true=>have:eH κ (s.aa+1) [v,.bool true] [e.val,.bool true]:=.cons ac (.cons (.bool _) (.nil _ _));exact .ed _ _ this.1 this.2
    |false=>simp only[cond_false,b5,↓reduceIte];rw[ac.Cn];exact ac
end
abbrev yI(ro:Option Nat):Fence:={Fence.wide with round:=ro}
structure hP (l:Nat) (κ:bq) (s:ah) (w:World) (κ':bq) (s':ah) (w':World):Prop where
 k:hk κ κ' (s.aa+1)
 aa:s'.aa=s.aa
 size:w.heap.size≤w'.heap.size
 os:w'.os=w.os
 tape:w'.tape=w.tape
 output:w'.output=w.output
 lq:∀b,b<w.heap.size→b≠l→¬Live κ s b→w'.heap[b]? =w.heap[b]?
 live:∀b,b<w.heap.size→Live κ' s' b→Live κ s b
 pH:∀a,κ'.F a≠none→κ.F a≠none∨w.heap.size≤a.block∨Live κ s a.block
theorem fP.x{l:Nat}{κ κ':bq}{s s':ah}{w w':World}(h:fP κ s w κ' s' w'):hP l κ s w κ' s' w':=⟨h.k,h.aa,h.size,h.os,h.tape,h.output,fun b e _=>h.lq b e,h.live,h.pH⟩
theorem hP.trans{l:Nat}{κ r u:bq}{s y A:ah}{w B F:World}(h:hP l κ s w r y B)(k:hP l r y B u A F):hP l κ s w u A F:=by
 refine⟨h.k.trans (h.aa ▸ k.k),k.aa.trans h.aa,Nat.le_trans h.size k.size,k.os.trans h.os,k.tape.trans h.tape,k.output.trans h.output,fun b e cZ bU=>?_,fun b e bU=>?_,fun a H=>?_⟩
 ·rw[k.lq b (gy e h.size) cZ (fun I=>bU (h.live b e I)),h.lq b e cZ bU]
 ·exact h.live b e (k.live b (gy e h.size) bU)
 ·rcases k.pH a H with ar|ar|ar
  ·exact h.pH a ar
  ·exact .inr (.inl (Nat.le_trans h.size ar))
  ·by_cases e:a.block<w.heap.size
   ·exact .inr (.inr (h.live _ e ar))
   ·exact .inr (.inl (by omega))
def Co(P:Program)(f j:Nat):Prop:=
 (∃fn,P.funcs[f]? =some fn∧fn.body.isSome=true∧(fn.name== "runtime.NumGoroutine")=false)∧
 ∀(dM xs:List af) (κ:bq) (s:ah) (w:World) (dz:List Value) (l:Nat),qt s j dM=some xs→db κ s w→eH κ (s.aa+1) dM dz→l<w.heap.size→¬Live κ s l→(∀o,w.heap[l]? =some o→o.isCells=false)→
  ∀(J:Nat→ah→Prop) (y:ah→Option Obj→Prop),J 0 s→
  (∀(i:Nat) (x:af) (A:Value) (κ':bq) (s':ah) (w':World),xs[i]? =some x→fP κ s w κ' s' w'→db κ' s' w'→J i s'→dM.all (fu s s')=true→dK κ' (s'.aa+1) x A→
   YieldAt Fence.wide 0 P l #[A] w' fun e r=>
    (e=.returned (.bool true)∧∃u h,fP κ' s' w' u h r∧db u h r∧J (i+1) h∧dM.all (fu s h)=true)∨
    (e=.returned (.bool false)∧∃u h,hP l κ' s' w' u h r∧db u h r∧y h r.heap[l]?))→
  CallsIn Fence.wide 0 P f (#[.func (.yield l) #[] #[]]++dz.toArray) w fun e w'=>(∃v,e=.returned v)∧
   ((∃κ' s',fP κ s w κ' s' w'∧db κ' s' w'∧J xs.length s')∨∃κ' s',hP l κ s w κ' s' w'∧db κ' s' w'∧y s' w'.heap[l]?)
structure lj where
 eh:Nat→Option TypeDesc
 info:Nat→Option (Nat×Nat×Value)
 abw:Nat→List af
 eqs:Nat→Bool
 FT:Nat→Nat→Bool:=fun _ _=>false
structure lj.qv (T:lj) (P:Program):Prop where
 eh:∀t d,T.eh t=some d→P.underlying t=some d
 info:∀t n b z,T.info t=some (n,b,z)→∃i,P.info? t=some i∧i.size=n∧i.bytes=b∧i.zero=some z
 eqs:∀t,T.eqs t=true→P.stoodInHeld t=false∧P.eqGuardType P.depth t=false
 FT:∀f j,T.FT f j=true→Co P f j
def jF(T:lj):Nat→List yo→List Field→Bool
 |_,[],[]=>true
 |j,k::iT,f::kb=>Nat.beq f.offset j&&decide (f.name≠ "_")&&(match T.eh f.type with
   |some d=>li k d
   |none=>false)&&jF T (j+1) iT kb
 |_,_,_=>false
def abb(T:lj)(e:Uk)(t:Nat)(d:TypeDesc):Bool:=
 match e,d with
 |.agg iT,.struct kb=>T.eqs t&&jF T 0 iT kb.toList
 |.agg [.int _,.int _],.array 2 e=>T.eqs t&&(match T.eh e with
   |some (.int _)=>true
   |_=>false)&&(T.info e).map (·.1)==some 1
 |_,_=>false
def lj.size(T:lj)(t:Nat):Option Nat:=(T.info t).map (·.1)
def lj.bytes(T:lj)(t:Nat):Option Nat:=(T.info t).map (·.2.1)
def lj.zero(T:lj)(t:Nat)(z:List af):Bool:=
 match T.info t with
 |some (_,_,v)=>nH z v.cells.toList
 |none=>false
def lj.load(T:lj)(t:Nat)(n:Option Nat):Bool:=
 match T.eh t with
 |some d=>match n with
  |none=>Cf d==false
  |some n=>Cf d==true&&T.size t==some n
 |none=>false
section
variable{P:Program}{T:lj}(e1:T.qv P)
include e1
theorem lj.qv.size{t n:Nat}(h:T.size t=some n):fw P t=some n:=by
 unfold lj.size at h;cases bZ:T.info t with
 |none=>rw[bZ] at h;cases h
 |some p=>obtain⟨e,b,z⟩:=p;rw[bZ] at h;simp only[ep,bt] at h;obtain⟨i,ar,aw,_⟩:=e1.info _ _ _ _ bZ;simp [fw,ar,aw,h]
theorem lj.qv.bytes{t n:Nat}(h:T.bytes t=some n):(P.info? t).map (·.bytes)=some n:=by
 unfold lj.bytes at h;cases bZ:T.info t with
 |none=>rw[bZ] at h;cases h
 |some p=>obtain⟨e,b,z⟩:=p;rw[bZ] at h;simp only[ep,bt] at h;obtain⟨i,ar,_,aw,_⟩:=e1.info _ _ _ _ bZ;simp [ar,aw,h]
theorem lj.qv.zero{t:Nat}{z:List af}(h:T.zero t z=true):ku P t z=true:=by
 unfold lj.zero at h;cases bZ:T.info t with
 |none=>rw[bZ] at h;cases h
 |some p=>obtain⟨e,b,v⟩:=p;rw[bZ] at h;obtain⟨i,ar,_,_,aw⟩:=e1.info _ _ _ _ bZ;simp only[ku,ar,fp,aw];exact h
theorem lj.qv.load{t:Nat}{n:Option Nat}(h:T.load t n=true):kt P t n=true:=by
 unfold lj.load at h;cases cW:T.eh t with
 |none=>rw[cW] at h;cases h
 |some d=>
  rw[cW] at h
  have:=e1.eh _ _ cW;cases n with
  |none=>simp only at h;simp [kt,lv,this];simpa using h
  |some n=>simp only[bo] at h;have aw:=e1.size (by simpa using h.2:T.size t=some n);simp [kt,lv,this,aw];simpa using h.1
end
def kJ:Nat→List bN→List (Nat×Operand)→Bool
 |_,[],[]=>true
 |i,x::xs,(j,y)::e=>Nat.beq i j&&cQ x y&&kJ (i+1) xs e
 |_,_,_=>false
theorem kv:∀(i:Nat) (xs:List bN) (e:List (Nat×Operand)),kJ i xs e=true→∃r:List Operand,e=(r.zipIdx i).map (fun p=>(p.2,p.1))∧dH xs r=true
 |_,[],[],_=>⟨[],rfl,rfl⟩
 |_,[],_::_,h=>by simp [kJ] at h
 |_,_::_,[],h=>by simp [kJ] at h
 |i,x::xs,(j,y)::e,h=>by simp only[kJ,bo] at h;obtain⟨r,ar,aw⟩:=kv (i+1) xs e h.2;have u:=dq h.1.1;subst u;exact⟨y::r,by simp [ar],by simp [dH,h.1.2,aw]⟩
def mO(T:lj):List Field→Option (List (Nat×Nat))
 |[]=>some []
 |f::kb=>(T.size f.type).bind fun n=>(mO T kb).map fun l=>(f.offset,n)::l
theorem pn{P:Program}{T:lj}(e1:T.qv P):∀(kb:List Field) (l:List (Nat×Nat)),mO T kb=some l→(kb.mapM fun f=>(fw P f.type).map fun n=>(f.offset,n))=some l
 |[],l,h=>by simp only[mO,bt] at h;subst h;rfl
 |f::kb,l,h=>by
  simp only[mO] at h;cases cZ:T.size f.type with
  |none=>rw[cZ] at h;cases h
  |some n=>
   rw[cZ] at h;cases bU:mO T kb with
   |none=>rw[bU] at h;cases h
   |some l'=>rw[bU] at h;simp only[fp,ep,bt] at h;subst h;rw[List.mapM_cons];simp [e1.size cZ,pn e1 kb l' bU]
def zg(a b:BinOp):Bool:=decide (a=b)
def eU(T:lj)(H:gD)(op:Op):Bool:=
 match H with
 |.move x|.pD x|.n2 x=>
  match op with
  |.move y|.assign y=>cQ x y
  |_=>false
 |.pick c a b=>
  match op with
  |.pick oK f6 I=>cQ c oK&&cQ a f6&&cQ b I
  |_=>false
 |.alloc z=>
  match op with
  |.alloc t=>T.zero t z
  |_=>false
 |.fe x|.kq x=>
  match op with
  |.box _ y=>cQ x y
  |_=>false
 |.build z er=>
  match op with
  |.build t h=>
   match T.eh t with
   |some (.struct kb)=>
    match mO T kb.toList with
    |some pl=>T.zero t z&&kX (pl.toArray[·]?) er h.toList
    |none=>false
   |some (.array _ el)=>
    match T.size el with
    |some sz=>T.zero t z&&kX (fun i=>some (i*sz,sz)) er h.toList
    |none=>false
   |_=>false
  |_=>false
 |.buildSlice sz er=>
  match op with
  |.buildSlice t len h=>
   match T.eh t with
   |some (.slice el)=>T.size el==some sz&&T.zero el (T.abw el)&&Nat.beq (T.abw el).length sz&&Nat.beq len er.length&&Nat.ble (len*sz) 16777216&&kJ 0 er h.toList
   |_=>false
  |_=>false
 |.load n x=>
  match op with
  |.load t y=>T.load t n&&cQ x y
  |_=>false
 |.store n x v=>
  match op with
  |.store t y u=>T.size t==some n&&cQ x y&&cQ v u
  |_=>false
 |.lL _ _ n x v=>
  match op with
  |.store t y u=>T.size t==some n&&cQ x y&&cQ v u
  |_=>false
 |.nilCheck x=>
  match op with
  |.nilCheck y=>cQ x y
  |_=>false
 |.bin o x y=>
  match op with
  |.binOp o' _ kT vl _=>zg o o'&&cQ x kT&&cQ y vl
  |_=>false
 |.eq neg e x y=>
  match op with
  |.binOp o t kT vl _=>
   match T.eh t with
   |some d=>zg o (if neg then .neq else .eql)&&(qR e d||abb T e t d)&&cQ x kT&&cQ y vl
   |none=>false
  |_=>false
 |.un o x=>
  match op with
  |.unOp o' _ y=>decide (o=o')&&cQ x y
  |_=>false
 |.lT k x=>
  match op with
  |.convert src dst y=>
   match T.eh src,T.eh dst with
   |some _,some (.int l9)=>decide (k=l9)&&cQ x y
   |_,_=>false
  |_=>false
 |.oL x=>
  match op with
  |.convert src dst y=>
   match T.eh src,T.eh dst with
   |some _,some .string=>cQ x y
   |_,_=>false
  |_=>false
 |.hc x=>
  match op with
  |.convert src dst y=>
   match T.eh src,T.eh dst with
   |some (.slice el),some .string=>
    match T.eh el with
    |some (.int .u8)=>cQ x y
    |_=>false
   |_,_=>false
  |_=>false
 |.jv x=>
  match op with
  |.convert src dst y=>
   match T.eh src,T.eh dst with
   |some .string,some (.slice el)=>
    match T.eh el with
    |some (.int .u8)=>cQ x y
    |_=>false
   |_,_=>false
  |_=>false
 |.kc t x=>
  match op with
  |.makeInterface Uh y=>
   match T.eh t with
   |some (.interface _)=>false
   |some _=>Nat.beq t Uh&&cQ x y
   |none=>false
  |_=>false
 |.kR f dM=>
  match op with
  |.makeFunc (.func yp) first J=>Nat.beq f yp&&Nat.beq first.size 0&&dH dM J.toList
  |_=>false
 |.makeSlice z bytes l c=>
  match op with
  |.makeSlice t l' oK=>
   match T.eh t with
   |some (.slice el)=>T.zero el z&&T.size el==some z.length&&T.bytes el==some bytes&&Nat.blt 0 bytes&&cQ l l'&&cQ c oK
   |_=>false
  |_=>false
 |.kS x gz bZ=>
  match op with
  |.slice t y r A none=>
   match T.eh t with
   |some .string=>cQ x y&&fQ gz r&&fQ bZ A
   |_=>false
  |_=>false
 |.slice sz x gz bZ jf=>
  match op with
  |.slice t y r A B=>
   match T.eh t with
   |some (.slice el)=>T.size el==some sz&&cQ x y&&fQ gz r&&fQ bZ A&&fQ jf B&&(!jf.isSome||bZ.isSome)
   |_=>false
  |_=>false
 |.jn sz len x gz bZ jf=>
  match op with
  |.slice t y r A B=>
   match T.eh t with
   |some (.array n el)=>Nat.beq n len&&T.size el==some sz&&cQ x y&&fQ gz r&&fQ bZ A&&fQ jf B&&(!jf.isSome||bZ.isSome)
   |_=>false
  |_=>false
 |.kd sz bytes _ x y=>
  match op with
  |.call {callee:=.builtin .append,args:=⟨[kT,vl]⟩,argTypes:=⟨[t,t2]⟩}=>
   match T.eh t with
   |some (.slice el)=>
    match T.info el with
    |some (n,b,z)=>
     (match T.eh t2 with
      |some (.slice _)|some .string=>true
      |_=>false)&&Nat.beq n sz&&Nat.beq b bytes&&Nat.beq z.cells.size sz&&Nat.blt 0 bytes&&Nat.ble bytes 1048576&&cQ x kT&&cQ y vl
    |none=>false
   |_=>false
  |_=>false
 |.ke sz bytes _ x y=>
  match op with
  |.call {callee:=.builtin .append,args:=⟨[kT,vl]⟩,argTypes:=⟨[t,t2]⟩}=>
   match T.eh t with
   |some (.slice el)=>
    match T.info el with
    |some (n,b,z)=>
     (match T.eh t2 with
      |some (.slice _)|some .string=>true
      |_=>false)&&Nat.beq n sz&&Nat.beq b bytes&&Nat.beq z.cells.size sz&&Nat.blt 0 bytes&&Nat.ble bytes 1048576&&cQ x kT&&cQ y vl
    |none=>false
   |_=>false
  |_=>false
 |.kf sz bytes x y=>
  match op with
  |.call {callee:=.builtin .append,args:=⟨[kT,vl]⟩,argTypes:=⟨[t,t2]⟩}=>
   match T.eh t with
   |some (.slice el)=>
    match T.info el with
    |some (n,b,z)=>
     (match T.eh t2 with
      |some (.slice _)|some .string=>true
      |_=>false)&&Nat.beq n sz&&Nat.beq b bytes&&Nat.beq z.cells.size sz&&Nat.blt 0 bytes&&Nat.ble bytes 1048576&&cQ x kT&&cQ y vl
    |none=>false
   |_=>false
  |_=>false
 |.g0 sz er=>
  match op with
  |.buildSlice t len h=>
   match T.eh t with
   |some (.slice el)=>T.size el==some sz&&T.zero el (T.abw el)&&Nat.beq (T.abw el).length sz&&Nat.beq len er.length&&Nat.ble (len*sz) 16777216&&kJ 0 er h.toList
   |_=>false
  |_=>false
 |.g1 sz er=>
  match op with
  |.buildSlice t len h=>
   match T.eh t with
   |some (.slice el)=>T.size el==some sz&&T.zero el (T.abw el)&&Nat.beq (T.abw el).length sz&&Nat.beq len er.length&&Nat.ble (len*sz) 16777216&&kJ 0 er h.toList
   |_=>false
  |_=>false
 |.fieldAddr off x=>
  match op with
  |.fieldAddr t y i=>
   match T.eh t with
   |some (.struct kb)=>
    match kb[i]? with
    |some f=>
     match T.size f.type with
     |some n=>Nat.beq f.offset off&&Nat.blt 0 n&&cQ x y
     |none=>false
    |none=>false
   |_=>false
  |_=>false
 |.field off n x=>
  match op with
  |.field t y i=>
   match T.eh t with
   |some (.struct kb)=>
    match kb[i]? with
    |some f=>Nat.beq f.offset off&&T.load f.type n&&cQ x y
    |none=>false
   |_=>false
  |_=>false
 |.jw sz x i=>
  match op with
  |.indexAddr t y j=>
   match T.eh t with
   |some (.slice el)=>T.size el==some sz&&cQ x y&&cQ i j
   |_=>false
  |_=>false
 |.fM sz len x i=>
  match op with
  |.indexAddr t y j=>
   match T.eh t with
   |some (.array n el)=>Nat.beq n len&&T.size el==some sz&&cQ x y&&cQ i j
   |_=>false
  |_=>false
 |.nE x i=>
  match op with
  |.index t y j=>
   match T.eh t with
   |some .string=>cQ x y&&cQ i j
   |_=>false
  |_=>false
 |.oM sz len n x i=>
  match op with
  |.index t y j=>
   match T.eh t with
   |some (.array m el)=>Nat.beq m len&&T.size el==some sz&&T.load el n&&cQ x y&&cQ i j
   |_=>false
  |_=>false
 |.extract x i=>
  match op with
  |.extract y j=>Nat.beq i j&&cQ x y
  |_=>false
 |.call f xs|.hU f xs=>
  match op with
  |.call c=>
   match c.callee with
   |.value (.func yp)=>Nat.beq f yp&&dH xs c.args.toList
   |_=>false
  |_=>false
 |.eN f xs|.mm f xs=>
  match op with
  |.call c=>
   match c.callee with
   |.value g=>cQ f g&&dH xs c.args.toList
   |_=>false
  |_=>false
 |.len b x=>
  match op with
  |.call {callee:=.builtin .len,args:=⟨[y]⟩,argTypes:=⟨[t]⟩}=>
   match T.eh t with
   |some .string=>b&&cQ x y
   |some (.slice _)=> !b&&cQ x y
   |_=>false
  |_=>false
 |.append sz bytes _ x y=>
  match op with
  |.call {callee:=.builtin .append,args:=⟨[kT,vl]⟩,argTypes:=⟨[t,t2]⟩}=>
   match T.eh t with
   |some (.slice el)=>
    match T.info el with
    |some (n,b,z)=>
     (match T.eh t2 with
      |some (.slice _)|some .string=>true
      |_=>false)&&Nat.beq n sz&&Nat.beq b bytes&&Nat.beq z.cells.size sz&&Nat.blt 0 bytes&&Nat.ble bytes 1048576&&cQ x kT&&cQ y vl
    |none=>false
   |_=>false
  |_=>false
 |.copy sz x y=>
  match op with
  |.call {callee:=.builtin .copy,args:=⟨[kT,vl]⟩,argTypes:=⟨[t,_]⟩}=>
   match T.eh t with
   |some (.slice el)=>T.size el==some sz&&cQ x kT&&cQ y vl
   |_=>false
  |_=>false
 |.min xs=>
  match op with
  |.call c=>
   match c.callee with
   |.builtin .min=>dH xs c.args.toList
   |_=>false
  |_=>false
 |.max xs=>
  match op with
  |.call c=>
   match c.callee with
   |.builtin .max=>dH xs c.args.toList
   |_=>false
  |_=>false
 |.makeMap _=>
  match op with
  |.makeMap _ none=>true
  |_=>false
 |.nF ld m x v=>
  match op with
  |.mapUpdate t jU kT f7|.insert t jU kT f7=>
   match T.eh t with
   |some (.map F _)=>
    match T.eh F with
    |some d=>li ld d&&cQ m jU&&cQ x kT&&cQ v f7
    |none=>false
   |_=>false
  |_=>false
 |.lookup ld z ok m x=>
  match op with
  |.lookup t jU kT M=>
   match T.eh t with
   |some (.map F N)=>
    match T.eh F,T.info N with
    |some d,some (_,_,Z)=>li ld d&&hM z Z&&(ok==M)&&cQ m jU&&cQ x kT
    |_,_=>false
   |_=>false
  |_=>false
 |.l8 _ f xs=>
  match op with
  |.call c=>
   match c.callee with
   |.value (.func yp)=>Nat.beq f yp&&dH xs c.args.toList
   |_=>false
  |_=>false
 |.kr _ f xs=>
  match op with
  |.call c=>
   match c.callee with
   |.value g=>cQ f g&&dH xs c.args.toList
   |_=>false
  |_=>false
 |.vN neg x=>
  match op with
  |.binOp o t kT (.const .nilIface) _=>
   match T.eh t with
   |some (.interface _)=>zg o (if neg then .neq else .eql)&&cQ x kT
   |_=>false
  |_=>false
 |.no=>true
theorem dK.lO{κ:bq}{D:Nat}{v:af}{x:Value}(h:dK κ D v x)(d:Nat):v.ao d=v:=by
 cases h<;> try rfl
 rename_i sz es g a cap dz b2 ar aw bS dB e r;cases g<;> try rfl
 rename_i l;cases l with
 |l i=>exact absurd b2 (by simp [ja])
 |g d i=>rfl
theorem zh{P:Program}{w:World}{κ:bq}{D:Nat}(f:af→af→Option af)(g:Value→Value→Sem Value)
  (A:∀x y z X Y,f x y=some z→dK κ D x X→dK κ D y Y→∃Z,(g X Y).run P w=.ok Z w∧dK κ D z Z):∀(u:List af) (e:List Value) (x v:af) (X:Value),vO f x u=some v→dK κ D x X→eH κ D u e→
   ∃V,(e.foldlM g X).run P w=.ok V w∧dK κ D v V
 |[],e,x,v,X,h,a1,r=>by
  simp only[vO,bt] at h
  have:e=[]:=jj r.1;subst this;subst h;exact⟨X,by simp,a1⟩
 |y::u,e,x,v,X,h,a1,r=>by
  cases e with
  |nil=>exact absurd r.1 (by simp)
  |cons Y e=>
   simp only[vO] at h;cases gA:f x y with
   |none=>rw[gA] at h;cases h
   |some z=>rw[gA] at h;simp only[fp] at h;obtain⟨Z,ar,aw⟩:=A x y z X Y gA a1 (r.2 0 y Y rfl rfl);obtain⟨V,bS,dB⟩:=zh f g A u e z v Z h aw ⟨by have:=r.1;simpa using this,fun j c y a0 ez=>r.2 (j+1) c y (by simpa using a0) (by simpa using ez)⟩;exact⟨V,by simp [List.foldlM_cons,ar,bS],dB⟩
section
variable{P:Program}{ty:TypeId}{κ:bq}{s:ah}{w:World}
theorem MK(x y z:af)(X Y:Value)(h:min2 x y=some z)(a1:dK κ (s.aa+1) x X)(ez:dK κ (s.aa+1) y Y):∃Z,(Builtin.min2 X Y).run P w=.ok Z w∧dK κ (s.aa+1) z Z:=by cases x<;> cases y<;> simp [min2] at h;subst h;rw[a1.eP,ez.eP];exact⟨_,by simp only[Builtin.min2];rfl,.int _ _⟩
theorem ML(x y z:af)(X Y:Value)(h:max2 x y=some z)(a1:dK κ (s.aa+1) x X)(ez:dK κ (s.aa+1) y Y):∃Z,(Builtin.max2 X Y).run P w=.ok Z w∧dK κ (s.aa+1) z Z:=by cases x<;> cases y<;> simp [max2] at h;subst h;rw[a1.eP,ez.eP];exact⟨_,by simp only[Builtin.max2];rfl,.int _ _⟩
theorem iX{ap:Nat→af}{a:Act}{G:Nat→af}(bA:yk κ s ap a)(d8:kQ κ G):∀(xs:List bN) (e:List Operand),dH xs e=true→eH κ (s.aa+1) (xs.map fun x=>(au G ap x).ao s.aa) (e.map a.eval)
 |[],[],_=>.nil _ _
 |[],_::_,h=>by simp [dH] at h
 |_::_,[],h=>by simp [dH] at h
 |x::xs,y::e,h=>by simp only[dH,bo] at h;exact .cons (bF bA d8 h.1) (iX bA d8 xs e h.2)
def nb(κ:bq)(s:ah)(w:World)(v:af)(s':ah)(x:Value)(w':World):Prop:=∃κ',fP κ s w κ' s' w'∧db κ' s' w'∧dK κ' (s.aa+1) (v.ao s.aa) x
def po(P:Program)(o:Op)(ty:TypeId)(ρ:Operand→Value)(κ:bq)(s:ah)(w:World)(v:af)(s':ah):Prop:=
 dT P o ty ρ κ s w v s'∨∃f xs,(∀dst pos after guard,(execOp ρ ⟨dst,o,ty,pos,after,guard⟩).run P w=.ok (.enter f xs) w)∧Calls P f xs w fun e w'=>∃x,e=.returned x∧nb κ s w v s' x w'
structure nK (P:Program) (E:Env):Prop where
 loop:∃n,∀step b3 ap s k,E.loop step b3 ap s k=dX step b3 n ap s k
 ov:∀f args s v s',E.call f args s≠.panic v s'
 ok:∀f args s v s' κ w xs,E.call f args s=.ok v s'→db κ s w→kQ κ E.ax→eH κ (s.aa+1) args xs→
  (∃x w',(callFunc f xs.toArray).run P w=.ok (.value x) w'∧nb κ s w v s' x w')∨
  ((callFunc f xs.toArray).run P w=.ok (.enter f xs.toArray) w∧Calls P f xs.toArray w fun e w'=>∃x,e=.returned x∧nb κ s w v s' x w')
theorem yJ{E:Env}(g5:nK P E)(ba:db κ s w)(d8:kQ κ E.ax){f:Nat}{args:List af}{v:af}{s':ah}{xs:List Value}{o:Op}{ρ:Operand→Value}(h:E.call f args s=.ok v s')(a1:eH κ (s.aa+1) args xs)
  (e:∀dst pos after guard,execOp ρ ⟨dst,o,ty,pos,after,guard⟩=callFunc f xs.toArray):po P o ty ρ κ s w v s':=by
 rcases g5.ok f args s v s' κ w xs h ba d8 a1 with⟨x,w',ar,κ',aw,bS,dB⟩|⟨ar,aw⟩
 ·exact .inl ⟨x,κ',w',.inl (fun dst pos after guard=>by rw[e];exact ar),aw,bS,dB⟩
 ·exact .inr ⟨f,xs.toArray,fun dst pos after guard=>by rw[e];exact ar,aw⟩
theorem nb.pure(ba:db κ s w){v:af}{u:ah}{x:Value}{w':World}(h:nb {κ with n:=fun _=>0} {own:=[],up:=[],ro:=[]} w v u x w')(bX:v.bb=true):nb κ s w v s x w':=by
 obtain⟨κ',ar,aw,bS⟩:=h;have r:∀b,¬Live {κ with n:=fun _=>0} {own:=[],up:=[],ro:=[]} b:=fun b ⟨d,i,o,b2,_⟩=>by simp [ah.get] at b2
 have cK:hk κ {κ with F:=κ'.F} (s.aa+1):=⟨fun a v h=>ar.k.F a v h,fun _ _=>aC _,fun _ _ _ _=>rfl,fun _ _ _ _ _ _ h=>h⟩;refine⟨{κ with F:=κ'.F},⟨cK,rfl,ar.size,ar.os,ar.tape,ar.output,fun b e _=>ar.lq b e (r b),fun b e bU=>?_,fun a y=>?_⟩,?_,?_⟩
 ·obtain⟨d,i,o,b2,A⟩:=bU;exact⟨d,i,o,b2,A⟩
 ·rcases ar.pH a y with q|q|q
  ·exact .inl q
  ·exact .inr (.inl q)
  ·exact absurd q (r _)
 ·refine ba.world cK rfl rfl (fun a v h=>aw.jb a v h) (fun b e=>⟨ar.lq b (ba.kl e) (r b),fun o=>?_⟩);show κ'.F ⟨b,o,none⟩=κ.F ⟨b,o,none⟩;cases fz:κ.F ⟨b,o,none⟩ with
  |some v=>exact ar.k.F _ _ fz
  |none=>
   cases B:κ'.F ⟨b,o,none⟩ with
   |none=>rfl
   |some v=>
    rcases ar.pH ⟨b,o,none⟩ (by rw[B];simp) with q|q|q
    ·exact absurd fz q
    ·exact absurd (ba.kl e) (Nat.not_lt.2 q)
    ·exact absurd q (r _)
 ·have H:dK κ' (({own:=[],up:=[],ro:=[]}:ah).aa+1) v x:=by rw[jT bX] at bS;exact bS
  rw[jT bX];exact H.bb bX _ (fun _ _ h=>h)
theorem wq{E:Env}(g5:nK P E)(ba:db κ s w)(d8:kQ κ E.ax){f:Nat}{args:List af}{v:af}{r:ah}{xs:List Value}{o:Op}{ρ:Operand→Value}(h:E.call f args {own:=[],up:=[],ro:=[]}=.ok v r)(bX:v.bb=true)(a1:eH κ (s.aa+1) args xs)(aV:af.aX args=true)
  (u:∀dst pos after guard,execOp ρ ⟨dst,o,ty,pos,after,guard⟩=callFunc f xs.toArray):po P o ty ρ κ s w v s:=by
 have y:eH {κ with n:=fun _=>0} (({own:=[],up:=[],ro:=[]}:ah).aa+1) args xs:=⟨a1.1,fun j c x a0 A=>(a1.2 j c x a0 A).bb (jg aV a0) _ (fun _ _ h=>h)⟩;have B:kQ {κ with n:=fun _=>0} E.ax:=fun n=>⟨(d8 n).1.bb (d8 n).2 _ (fun _ _ h=>h),(d8 n).2⟩
 rcases g5.ok f args _ v r _ w xs h ba.empty B y with⟨x,w',ar,aw⟩|⟨ar,aw⟩
 ·obtain⟨κ',F,H,I⟩:=aw.pure ba bX;exact .inl ⟨x,κ',w',.inl (fun dst pos after guard=>by rw[u];exact ar),F,H,I⟩
 ·exact .inr ⟨f,xs.toArray,fun dst pos after guard=>by rw[u];exact ar,aw.mono fun e w' ⟨x,he,hR⟩=>⟨x,he,hR.pure ba bX⟩⟩
theorem ly{ρ:Operand→Value}{c:Call}{f:Nat}{xs:Array Value}(a0:∃y,c.callee=.value y∧ρ y=.func (.func f) #[] xs):∀dst pos after guard,execOp ρ ⟨dst,.call c,ty,pos,after,guard⟩=callFunc f (c.args.toList.map ρ++xs.toList).toArray:=by
 intro dst pos after guard;obtain⟨y,ez,e⟩:=a0;have ar:resolve ρ c ty=(Pure.pure {target:=.fn (.func f) xs,args:= #[]++c.args.map ρ}:Sem Deferred):=by simp only[resolve,ez,e,Deferred.ofValue]
 have aw:(#[]++c.args.map ρ)++xs=(c.args.toList.map ρ++xs.toList).toArray:=by apply Array.ext';simp
 show(do let d←resolve ρ c ty;invoke d.target d.args)=_;rw[ar];show invoke (.fn (.func f) xs) (#[]++c.args.map ρ)=_;simp only[invoke,aw]
end
theorem db.FU{κ κ':bq}{s:ah}{w:World}(ba:db κ s w)(o:b4)(cK:hk κ κ' (s.aa+1))(cZ:∀d,κ'.n d=if d=s.aa then κ.n d+1 else κ.n d)(H:∀d i m,i<κ.n d→κ'.mb d i m=κ.mb d i m)(iC:κ'.F=κ.F)
  (I:B7 κ' s.aa s.own.length w o)(B:∀b,bp κ' s.aa s.own.length o=some b→¬Live κ s b):db κ' (s.new o) w:=by
 have A:=iW.new s o;have key:∀d i o,s.get (.g d i)=some o→B7 κ' d i w o∧bp κ' d i o=bp κ d i o:=fun d i o h=>(ba.obj d i o h).b3 (ba.om h) (cK.low (by have:=ah.gV h;omega)) (fun m=>H d i m (ba.om h)) (fun b J=>⟨rfl,fun x=>by rw[iC]⟩)
 refine⟨fun a v h=>ba.jb a v (iC ▸ h),fun d l h=>?_,fun d i o' h=>?_,fun d i u gg hZ y b h r e im=>?_⟩
 ·rw[A.ap] at h;rw[cZ];split at h
  ·rename_i cW;cases bA:s.ap d with
   |none=>rw[bA] at h;cases h
   |some l'=>rw[bA] at h;simp only[ep,bt] at h;rw[←h,if_pos cW,←ba.len d l' bA];simp
  ·rename_i cW;rw[if_neg cW];exact ba.len d l h
 ·rw[A.get] at h;split at h
  ·rename_i a0;obtain⟨rfl,rfl⟩:=a0;simp only[bt] at h;exact h ▸ I
  ·exact(key d i o' h).1
 ·rw[A.get] at h r;split at h
  ·rename_i a0;obtain⟨rfl,rfl⟩:=a0;simp only[bt] at h;subst h;split at r
   ·rename_i lr;exact⟨lr.1.symm,lr.2.symm⟩
   ·rw[(key gg hZ y r).2] at im;exact absurd ⟨gg,hZ,y,r,im⟩ (B b e)
  ·split at r
   ·rename_i lr;obtain⟨rfl,rfl⟩:=lr;simp only[bt] at r;subst r;rw[(key d i u h).2] at e;exact absurd ⟨d,i,u,h,e⟩ (B b im)
   ·rw[(key d i u h).2] at e;rw[(key gg hZ y r).2] at im;exact ba.inj d i u gg hZ y b h r e im
theorem db.Cp{κ:bq}{s:ah}{w:World}(ba:db κ s w){i:Nat}{o:b4}(b2:s.own[i]? =some o):db κ {s with own:=s.own.set i .gone} w∧fP κ s w κ {s with own:=s.own.set i .gone} w:=by
 have r:s.get (.g s.aa i)=some o:=by simp [ah.get,b2]
 exact ba.setObj r (o':=.gone) (by simp [ah.set]) (.refl _ _) rfl (fun _ _ _ _=>rfl) (fun a v h=>ba.jb a v h) (fun b e eu=>⟨rfl,fun _=>rfl⟩) (aC _) rfl rfl rfl trivial (fun b e=>by simp [bp] at e)
def bq.row(κ:bq)(D I b n cap sz:Nat):bq:=
 {κ with n:=fun d=>if d=D then κ.n d+1 else κ.n d,loc:=fun d i=>if d=D∧i=I then b else κ.loc d i,mb:=fun d i m=>if d=D∧i=I then(if m=n then some (⟨b,0,none⟩,cap,sz) else none) else κ.mb d i m}
theorem hk.row{κ:bq}{D I b n cap sz:Nat}(e:I=κ.n D)(E:Nat):hk κ (κ.row D I b n cap sz) E:=by
 have eu:∀d i,i<κ.n d→¬(d=D∧i=I):=by
  rintro d i bZ ⟨rfl,rfl⟩
  omega
 refine⟨fun _ _ h=>h,fun d _=>?_,fun d i _ bZ=>?_,fun d i n x _ bZ h=>?_⟩
 ·simp only[bq.row];split<;> omega
 ·simp only[bq.row];rw[if_neg (eu d i bZ)]
 ·simp only[bq.row];rw[if_neg (eu d i bZ)];exact h
theorem db.newRow{κ:bq}{s:ah}{w w':World}(ba:db κ s w)(cs:List af)(xs:List Value)(C:Array Value)(e:TypeId)(n sz cap:Nat)(a1:eH κ (s.aa+1) cs xs)(g5:C.size=cap*sz)(hle:cs.length≤C.size)(cL:∀j,j<cs.length→C[j]? =xs[j]?)
  (hw:w'.heap=w.heap.push (.cells C e (0,0)))(u:w'.os=w.os)(eo:w'.tape=w.tape)(hu:w'.output=w.output):
  db (κ.row s.aa s.own.length w.heap.size n cap sz) (s.new (.cells cs)) w'∧fP κ s w (κ.row s.aa s.own.length w.heap.size n cap sz) (s.new (.cells cs)) w':=by
 have y:s.own.length=κ.n s.aa:=ba.len s.aa s.own (by simp [ah.ap]);have cK:hk κ (κ.row s.aa s.own.length w.heap.size n cap sz) (s.aa+1):=hk.row y _;have A:w'.heap[w.heap.size]? =some (.cells C e (0,0)):=by rw[hw];simp
 have B:C.toList.take cs.length=xs:=by
  apply List.ext_getElem?;intro j;rw[List.getElem?_take];split
  ·rename_i F;rw[←cL j F];simp
  ·rw[List.getElem?_eq_none (by rw[a1.1];omega)]
 exact ba.newObj (w':=w') (.cells cs) cK (iW.new s _) (fun d=>rfl) (fun d i m bZ=>if_neg (by rintro ⟨rfl,rfl⟩;omega)) (.inl rfl) (fun b r=>by rw[hw,Array.getElem?_push];simp [Nat.ne_of_lt r]) (by rw[hw];simp) u eo hu
  ⟨⟨C,e,(0,0),by simp [bq.row,A],fun j _=>by simp,by rw[B];exact a1.mono cK,fun m b c z h=>by
   simp only[bq.row,and_self,if_true] at h;split at h
   ·simp only[bt,fb] at h;obtain⟨_,rfl,rfl⟩:=h;omega
   ·cases h⟩,fun o=>ba.rj (by simp [bq.row])⟩ (fun b r=>by simp [bp,bq.row] at r;omega)
theorem db.rename{κ:bq}{s:ah}{w:World}(ba:db κ s w){i n m cap sz:Nat}{cs:List af}(b2:s.own[i]? =some (.cells cs))(H:κ.mb s.aa i m=some (⟨κ.loc s.aa i,0,none⟩,cap,sz)):
  db (κ.row s.aa s.own.length (κ.loc s.aa i) n cap sz) {s with own:=s.own.set i .gone++[.cells cs]} w∧fP κ s w (κ.row s.aa s.own.length (κ.loc s.aa i) n cap sz) {s with own:=s.own.set i .gone++[.cells cs]} w:=by
 have I:s.own.length=κ.n s.aa:=ba.len s.aa s.own (by simp [ah.ap]);have cK:hk κ (κ.row s.aa s.own.length (κ.loc s.aa i) n cap sz) (s.aa+1):=hk.row I _;have bZ:i<s.own.length:=(dy.1 b2).1;have u:s.get (.g s.aa i)=some (.cells cs):=by simp [ah.get,b2]
 obtain⟨ar,aw⟩:=ba.Cp b2;obtain⟨⟨C,e,jA,J,M,N,O⟩,ls⟩:=ba.obj _ _ _ u;have y:(κ.row s.aa s.own.length (κ.loc s.aa i) n cap sz).loc s.aa s.own.length=κ.loc s.aa i:=by simp [bq.row]
 have U:B7 (κ.row s.aa s.own.length (κ.loc s.aa i) n cap sz) s.aa s.own.length w (.cells cs):=by
  refine⟨⟨C,e,jA,by rw[y];exact J,M,N.mono cK,fun jU b c z h=>?_⟩,fun o=>by rw[y];exact ls o⟩;simp only[bq.row,and_self,if_true] at h;split at h
  ·simp only[bt,fb] at h;obtain⟨_,rfl,rfl⟩:=h;exact O m _ _ _ H
  ·cases h
 have key:=ar.FU (κ':=κ.row s.aa s.own.length (κ.loc s.aa i) n cap sz) (.cells cs) cK (fun d=>rfl) (fun d hZ jU ai=>if_neg (by rintro ⟨bS,dB⟩;have r:d=s.aa:=bS;subst r;have aj:hZ=s.own.length:=dB;omega)) rfl (by
   show B7 _ s.aa (s.own.set i .gone).length w _;rw[List.length_set];exact U) (fun b A=>by
   have V:b=κ.loc s.aa i:=by have:bp (κ.row s.aa s.own.length (κ.loc s.aa i) n cap sz) s.aa (s.own.set i .gone).length (.cells cs)=some b:=A;rw[List.length_set] at this;simp only[bp,y,bt] at this;exact this.symm
   subst V
   rintro ⟨gg,hZ,o',bS,dB⟩
   have Y:=ah.vV (s:=s) (s':={s with own:=s.own.set i .gone}) (d:=s.aa) (i:=i) (o:=.gone) (by simp [ah.set]) u gg hZ;rw[Y] at bS;split at bS
   ·simp only[bt] at bS;subst bS;simp [bp] at dB
   ·rename_i eu;obtain⟨B,F⟩:=ba.inj gg hZ o' s.aa i _ _ bS u dB rfl;exact eu ⟨B,F⟩)
 refine⟨key,⟨cK,rfl,aC _,rfl,rfl,rfl,fun _ _ _=>rfl,fun b A bU=>?_,fun a Z=>.inl Z⟩⟩;obtain⟨gg,hZ,o',bS,dB⟩:=bU;have ab:=(iW.new {s with own:=s.own.set i .gone} (.cells cs)).get gg hZ;have r:(({s with own:=s.own.set i .gone}:ah).new (.cells cs)).get (.g gg hZ)=some o':=bS;rw[ab] at r;split at r
 ·rename_i a0;simp only[bt] at r;subst r;obtain⟨B,F⟩:=a0;have ac:hZ=s.own.length:=by rw[F];simp
  have ad:gg=s.aa:=B;subst ac ad;simp only[bp,y,bt] at dB;exact⟨s.aa,i,_,u,by simp [bp,dB]⟩
 ·rename_i a0;have ak:=ar.om r;have al:=ah.gV r;have ae:bp κ gg hZ o'=some b:=by
   have eu:¬(gg=s.aa∧hZ=s.own.length):=by rintro ⟨ag,am⟩;subst ag;omega
   cases o' with
   |cells an=>simp only[bp,bq.row,if_neg eu] at dB ⊢;exact dB
   |map es=>simp only[bp,bq.row,if_neg eu] at dB ⊢;exact dB
   |tok k=>simp only[bp,bq.row,if_neg eu] at dB ⊢;exact dB
   |gone=>simp [bp] at dB
  exact aw.live b A ⟨gg,hZ,o',r,ae⟩
section
variable{P:Program}{ty:TypeId}{ρ:Operand→Value}{κ:bq}{s:ah}{w:World}(ba:db κ s w)
include ba
theorem wt{E:Env}(bB:E.F=.not){k:af→ah→ai}{r:ai}(bA:r≠.fail){t t2 el:TypeId}{sz bytes:Nat}{z:Value}(h:ob P t t2 el sz bytes z){x y:Operand}{X Y:af}
  (lg:dK κ (s.aa+1) (X.ao s.aa) (ρ x))(aR:dK κ (s.aa+1) (Y.ao s.aa) (ρ y))(aV:kE E s k sz bytes X Y=r):∃f7 s',k f7 s'=r∧dT P (.call {callee:=.builtin .append,args:= #[x,y],argTypes:= #[t,t2]}) ty ρ κ s w f7 s':=by
 unfold kE at aV;cases iQ:dw s Y with
 |none=>rw[iQ] at aV;exact absurd aV.symm bA
 |some p=>
  obtain⟨u,new⟩:=p;rw[iQ] at aV;obtain⟨O,be,J⟩:=kZ ba aR iQ;cases new with
  |nil=>exact absurd aV.symm bA
  |cons aS aT=>
   simp only[bB,a2.not] at aV;generalize aU:aS::aT=new at *;have lh:0<new.length:=by rw[←aU];simp
   have aG:s.own.length=κ.n s.aa:=ba.len s.aa s.own (by simp [ah.ap]);split at aV
   ·
    rename_i aW;obtain⟨B,ac⟩:=c9 aV bA;simp only[bo] at B;obtain⟨⟨⟨al,am⟩,an⟩,aq⟩:=B;have dn:=dq al;have au:=(dq am).symm;subst dn;subst au;have bS:=d9 an;simp only[af.ao] at lg;have ad:ρ x=.slice none 0 0:=by
     rcases lg.hY with⟨_,_,e⟩|⟨A,cap,dz,e,b2,_⟩
     ·exact e
     ·cases b2
    obtain⟨hlen,xs,a0,gv⟩:=fE (P:=P) O J new.length (aC _) w.drew (fun _=>rfl);have av:=(fE (P:=P) O J new.length (aC _) w (fun _=>rfl)).1;simp only[List.take_length] at gv;have H:=fl new u J;have U:xs.length=new.length*u:=by rw[gv.1,H]
    have M:(Builtin.firstCells u 0 (.slice none 0 0)).run P w.drew=.ok (#[]:Array Value) w.drew:=by
     obtain⟨_,os,M,V⟩:=fE (P:=P) (s:=s) (κ:=κ) (w:=w) (X:=Value.slice none 0 0) (v:=.dead) (sz:=u) (es:=[]) (.inr ⟨none,0,rfl,fun _=>rfl,fun a Z=>(by cases Z)⟩) (fun e he=>(by cases he)) 0 (aC _) w.drew (fun _=>rfl)
     have:os=[]:=jj (by simpa using V.1);rw[this] at M;exact M
    obtain⟨cap,C,N,ab,ae,ag⟩:=jo (ty:=ty) h (base:=none) (f8:=0) (jE:=0) (os:=[]) av a0 M U (by simp) (by omega) (by rw[bh];exact bS);simp only[bh,List.nil_append] at N ae ag;obtain⟨gZ,g2⟩:=ba.newRow (w':=w.drew.alloc (.cells C el)) (new.flatMap af.cells) xs C el new.length u cap gv ab (by rw[H,ab];exact gn _ N) (fun j cL=>ae j (by rw[←H];exact cL)) rfl rfl rfl rfl;refine⟨_,_,ac,_,_,_,.inl (ie (by rw[ad];exact ag)),g2,gZ,?_⟩;simp only[af.ao,Loc.ao];have bU:(κ.row s.aa s.own.length w.heap.size new.length cap u).loc s.aa s.own.length=w.heap.size:=by simp [bq.row]
    have key:=dK.cH (κ:=κ.row s.aa s.own.length w.heap.size new.length cap u) (D:=s.aa+1) s.aa s.own.length 0 new.length 0 cap u (Nat.lt_succ_self _) (by simp [bq.row,aG]) N (.inr ⟨rfl,lh,rfl,by rw[bU];simp [bq.row]⟩);rw[bU] at key;exact key
   ·
    rename_i i len aW;split at aV
    rotate_left
    ·exact absurd aV.symm bA
    rename_i cs aw;obtain⟨B,ac⟩:=c9 aV bA;simp only[bo,Bool.not_eq_true'] at B;obtain⟨⟨⟨⟨⟨⟨al,am⟩,an⟩,aq⟩,aX⟩,aY⟩,aH⟩:=B;have dn:=dq al;have au:=(dq am).symm;subst dn;subst au;have aj:=dq an;have bf:len≠0:=fun eO=>by rw[eO] at aq;cases aq
    have ax:=d9 aX;simp only[af.ao,Loc.ao] at lg;have b2:s.get (.g s.aa i)=some (.cells cs):=by simp [ah.get,aw]
    obtain⟨mv,ad,cW,bZ,bg,wk⟩:=lg.km;obtain⟨_,_,_,aI⟩:(0:Nat)=0∧0<len∧(0:Nat)=0∧κ.mb s.aa i len=some (⟨κ.loc s.aa i,0,none⟩,mv,u):=by
     rcases wk with ar|ar
     ·omega
     ·exact ar
    obtain⟨⟨I,ml,ay,az,aJ,aK,aL⟩,ls⟩:=ba.obj _ _ _ b2;have aZ:=aL len _ _ _ aI;have H:=fl new u J;have aA:i<s.own.length:=(dy.1 aw).1;have hmul:(len+new.length)*u=len*u+new.length*u:=fq _ _ _;have aM:=oU ba b2 0;rw[bY] at aM;by_cases aB:len+new.length≤mv
    ·
     obtain⟨hlen,xs,a0,gv⟩:=fE (P:=P) O J new.length (aC _) w (fun _=>rfl);simp only[List.take_length] at gv;have U:xs.length=new.length*u:=by rw[gv.1,H]
     have bi:(len+new.length)*u≤I.size:=Nat.le_trans (gn _ aB) aZ;have ar:=ou aY gv;have a1:=run_storeCells_cells (P:=P) (κ.loc s.aa i) (len*u) xs 0 w (fun j cL=>by rw[gi az];simp;omega) (fun j cL=>by
      have hu:=aJ (len*u+0+j) (by omega);simp only[World.frozen?,az];rw[Bool.and_eq_false_iff];by_cases aN:ay.1≤len*u+0+j
      ·right;simp only[decide_eq_false_iff_not];exact fun h=>hu ⟨aN,h⟩
      ·left;simpa using aN) ar
     have a3:=run_append_fits (ty:=ty) h (base:=some ⟨κ.loc s.aa i,0,none⟩) (f8:=len) (jE:=mv) hlen a0 aB (w':=w.setCells (κ.loc s.aa i) (len*u) xs) (by
      have a4:(⟨κ.loc s.aa i,0,none⟩:Addr).add (len*u)=⟨κ.loc s.aa i,len*u,none⟩:=by rw[gu rfl];simp
      simp only[a4];simpa using a1)
     have aD:=m6 xs w (κ.loc s.aa i) (len*u) I ml ay az (by omega);obtain⟨px,rk,Cd⟩:=m8 xs w (κ.loc s.aa i) (len*u);have u6:cs.length≤I.size:=by have:=aK.1;simp at this;omega
     have a5:(dE I.toList (len*u) xs).take (cs++new.flatMap af.cells).length=I.toList.take cs.length++xs:=by
      rw[fW,H,aj,←U];apply List.ext_getElem?;intro j;rw[List.getElem?_take];by_cases cL:j<len*u
      ·rw[if_pos (by omega),hg _ _ _ (by simp;omega),if_neg (by omega),fB (by simp;omega),List.getElem?_take,if_pos (by omega)]
      ·rw[jt (by simp;omega)];have yF:(I.toList.take (len*u)).length=len*u:=by simp;omega
       rw[yF];by_cases aO:j<len*u+xs.length
       ·rw[if_pos aO,hg _ _ _ (by simp;omega),if_pos (by omega)]
       ·rw[if_neg aO,List.getElem?_eq_none (by omega)]
     let s1:ah:={s with own:=s.own.set i (.cells (cs++new.flatMap af.cells))}
     have hR:db κ s1 (w.setCells (κ.loc s.aa i) (len*u) xs)∧fP κ s w κ s1 (w.setCells (κ.loc s.aa i) (len*u) xs):=by
      refine ba.setObj b2 (o':=.cells (cs++new.flatMap af.cells)) (by simp [ah.set,s1]) (.refl _ _) rfl (fun _ _ _ _=>rfl) (fun a v h=>?_) (fun b _ B=>⟨?_,fun _=>rfl⟩) (by rw[m7];exact aC _) px rk Cd ⟨⟨(dE I.toList (len*u) xs).toArray,ml,ay,by rw[aD];simp,by simpa [gh] using aJ,?_,fun m b cap sz hm=>by simpa [gh] using aL m b cap sz hm⟩,ls⟩ (fun b B=>.inl B)
      ·obtain⟨ax,a6⟩:=ba.jb a v h;refine⟨ax,?_⟩;rw[g4 (w:=w) ?_]
       ·exact a6
       ·rw[aD,if_neg];intro dn;have a7:a=⟨κ.loc s.aa i,a.off,none⟩:=by cases a;simp_all
        rw[a7,ls] at h;cases h
      ·rw[aD,if_neg (fun dn=>B (by simp [bp,dn]))]
      ·show eH κ _ _ ((dE I.toList (len*u) xs).take _);rw[a5];exact aK.append gv
     have a8:s1.own[i]? =some (.cells (cs++new.flatMap af.cells)):=by simp [s1,aA]
     obtain⟨gZ,g2⟩:=hR.1.rename (n:=len+new.length) a8 aI;have aE:({s1 with own:=s1.own.set i .gone++[.cells (cs++new.flatMap af.cells)]}:ah)= {s with own:=s.own.set i .gone++[.cells (cs++new.flatMap af.cells)]}:=by simp [s1]
     rw[aE] at gZ g2;refine⟨_,_,ac,_,_,_,.inl (ie (by rw[ad];exact a3)),hR.2.trans g2,gZ,?_⟩;simp only[af.ao,Loc.ao];have aF:s1.own.length=s.own.length:=by simp [s1]
     have bU:(κ.row s1.aa s1.own.length (κ.loc s1.aa i) (len+new.length) mv u).loc s.aa s.own.length=κ.loc s.aa i:=by rw[aF];show(if s.aa=s.aa∧s.own.length=s.own.length then κ.loc s.aa i else κ.loc s.aa s.own.length)=_;simp
     have key:=dK.cH (κ:=κ.row s1.aa s1.own.length (κ.loc s1.aa i) (len+new.length) mv u) (D:=s.aa+1) s.aa s.own.length 0 (len+new.length) 0 mv u (Nat.lt_succ_self _) (by
      rw[aF];show s.own.length<if s.aa=s.aa then κ.n s.aa+1 else κ.n s.aa
      rw[if_pos rfl];omega) aB (.inr ⟨rfl,by omega,rfl,by
      rw[bU,aF];show(if s.aa=s.aa∧s.own.length=s.own.length then(if len+new.length=len+new.length then some ((⟨κ.loc s.aa i,0,none⟩:Addr),mv,u) else none) else κ.mb s.aa s.own.length (len+new.length))=_;simp⟩)
     rw[bU] at key;exact key
    ·
     obtain⟨hlen,xs,a0,gv⟩:=fE (P:=P) O J new.length (aC _) w.drew (fun _=>rfl);have av:=(fE (P:=P) O J new.length (aC _) w (fun _=>rfl)).1;simp only[List.take_length] at gv;have U:xs.length=new.length*u:=by rw[gv.1,H]
     have a9:u≠0:=fun eO=>by rw[eO] at aH;cases aH
     obtain⟨aP,bb⟩:=kY u a9 len cs (by omega);obtain⟨_,os,M,V⟩:=fE (P:=P) (s:=s) (κ:=κ) (w:=w) (X:=Value.slice (some ⟨κ.loc s.aa i,0,none⟩) len mv) (v:=.dead) (sz:=u) (es:=chunk u len cs) (.inr ⟨some ⟨κ.loc s.aa i,0,none⟩,mv,by rw[fK],fun Z=>(by cases Z),fun f6 Z=>(by cases Z;rw[aP,iV (by omega)];exact aM)⟩) bb len (by rw[fK];exact aC _) w.drew (fun _=>rfl);rw[show(chunk u len cs).take len=chunk u len cs from iV (by rw[fK];exact aC _),aP,iV (by omega)] at V;have bc:os.length=len*u:=by rw[V.1,aj]
     obtain⟨ak,C,N,ab,ae,ag⟩:=jo (ty:=ty) h (base:=some ⟨κ.loc s.aa i,0,none⟩) (f8:=len) (jE:=mv) av a0 M U bc (by omega) ax;obtain⟨gZ,g2⟩:=ba.newRow (w':=w.drew.alloc (.cells C el)) (cs++new.flatMap af.cells) (os++xs) C el (len+new.length) u ak (V.append gv) ab (by rw[fW,H,aj,ab,←fq];exact gn _ N) (fun j cL=>ae j (by rw[fW,H,aj] at cL;omega)) rfl rfl rfl rfl;have bd:(s.new (.cells (cs++new.flatMap af.cells))).own[i]? =some (.cells cs):=by simp only[ah.new];rw[fB aA];exact aw
     obtain⟨aQ,n9⟩:=gZ.Cp bd;have aE:({s.new (.cells (cs++new.flatMap af.cells)) with own:=(s.new (.cells (cs++new.flatMap af.cells))).own.set i .gone}:ah)= {s with own:=s.own.set i .gone++[.cells (cs++new.flatMap af.cells)]}:=by simp only[ah.new];congr 1;exact List.set_append_left _ _ aA
     rw[aE] at aQ n9;refine⟨_,_,ac,_,_,_,.inl (ie (by rw[ad];exact ag)),g2.trans n9,aQ,?_⟩;simp only[af.ao,Loc.ao];have bU:(κ.row s.aa s.own.length w.heap.size (len+new.length) ak u).loc s.aa s.own.length=w.heap.size:=by simp [bq.row]
     have key:=dK.cH (κ:=κ.row s.aa s.own.length w.heap.size (len+new.length) ak u) (D:=s.aa+1) s.aa s.own.length 0 (len+new.length) 0 ak u (Nat.lt_succ_self _) (by simp [bq.row,aG]) N (.inr ⟨rfl,by omega,rfl,by rw[bU];simp [bq.row]⟩);rw[bU] at key;exact key
   ·exact absurd aV.symm bA
end
section
variable{P:Program}{ty:TypeId}{ρ:Operand→Value}{κ:bq}{s:ah}{w:World}
theorem yK{T:lj}(e1:T.qv P){D:Nat}:∀(kb:List Field) (iT:List yo) (j:Nat) (cs iE:List af) (xs A:List Value) (b:Bool),jF T j iT kb=true→ft iT (cs.drop j)=true→ft iT (iE.drop j)=true→eH κ D cs xs→eH κ D iE A→jy (cs.drop j) (iE.drop j)=some b→
  ∀d,(Op.eqFields (d+1) xs.toArray A.toArray kb).run P w=.ok b w:=by
 intro kb
 induction kb with
 |nil=>
  intro iT j cs iE xs A b ar aw bS a1 ez h d;cases iT with
  |cons k iT=>simp [jF] at ar
  |nil=>
   cases a0:cs.drop j with
   |cons c F=>rw[a0] at aw;simp [ft] at aw
   |nil=>
    cases cW:iE.drop j with
    |cons c F=>rw[cW] at bS;simp [ft] at bS
    |nil=>rw[a0,cW] at h;simp only[jy,bt] at h;subst h;simp [Op.eqFields]
 |cons f kb Z=>
  intro iT j cs iE xs A b ar aw bS a1 ez h d;cases iT with
  |nil=>simp [jF] at ar
  |cons k iT=>
   simp only[jF,bo,b9] at ar;obtain⟨⟨⟨dn,cZ⟩,eo⟩,aV⟩:=ar;have O:=dq dn;cases a0:cs.drop j with
   |nil=>rw[a0] at aw;cases k<;> simp [ft] at aw
   |cons c F=>
    cases cW:iE.drop j with
    |nil=>rw[cW] at bS;cases k<;> simp [ft] at bS
    |cons oK J=>
     have U:cs.drop (j+1)=F:=by rw[←List.drop_drop,a0];rfl
     have V:iE.drop (j+1)=J:=by rw[←List.drop_drop,cW];rfl
     have aa:cs[j]? =some c:=by have:=congrArg (fun l:List af=>l[0]?) a0;simpa using this
     have ab:iE[j]? =some oK:=by have:=congrArg (fun l:List af=>l[0]?) cW;simpa using this
     obtain⟨x,ac,M⟩:=a1.get aa;obtain⟨y,ad,N⟩:=ez.get ab;rw[a0] at aw;rw[cW] at bS;rw[a0,cW] at h;cases hu:T.eh f.type with
     |none=>rw[hu] at eo;cases eo
     |some H=>
      rw[hu] at eo;have I:=e1.eh _ _ hu;have Y:lv P f.type=some false:=by cases k<;> cases H<;> simp [li] at eo<;> simp [lv,I,Cf]
      have ae:(part f.type xs.toArray f.offset).run P w=.ok x w:=by rw[O];simp [part,jC Y,ac]
      have ag:(part f.type A.toArray f.offset).run P w=.ok y w:=by rw[O];simp [part,jC Y,ad]
      have key:∀(e:Bool),(Op.equalIn (d+1) f.type x y).run P w=.ok e w→∀r,jy F J=some r→b=(e&&r)→ft iT F=true→ft iT J=true→(Op.eqFields (d+1) xs.toArray A.toArray (f::kb)).run P w=.ok b w:=by
       intro e he r B u k1 pz;simp only[Op.eqFields,cZ,ne_eq,not_false_eq_true,↓reduceIte,Sem.run_bind,ae,ag,Result.andThen_ok,he];cases e with
       |false=>simp [u]
       |true=>simp only[hK,b5,↓reduceIte];rw[u,ey];exact Z iT (j+1) cs iE xs A r aV (by rw[U];exact k1) (by rw[V];exact pz) a1 ez (by rw[U,V];exact B) d
      cases k with
      |int eG=>cases c<;> simp [ft] at aw;cases oK<;> simp [ft] at bS;rename_i k1 a pz f6;obtain⟨rfl,aw⟩:=aw;obtain⟨rfl,bS⟩:=bS;cases H<;> simp [li] at eo;simp only[jy,↓reduceIte] at h;obtain⟨r,B,u⟩:=Option.map_eq_some_iff.1 h;rw[M.eP,N.eP] at key;exact key _ (run_equalIn_int w d f.type _ _ a f6 I) r B u.symm aw bS
      |str=>
       cases c<;> simp [ft] at aw;cases oK<;> simp [ft] at bS;rename_i a f6;cases H<;> simp [li] at eo;simp only[jy] at h;obtain⟨r,B,u⟩:=Option.map_eq_some_iff.1 h;obtain⟨z,rfl,gA⟩:=M.iF;obtain⟨abv,rfl,ah⟩:=N.iF;have ai:(a==f6)=(z.toList==abv.toList):=by
        rw[←gA,←ah,ByteArray.toList_eq,ByteArray.toList_eq];rw[Bool.eq_iff_iff];simp only[beq_iff_eq];constructor
        ·intro e;exact(List.map_inj_right (f:=UInt8.toNat) (fun a b h=>UInt8.toNat_inj.1 h)).1 e
        ·intro e;rw[e]
       rw[ai] at u;exact key _ (run_equalIn_string w d f.type z abv I) r B u.symm aw bS
      |bool=>cases c<;> simp [ft] at aw;cases oK<;> simp [ft] at bS;rename_i a f6;cases H<;> simp [li] at eo;simp only[jy] at h;obtain⟨r,B,u⟩:=Option.map_eq_some_iff.1 h;rw[M.ho,N.ho] at key;exact key _ (run_equalIn_bool' w d f.type a f6 I) r B u.symm aw bS
theorem Ar{T:lj}(e1:T.qv P)(ba:db κ s w){iT:List yo}{b neg:Bool}{v u:af}{t yt:TypeId}{x y:Operand}{kb:Array Field}{op:BinOp}(F:op=if neg then .neq else .eql)(eo:P.underlying t=some (.struct kb))(he:T.eqs t=true)(bA:jF T 0 iT kb.toList=true)
  (a1:dK κ (s.aa+1) (v.ao s.aa) (ρ x))(ez:dK κ (s.aa+1) (u.ao s.aa) (ρ y))(h:oi (.agg iT) v u=some b):dT P (.binOp op t x y yt) ty ρ κ s w (.bool (bif neg then !b else b)) s:=by
 obtain⟨ar,aw⟩:=e1.eqs t he;have A:P.fieldsOf t=kb:=by simp [Program.fieldsOf,eo]
 rw[←wh (d:=s.aa)] at h;generalize I:v.ao s.aa=f7 at *;generalize J:u.ao s.aa=M at *;simp only[oi] at h;split at h
 ·rename_i cs iE;cases e:ft iT cs&&ft iT iE with
  |false=>rw[e] at h;cases h
  |true=>
   rw[e] at h;rw[bo] at e;obtain⟨xs,ex,gv⟩:=a1.m9;obtain⟨r,B,H⟩:=ez.m9;have run:=yK (w:=w) e1 kb.toList iT 0 cs iE xs r b bA (by simpa using e.1) (by simpa using e.2) gv H (by simpa using h) 9998;have dn:=run_equalIn_agg (P:=P) w 9999 t xs.toArray r.toArray (by rw[A];exact eo) ar;rw[A,run] at dn;have g:=fun op=>run_eqGuard_agg (P:=P) w op t x y xs.toArray r.toArray aw
   refine bQ ba _ (fun dst pos after guard=>?_) (.bool _);subst F;cases neg
   ·have wj:=run_eql_struct (P:=P) w t xs.toArray r.toArray;rw[dn] at wj;simp only[execOp,b5,↓reduceIte,ex,B,Sem.run_bind,g,Result.andThen_ok,wj,Sem.run_pure,cond_false]
   ·have wj:=run_neq_struct (P:=P) w t xs.toArray r.toArray;rw[dn] at wj;simp only[execOp,↓reduceIte,ex,B,Sem.run_bind,g,Result.andThen_ok,wj,Sem.run_pure,bD]
 ·cases h
end
theorem r4{P:Program}{w:World}(d:Nat){t e:TypeId}{k:IntKind}(eo:P.underlying t=some (.array 2 e))(he:P.underlying e=some (.int k))(ba:fw P e=some 1){k0 k1:IntKind}(u y Ox wj:Int):
  (Op.equalIn (d+2) t (.agg #[.int k0 u,.int k1 y]) (.agg #[.int k0 Ox,.int k1 wj])).run P w=.ok (u==Ox&&y==wj) w:=by
 have fi:(sizeOf e).run P w=.ok 1 w:=eQ ba w;have A:lv P e=some false:=by simp [lv,he,Cf]
 have p:∀(xs:Array Value) (i:Nat) (v:Value),xs[i]? =some v→(part e xs i).run P w=.ok v w:=fun xs i v h=>by simp [part,jC A,h]
 obtain⟨gg,cW⟩:∃gg,gg=d+1:=⟨_,rfl⟩;have r:∀(k0:IntKind) (a b:Int),(Op.equalIn gg e (.int k0 a) (.int k0 b)).run P w=.ok (a==b) w:=fun k0 a b=>by rw[cW];exact run_equalIn_int w d e k0 k a b he
 rw[show d+2=gg+1 by omega];simp only[Op.equalIn,Sem.run_bind,run_underlying eo,Result.andThen_ok,fi];simp only[Std.Legacy.Range.forIn_eq_forIn_range',Std.Legacy.Range.size,List.range',Nat.sub_zero,Nat.add_sub_cancel,Nat.div_one,List.forIn_cons,List.forIn_nil,Sem.run_bind,Nat.mul_one,bh,Nat.reduceAdd,Nat.reduceSub,Nat.reduceDiv];rw[p _ 0 (.int k0 u) rfl];simp only[Result.andThen_ok];rw[p _ 0 (.int k0 Ox) rfl];simp only[Result.andThen_ok];rw[r];cases eO:u==Ox with
 |false=>simp
 |true=>simp only[Result.andThen_ok,hK,b5,↓reduceIte,Sem.run_pure,Sem.run_bind];rw[p _ 1 (.int k1 y) rfl];simp only[Result.andThen_ok];rw[p _ 1 (.int k1 wj) rfl];simp only[Result.andThen_ok];rw[r];cases ar:y==wj<;> simp
section
variable{P:Program}{ty:TypeId}{ρ:Operand→Value}{κ:bq}{s:ah}{w:World}
theorem As{T:lj}(e1:T.qv P)(ba:db κ s w){k0 k1:IntKind}{b neg:Bool}{v u:af}{t yt:TypeId}{x y:Operand}{e:TypeId}{k:IntKind}{op:BinOp}(J:op=if neg then .neq else .eql)(eo:P.underlying t=some (.array 2 e))(he:T.eqs t=true)(hu:P.underlying e=some (.int k))(gA:fw P e=some 1)
  (a1:dK κ (s.aa+1) (v.ao s.aa) (ρ x))(ez:dK κ (s.aa+1) (u.ao s.aa) (ρ y))(h:oi (.agg [.int k0,.int k1]) v u=some b):dT P (.binOp op t x y yt) ty ρ κ s w (.bool (bif neg then !b else b)) s:=by
 obtain⟨ar,aw⟩:=e1.eqs t he;rw[←wh (d:=s.aa)] at h;generalize N:v.ao s.aa=f7 at *;generalize O:u.ao s.aa=U at *;simp only[oi] at h;split at h
 ·rename_i cs iE;cases B:ft [.int k0,.int k1] cs&&ft [.int k0,.int k1] iE with
  |false=>rw[B] at h;cases h
  |true=>
   rw[B] at h;rw[bo] at B;have I:∀cs,ft [.int k0,.int k1] cs=true→∃r A,cs=[.int k0 r,.int k1 A]:=fun cs h=>by
    match cs with
    |[]=>simp [ft] at h
    |[c]=>cases c<;> simp [ft] at h
    |c::oK::l=>
     cases c<;> simp [ft] at h;cases oK<;> simp [ft] at h;obtain⟨rfl,rfl,bS⟩:=h;cases l with
     |nil=>exact⟨_,_,rfl⟩
     |cons _ _=>simp [ft] at bS
   obtain⟨r,A,rfl⟩:=I cs B.1;obtain⟨Ox,wj,rfl⟩:=I iE B.2;obtain⟨xs,ex,gv⟩:=a1.m9;obtain⟨V,H,M⟩:=ez.m9;have two:∀(r A:Int) (xs:List Value),eH κ (s.aa+1) [.int k0 r,.int k1 A] xs→xs=[.int k0 r,.int k1 A]:=fun r A xs h=>by
    match xs,h with
    |[g6,bP],h=>rw[(h.2 0 _ _ rfl rfl).eP,(h.2 1 _ _ rfl rfl).eP]
   rw[two _ _ _ gv] at ex;rw[two _ _ _ M] at H;simp only[jy,↓reduceIte,ep,Bool.and_true,bD,bt] at h;have run:=r4 (P:=P) (w:=w) 9998 eo hu gA (k0:=k0) (k1:=k1) r A Ox wj;have g:=fun op=>run_eqGuard_agg (P:=P) w op t x y #[.int k0 r,.int k1 A] #[.int k0 Ox,.int k1 wj] aw
   refine bQ ba _ (fun dst pos after guard=>?_) (.bool _);subst J;cases neg
   ·have F:=run_eql_struct (P:=P) w t #[.int k0 r,.int k1 A] #[.int k0 Ox,.int k1 wj];rw[run] at F;simp only[execOp,b5,↓reduceIte,ex,H,Sem.run_bind,g,Result.andThen_ok,F,Sem.run_pure,cond_false,←h]
   ·have F:=run_neq_struct (P:=P) w t #[.int k0 r,.int k1 A] #[.int k0 Ox,.int k1 wj];rw[run] at F;simp only[execOp,↓reduceIte,ex,H,Sem.run_bind,g,Result.andThen_ok,F,Sem.run_pure,bD,←h]
 ·cases h
end
theorem Cq{κ:bq}{D d:Nat}{v:af}{x:Value}(bX:dK κ D (v.ao d) x):dK κ D ((oO v).ao d) x:=by
 unfold oO;split
 ·rename_i sz es a;cases aV:af.aX es with
  |false=>exact bX
  |true=>
   simp only[bD];simp only[af.ao] at bX ⊢;rcases bX.hY with⟨_,aw,_⟩|⟨f6,cap,dz,rfl,b2,cZ,h,dB,y,r,u⟩
   ·simp [e0.ao] at aw
   ·exact .bx _ _ _ _ _ dz trivial cZ h dB (.inl fun e he=>eA.1 aV e he) r u
 ·exact bX
theorem FV(s:ah)(v:af):(Ad s v).ao s.aa=v.ao s.aa:=by
 unfold Ad;split
 ·rename_i d i o l c z;cases e:Nat.beq d s.aa with
  |false=>rfl
  |true=>have:=dq e;subst this;rfl
 ·rfl
section
variable{P:Program}{T:lj}(e1:T.qv P){ty:TypeId}{κ:bq}{s:ah}{w:World}(ba:db κ s w){E:Env}(bB:E.F=.not)(g5:nK P E){ap:Nat→af}{a:Act}(cd:yk κ s ap a)(d8:kQ κ E.ax){k kp:af→ah→ai}{r:ai}(bA:r≠.fail)
include ba bB cd d8 bA
theorem oV{v:Option af}(h:rL E s k v=r):∃f7,v=some f7∧k f7 s=r:=by
 cases v with
 |none=>exact absurd h.symm bA
 |some f7=>simp only[rL,bB,a2.not] at h;exact⟨f7,rfl,h⟩
theorem FW{o:BinOp}{x y:bN}{kT vl:Operand}{t yt:TypeId}(a1:cQ x kT=true)(ez:cQ y vl=true)(aV:rL E s k (al o (au E.ax ap x) (au E.ax ap y))=r):∃v s',k v s'=r∧po P (.binOp o t kT vl yt) ty a.eval κ s w v s':=by
 obtain⟨v,bX,cK⟩:=oV ba bB cd d8 bA aV;refine⟨v,s,cK,.inl ?_⟩;have ar:=bF cd d8 a1;have aw:=bF cd d8 ez;generalize au E.ax ap x=X at ar bX;generalize au E.ax ap y=Y at aw bX;unfold al at bX;split at bX
 ·exact rX ba ar.eP aw.eP (.inl rfl) bX
 ·exact rX ba ar.eP aw.eP (.inr rfl) bX
 ·rename_i k1 h pz u _ _;split at bX
  ·rename_i e;subst e;exact v7 ba ar.eP aw.eP bX
  ·cases bX
 ·exact v8 ba ar aw bX
 ·cases bX
theorem MM{o:UnOp}{x:bN}{kT:Operand}{t:TypeId}(a1:cQ x kT=true)(aV:rL E s k (kP o (au E.ax ap x))=r):∃v s',k v s'=r∧po P (.unOp o t kT) ty a.eval κ s w v s':=by
 obtain⟨v,bX,cK⟩:=oV ba bB cd d8 bA aV;refine⟨v,s,cK,.inl ?_⟩;have ar:=bF cd d8 a1;generalize au E.ax ap x=X at ar bX;unfold kP at bX;split at bX
 ·simp only[bt] at bX;subst bX;exact ys ba ar.eP
 ·simp only[bt] at bX;subst bX;exact yu ba ar.eP
 ·simp only[bt] at bX;subst bX;exact yv ba ar.ho
 ·cases bX
theorem um{f:af→af→Option af}{g:Value→Value→Sem Value}(u:∀x y z X Y,f x y=some z→dK κ (s.aa+1) x X→dK κ (s.aa+1) y Y→∃Z,(g X Y).run P w=.ok Z w∧dK κ (s.aa+1) z Z){xs:List bN}{e:List Operand}(gv:dH xs e=true)
  {o:Op}(A:∀x rest,e.map a.eval=x::rest→∀dst pos after guard,execOp a.eval ⟨dst,o,ty,pos,after,guard⟩=(do pure (.value (←rest.foldlM g x)):Sem Next))
  (aV:lN E s k f (xs.map fun x=>(au E.ax ap x).ao s.aa)=r):∃v s',k v s'=r∧po P o ty a.eval κ s w v s':=by
 have bX:=iX cd d8 xs e gv;cases lg:xs.map (fun x=>(au E.ax ap x).ao s.aa) with
 |nil=>rw[lg] at aV;exact absurd aV.symm bA
 |cons x l=>
  rw[lg] at aV bX;cases h:e.map a.eval with
  |nil=>rw[h] at bX;exact absurd bX.1 (by simp)
  |cons Y L=>rw[h] at bX;simp only[lN] at aV;obtain⟨v,ar,cK⟩:=oV ba bB cd d8 bA aV;obtain⟨V,aw,bS⟩:=zh f g u l L x v Y ar (bX.2 0 x Y rfl rfl) ⟨by have:=bX.1;simpa using this,fun j c y a0 ez=>bX.2 (j+1) c y (by simpa using a0) (by simpa using ez)⟩;refine⟨v,s,cK,.inl (bQ ba V (fun dst pos after guard=>?_) (by rw[bS.lO];exact bS))⟩;rw[A Y L h];simp [aw]
theorem wu{o:Op}{ρ:Operand→Value}{v:af}{s':ah}(cK:k v s'=r)(h:dT P o ty ρ κ s w v s'):∃v s',k v s'=r∧po P o ty ρ κ s w v s':=⟨v,s',cK,.inl h⟩
theorem nC{o:Op}{ρ:Operand→Value}(h:∃v,k v s=r∧dT P o ty ρ κ s w v s):∃v s',k v s'=r∧po P o ty ρ κ s w v s':=by obtain⟨v,ar,aw⟩:=h;exact⟨v,s,ar,.inl aw⟩
theorem va{o:Op}{ρ:Operand→Value}(h:∃v s',k v s'=r∧dT P o ty ρ κ s w v s'):∃v s',k v s'=r∧po P o ty ρ κ s w v s':=by obtain⟨v,s',ar,aw⟩:=h;exact⟨v,s',ar,.inl aw⟩
include g5 in
theorem my{f:Nat}{args:List af}{xs:List Value}{o:Op}{ρ:Operand→Value}(a1:eH κ (s.aa+1) args xs)(e:∀dst pos after guard,execOp ρ ⟨dst,o,ty,pos,after,guard⟩=callFunc f xs.toArray)(aV:eN E s k kp f args=r):∃v s',k v s'=r∧po P o ty ρ κ s w v s':=by
 unfold eN at aV;cases a0:E.call f args s with
 |fail=>rw[a0] at aV;exact absurd aV.symm bA
 |panic v s'=>exact absurd a0 (g5.ov _ _ _ _ _)
 |ok v s'=>rw[a0] at aV;obtain⟨_,h⟩:=c9 aV bA;exact⟨v,s',h,yJ g5 ba d8 a0 a1 e⟩
include g5 in
theorem qV{f:Nat}{args:List af}{xs:List Value}{o:Op}{ρ:Operand→Value}(a1:eH κ (s.aa+1) args xs)(h:∀dst pos after guard,execOp ρ ⟨dst,o,ty,pos,after,guard⟩=callFunc f xs.toArray)(aV:hX E s k f args=r):∃v s',k v s'=r∧po P o ty ρ κ s w v s':=by
 unfold hX at aV;obtain⟨u,e⟩:=c9 aV bA;cases a0:E.call f args {own:=[],up:=[],ro:=[]} with
 |fail=>rw[a0] at e;exact absurd e.symm bA
 |panic v s'=>exact absurd a0 (g5.ov _ _ _ _ _)
 |ok v s'=>rw[a0] at e;obtain⟨y,A⟩:=c9 e bA;exact⟨v,s,A,wq g5 ba d8 a0 y a1 u h⟩
include e1 g5 in
theorem Cr{ad:gD}{op:Op}(h:eU T ad op=true)(aV:aP E ap s k kp ad=r):∃v s',k v s'=r∧po P op ty a.eval κ s w v s':=by
 have iC:E.F=.not:=bB;cases ad with
 |move x=>
  simp only[aP,bB,a2.not] at aV;simp only[eU] at h;split at h
  ·exact wu ba bB cd d8 bA aV (uf ba (bF cd d8 h))
  ·exact wu ba bB cd d8 bA aV (qO ba (bF cd d8 h))
  ·cases h
 |n2 x=>
  simp only[aP,bB,a2.not] at aV;simp only[eU] at h;split at h
  ·exact wu ba bB cd d8 bA aV (uf ba (Cq (bF cd d8 h)))
  ·exact wu ba bB cd d8 bA aV (qO ba (Cq (bF cd d8 h)))
  ·cases h
 |pD x=>
  simp only[aP] at aV;simp only[eU] at h;split at h
  ·exact va ba bB cd d8 bA (r1 ba bB bA (fun _ _ _ _=>by simp [execOp]) (bF cd d8 h) aV)
  ·exact va ba bB cd d8 bA (r1 ba bB bA (fun _ _ _ _=>by simp [execOp]) (bF cd d8 h) aV)
  ·cases h
 |pick c x y=>
  simp only[aP] at aV;simp only[eU] at h;split at h
  ·simp only[bo] at h;have a0:=bF cd d8 h.1.1;generalize au E.ax ap c=X at a0 aV;cases X<;> simp only[n6,bB,a2.not] at aV<;> try exact absurd aV.symm bA
   exact wu ba bB cd d8 bA aV (Ce ba a0.ho (bF cd d8 h.1.2) (bF cd d8 h.2))
  ·cases h
 |alloc z=>
  simp only[aP,bB,a2.not] at aV;simp only[eU] at h;split at h
  ·exact wu ba bB cd d8 bA aV (An ba (e1.zero h))
  ·cases h
 |fe x=>
  simp only[aP,bB,a2.not] at aV;simp only[eU] at h;obtain⟨H,M⟩:=c9 aV bA;split at h
  ·exact wu ba bB cd d8 bA M (Ao ba (bF cd d8 h) H)
  ·cases h
 |kq x=>
  simp only[aP,bB,a2.not] at aV;simp only[eU] at h;obtain⟨H,M⟩:=c9 aV bA;split at h
  ·exact wu ba bB cd d8 bA M (yC ba (bF cd d8 h) H)
  ·cases h
 |build z er=>
  simp only[aP] at aV;simp only[eU] at h;obtain⟨v,ar,cK⟩:=oV ba bB cd d8 bA aV;cases ac:fC E.ax s.aa ap z er with
  |none=>rw[ac] at ar;cases ar
  |some cs=>
   rw[ac] at ar;simp only[ep,bt] at ar;subst ar;split at h
   ·rename_i t u;split at h
    ·rename_i kb eo;split at h
     ·rename_i pl aj;simp only[bo] at h
      have:=qF (ty:=ty) ba cd d8 (e1.eh _ _ eo) (e1.zero h.1) (pl:=pl.toArray) (by simpa using pn e1 _ _ aj) h.2 ac;exact wu ba bB cd d8 bA cK (by simpa using this)
     ·cases h
    ·rename_i n el eo;split at h
     ·rename_i sz fi;simp only[bo] at h
      have:=rm (ty:=ty) ba cd d8 (e1.eh _ _ eo) (e1.size fi) (e1.zero h.1) h.2 ac;exact wu ba bB cd d8 bA cK (by simpa using this)
     ·cases h
    ·cases h
   ·cases h
 |buildSlice sz er=>
  simp only[aP,ia,bB,a2.not] at aV;simp only[eU] at h;obtain⟨H,M⟩:=c9 aV bA;split at h
  ·rename_i t len u;split at h
   ·rename_i el eo;simp only[bo,beq_iff_eq] at h;obtain⟨⟨⟨⟨⟨ar,aw⟩,bS⟩,dB⟩,B⟩,A⟩:=h;obtain⟨J,e,c0⟩:=kv 0 er u.toList A;have hlen:er.length=J.length:=by
     have:∀(er:List bN) (u:List Operand),dH er u=true→er.length=u.length:=by
      intro er
      induction er with
      |nil=>intro u h;cases u<;> simp [dH] at h ⊢
      |cons p er Y=>intro u h;cases u with
       |nil=>simp [dH] at h
       |cons q u=>simp only[dH,bo] at h;simp [Y u h.2]
     exact this er J c0
    have bU:len=J.length:=by rw[←hlen];exact dq dB
    simp only[bo,List.all_eq_true,Nat.beq_eq_true_eq] at H;have ai:=d9 B
    have:=rY (ty:=ty) ba cd d8 (e1.eh _ _ eo) (e1.size ar) (e1.zero aw) (dq bS) (by rw[←bU];omega) c0 H.1 (fun e he=>⟨(H.2 e he).1,dq (H.2 e he).2⟩);rw[←e] at this;rw[bU];exact wu ba bB cd d8 bA M (by simpa using this)
   ·cases h
  ·cases h
 |load n x=>
  simp only[aP] at aV;simp only[eU] at h;split at h
  ·simp only[bo] at h;exact nC ba bB cd d8 bA (Ch ba bB bA (e1.load h.1) (bF cd d8 h.2) aV)
  ·cases h
 |store n x v=>
  simp only[aP] at aV;simp only[eU] at h;split at h
  ·simp only[bo,beq_iff_eq] at h;exact va ba bB cd d8 bA (rZ ba bB bA (e1.size h.1.1) (bF cd d8 h.1.2) (bF cd d8 h.2) aV)
  ·cases h
 |lL m y n x v=>
  simp only[aP,lU] at aV;simp only[eU] at h;split at h
  ·simp only[bo,beq_iff_eq] at h;obtain⟨v,s',dn,I⟩:=va ba bB cd d8 bA (rZ ba bB bA (e1.size h.1.1) (bF cd d8 h.1.2) (bF cd d8 h.2) aV);exact⟨v,s',(c9 dn bA).2,I⟩
  ·cases h
 |nilCheck x=>
  simp only[aP] at aV;simp only[eU] at h;split at h
  ·have a1:=bF cd d8 h;generalize au E.ax ap x=X at a1 aV;unfold jz at aV;split at aV
   ·simp only[bB,a2.not] at aV;exact wu ba bB cd d8 bA aV (u7 ba a1 (by assumption))
   ·exact absurd aV.symm bA
  ·cases h
 |bin o x y=>
  simp only[aP] at aV;simp only[eU] at h;split at h
  ·simp only[bo,zg,b9] at h;obtain⟨⟨rfl,aw⟩,bS⟩:=h;exact FW ba bB cd d8 bA aw bS aV
  ·cases h
 |eq neg e x y=>
  simp only[aP] at aV;simp only[eU] at h;obtain⟨v,ar,cK⟩:=oV ba bB cd d8 bA aV;split at h
  ·split at h
   ·rename_i d eo;simp only[bo,zg,b9] at h;obtain⟨⟨⟨dn,aw⟩,bS⟩,dB⟩:=h;cases he:oi e (au E.ax ap x) (au E.ax ap y) with
    |none=>rw[he] at ar;cases ar
    |some b=>
     rw[he] at ar;simp only[ep,bt] at ar;subst ar;rcases(Bool.or_eq_true _ _).mp aw with aw|aw
     ·exact wu ba bB cd d8 bA cK (MJ ba dn (e1.eh _ _ eo) aw (bF cd d8 bS) (bF cd d8 dB) he)
     ·unfold abb at aw;split at aw
      ·simp only[bo] at aw;exact wu ba bB cd d8 bA cK (Ar e1 ba dn (e1.eh _ _ eo) aw.1 aw.2 (bF cd d8 bS) (bF cd d8 dB) he)
      ·simp only[bo,beq_iff_eq] at aw;obtain⟨⟨B,A⟩,N⟩:=aw;split at A
       ·rename_i hu;exact wu ba bB cd d8 bA cK (As e1 ba dn (e1.eh _ _ eo) B (e1.eh _ _ hu) (e1.size N) (bF cd d8 bS) (bF cd d8 dB) he)
       ·cases A
      ·cases aw
   ·cases h
  ·cases h
 |un o x=>
  simp only[aP] at aV;simp only[eU] at h;split at h
  ·simp only[bo,b9] at h;obtain⟨rfl,aw⟩:=h;exact MM ba bB cd d8 bA aw aV
  ·cases h
 |lT d x=>
  simp only[aP] at aV;simp only[eU] at h;split at h
  ·split at h
   ·rename_i O U;simp only[bo,b9] at h;obtain⟨rfl,aw⟩:=h;have a1:=bF cd d8 aw;generalize au E.ax ap x=X at a1 aV;cases X<;> simp only[kG,bB,a2.not] at aV<;> try exact absurd aV.symm bA
    exact wu ba bB cd d8 bA aV (v9 ba (e1.eh _ _ O) (e1.eh _ _ U) a1.eP)
   ·cases h
  ·cases h
 |oL x=>
  simp only[aP] at aV;simp only[eU] at h;split at h
  ·split at h
   ·rename_i O U;have a1:=bF cd d8 h;generalize au E.ax ap x=X at a1 aV;cases X<;> simp only[mY] at aV<;> try exact absurd aV.symm bA
    exact wu ba bB cd d8 bA aV (yw ba (e1.eh _ _ O) (e1.eh _ _ U) a1)
   ·cases h
  ·cases h
 |hc x=>
  simp only[aP] at aV;simp only[eU] at h;split at h
  ·split at h
   ·rename_i O U;split at h
    ·rename_i iQ;exact nC ba bB cd d8 bA (r3 ba bB bA (e1.eh _ _ O) (e1.eh _ _ iQ) (e1.eh _ _ U) (bF cd d8 h) aV)
    ·cases h
   ·cases h
  ·cases h
 |jv x=>
  simp only[aP] at aV;simp only[eU] at h;split at h
  ·split at h
   ·rename_i O U;split at h
    ·rename_i iQ;exact nC ba bB cd d8 bA (r2 ba bB bA (e1.eh _ _ O) (e1.eh _ _ U) (e1.eh _ _ iQ) (bF cd d8 h) aV)
    ·cases h
   ·cases h
  ·cases h
 |kc t x=>
  simp only[aP,bB,a2.not] at aV;simp only[eU] at h;split at h
  ·split at h
   ·cases h
   ·rename_i d cW eo;simp only[bo] at h
    have:=dq h.1;subst this;exact wu ba bB cd d8 bA aV (wa ba (e1.eh _ _ eo) (by cases d<;> first|rfl |exact absurd rfl (cW _)) (bF cd d8 h.2))
   ·cases h
  ·cases h
 |kR f dM=>
  simp only[aP,bB,a2.not] at aV;simp only[eU] at h;split at h
  ·rename_i yp first an
   simp only[bo] at h;have dn:=dq h.1.1;have I:first= #[]:=Array.eq_empty_of_size_eq_zero (dq h.1.2)
   subst dn;subst I
   have:=yD (P:=P) (ty:=ty) ba (f:=f) cd d8 h.2;exact wu ba bB cd d8 bA aV (by simpa using this)
  ·cases h
 |makeSlice z bytes l c=>
  simp only[aP] at aV;simp only[eU] at h;split at h
  ·split at h
   ·rename_i eo;simp only[bo,beq_iff_eq] at h;obtain⟨⟨⟨⟨⟨ar,aw⟩,bS⟩,dB⟩,B⟩,A⟩:=h;exact va ba bB cd d8 bA (tH ba bB bA (e1.eh _ _ eo) (e1.zero ar) (e1.size aw) (e1.bytes bS) (by simpa [Nat.blt_eq] using dB) (bF cd d8 B) (bF cd d8 A) aV)
   ·cases h
  ·cases h
 |kS x gz bZ=>
  simp only[aP] at aV;simp only[eU] at h;split at h
  ·split at h
   ·rename_i eo;simp only[bo] at h;exact nC ba bB cd d8 bA (yA ba bB bA cd d8 (e1.eh _ _ eo) h.1.1 h.1.2 h.2 aV)
   ·cases h
  ·cases h
 |slice sz x gz bZ jf=>
  simp only[aP] at aV;simp only[eU] at h;split at h
  ·split at h
   ·rename_i eo;simp only[bo,beq_iff_eq] at h;obtain⟨⟨⟨⟨⟨ar,aw⟩,bS⟩,dB⟩,B⟩,A⟩:=h;exact nC ba bB cd d8 bA (Al ba bB bA cd d8 (e1.eh _ _ eo) (e1.size ar) aw bS dB B (by intro hm;rw[hm] at A;simpa using A) aV)
   ·cases h
  ·cases h
 |fieldAddr off x=>
  simp only[aP] at aV;simp only[eU] at h;split at h
  ·split at h
   ·rename_i eo;split at h
    ·rename_i ae;split at h
     ·rename_i gA;simp only[bo] at h;exact nC ba bB cd d8 bA (tF ba bB bA (e1.eh _ _ eo) ae (dq h.1.1) (e1.size gA) (by have:=h.1.2;rw[Nat.blt_eq] at this;omega) (bF cd d8 h.2) aV)
     ·cases h
    ·cases h
   ·cases h
  ·cases h
 |field off n x=>
  simp only[aP] at aV;simp only[eU] at h;split at h
  ·split at h
   ·rename_i eo;split at h
    ·rename_i ae;simp only[bo] at h;exact nC ba bB cd d8 bA (Aj ba bB bA (e1.eh _ _ eo) ae (dq h.1.1) (e1.load h.1.2) (bF cd d8 h.2) aV)
    ·cases h
   ·cases h
  ·cases h
 |jw sz x i=>
  simp only[aP] at aV;simp only[eU] at h;split at h
  ·split at h
   ·rename_i eo;simp only[bo,beq_iff_eq] at h;exact nC ba bB cd d8 bA (Ak ba bB bA (e1.eh _ _ eo) (e1.size h.1.1) (bF cd d8 h.1.2) (bF cd d8 h.2) aV)
   ·cases h
  ·cases h
 |fM sz len x i=>
  simp only[aP] at aV;simp only[eU] at h;split at h
  ·split at h
   ·rename_i eo;simp only[bo,beq_iff_eq] at h
    have:=dq h.1.1.1;subst this;exact nC ba bB cd d8 bA (yz ba bB bA (e1.eh _ _ eo) (e1.size h.1.1.2) (bF cd d8 h.1.2) (bF cd d8 h.2) aV)
   ·cases h
  ·cases h
 |nE x i=>
  simp only[aP] at aV;simp only[eU] at h;split at h
  ·split at h
   ·rename_i eo;simp only[bo] at h;exact nC ba bB cd d8 bA (yy ba bB bA (e1.eh _ _ eo) (bF cd d8 h.1) (bF cd d8 h.2) aV)
   ·cases h
  ·cases h
 |oM sz len n x i=>
  simp only[aP] at aV;simp only[eU] at h;split at h
  ·split at h
   ·rename_i eo;simp only[bo,beq_iff_eq] at h
    have:=dq h.1.1.1.1;subst this;exact nC ba bB cd d8 bA (yx ba bB bA (e1.eh _ _ eo) (e1.size h.1.1.1.2) (e1.load h.1.1.2) (bF cd d8 h.1.2) (bF cd d8 h.2) aV)
   ·cases h
  ·cases h
 |extract x i=>
  simp only[aP] at aV;simp only[eU] at h;split at h
  ·simp only[bo] at h
   have:=dq h.1;subst this;have a1:=bF cd d8 h.2;generalize au E.ax ap x=X at a1 aV;cases X<;> simp only[kF] at aV<;> try exact absurd aV.symm bA
   rename_i vs;obtain⟨v,ar,cK⟩:=oV ba bB cd d8 bA aV;obtain⟨xs,ex,bU,bX⟩:=dK.v3 (x:=a.eval _) a1;have bZ:=(dy.1 ar).1;exact wu ba bB cd d8 bA cK (wb ba a1 ar ((bX i v _ ar (eb (by omega:i<xs.length))).lO _))
  ·cases h
 |call f xs=>
  simp only[aP,bB,a2.not] at aV;simp only[eU] at h;split at h
  ·rename_i c;split at h
   ·rename_i yp a0;simp only[bo] at h
    have:=dq h.1;subst this;exact my ba bB g5 cd d8 bA (iX cd d8 _ _ h.2) (fun dst pos after guard=>by rw[ly ⟨_,a0,rfl⟩];simp) aV
   ·cases h
  ·cases h
 |hU f xs=>
  simp only[aP,bB,a2.not] at aV;simp only[eU] at h;split at h
  ·rename_i c;split at h
   ·rename_i yp a0;simp only[bo] at h
    have:=dq h.1;subst this;exact qV ba bB g5 cd d8 bA (iX cd d8 _ _ h.2) (fun dst pos after guard=>by rw[ly ⟨_,a0,rfl⟩];simp) aV
   ·cases h
  ·cases h
 |eN g xs=>
  simp only[aP] at aV;simp only[eU] at h;split at h
  ·rename_i c;split at h
   ·rename_i g' a0;simp only[bo] at h;have a1:=bF cd d8 h.1;generalize au E.ax ap g=X at a1 aV;cases X<;> simp only[lM,bB,a2.not] at aV<;> try exact absurd aV.symm bA
    obtain⟨J,ab,bX⟩:=dK.vo (x:=a.eval _) a1;exact my ba bB g5 cd d8 bA ((iX cd d8 _ _ h.2).append bX) (fun dst pos after guard=>by rw[ly ⟨_,a0,ab⟩]) aV
   ·cases h
  ·cases h
 |mm g xs=>
  simp only[aP] at aV;simp only[eU] at h;split at h
  ·rename_i c;split at h
   ·rename_i g' a0;simp only[bo] at h;have a1:=bF cd d8 h.1;generalize au E.ax ap g=X at a1 aV;cases X<;> simp only[kj,bB,a2.not] at aV<;> try exact absurd aV.symm bA
    obtain⟨J,ab,bX⟩:=dK.vo (x:=a.eval _) a1;exact qV ba bB g5 cd d8 bA ((iX cd d8 _ _ h.2).append bX) (fun dst pos after guard=>by rw[ly ⟨_,a0,ab⟩]) aV
   ·cases h
  ·cases h
 |len b x=>
  simp only[aP] at aV;simp only[eU] at h;split at h
  ·split at h
   ·rename_i eo;simp only[bo] at h;exact nC ba bB cd d8 bA (wc ba bB bA (e1.eh _ _ eo) (.inl ⟨h.1,rfl⟩) (bF cd d8 h.2) aV)
   ·rename_i el eo;simp only[bo,Bool.not_eq_true'] at h;exact nC ba bB cd d8 bA (wc ba bB bA (e1.eh _ _ eo) (.inr ⟨h.1,el,rfl⟩) (bF cd d8 h.2) aV)
   ·cases h
  ·cases h
 |append sz bytes at_ x y=>
  simp only[aP,fN] at aV;simp only[eU] at h;split at aV
  rotate_left
  ·exact absurd aV.symm bA
  split at h
  ·rename_i kT vl t t2;split at h
   ·rename_i el eo;split at h
    ·rename_i n b z bZ;simp only[bo] at h;obtain⟨⟨⟨⟨⟨⟨⟨ar,aw⟩,bS⟩,dB⟩,B⟩,A⟩,N⟩,V⟩:=h;have dn:=dq aw;have I:=dq bS;subst dn;subst I;refine va ba bB cd d8 bA (qS ba bB bA (z:=z) ⟨e1.eh _ _ eo,?_,e1.info _ _ _ _ bZ,dq dB,by simpa [Nat.blt_eq] using B,d9 A⟩ (bF cd d8 N) (bF cd d8 V) aV);split at ar
     ·rename_i mx;exact .inl ⟨_,e1.eh _ _ mx⟩
     ·rename_i mx;exact .inr (e1.eh _ _ mx)
     ·cases ar
    ·cases h
   ·cases h
  ·cases h
 |kd sz bytes at_ x y=>
  simp only[aP,ln] at aV;split at aV
  rotate_left
  ·exact absurd aV.symm bA
  rename_i ak;rw[←ak] at aV;simp only[fN] at aV;simp only[eU] at h;split at aV
  rotate_left
  ·exact absurd aV.symm bA
  split at h
  ·rename_i kT vl t t2;split at h
   ·rename_i el eo;split at h
    ·rename_i n b z bZ;simp only[bo] at h;obtain⟨⟨⟨⟨⟨⟨⟨ar,aw⟩,bS⟩,dB⟩,B⟩,A⟩,N⟩,V⟩:=h;have dn:=dq aw;have I:=dq bS;subst dn;subst I;refine va ba bB cd d8 bA (qS ba bB bA (z:=z) ⟨e1.eh _ _ eo,?_,e1.info _ _ _ _ bZ,dq dB,by simpa [Nat.blt_eq] using B,d9 A⟩ (bF cd d8 N) (bF cd d8 V) aV);split at ar
     ·rename_i mx;exact .inl ⟨_,e1.eh _ _ mx⟩
     ·rename_i mx;exact .inr (e1.eh _ _ mx)
     ·cases ar
    ·cases h
   ·cases h
  ·cases h
 |ke sz bytes at_ x y=>
  simp only[aP,mZ] at aV;simp only[eU] at h;split at aV
  rotate_left
  ·exact absurd aV.symm bA
  split at h
  ·rename_i kT vl t t2;split at h
   ·rename_i el eo;split at h
    ·rename_i n b z bZ;simp only[bo] at h;obtain⟨⟨⟨⟨⟨⟨⟨ar,aw⟩,bS⟩,dB⟩,B⟩,A⟩,N⟩,V⟩:=h;have dn:=dq aw;have I:=dq bS;subst dn;subst I;refine va ba bB cd d8 bA (wl ba bB bA (z:=z) ⟨e1.eh _ _ eo,?_,e1.info _ _ _ _ bZ,dq dB,by simpa [Nat.blt_eq] using B,d9 A⟩ (bF cd d8 N) (bF cd d8 V) aV);split at ar
     ·rename_i mx;exact .inl ⟨_,e1.eh _ _ mx⟩
     ·rename_i mx;exact .inr (e1.eh _ _ mx)
     ·cases ar
    ·cases h
   ·cases h
  ·cases h
 |kf sz bytes x y=>
  simp only[aP] at aV;simp only[eU] at h;split at h
  ·rename_i kT vl t t2;split at h
   ·rename_i el eo;split at h
    ·rename_i n b z bZ;simp only[bo] at h;obtain⟨⟨⟨⟨⟨⟨⟨ar,aw⟩,bS⟩,dB⟩,B⟩,A⟩,N⟩,V⟩:=h;have dn:=dq aw;have I:=dq bS;subst dn;subst I;refine va ba bB cd d8 bA (wt ba bB bA (z:=z) ⟨e1.eh _ _ eo,?_,e1.info _ _ _ _ bZ,dq dB,by simpa [Nat.blt_eq] using B,d9 A⟩ (by rw[FV];exact bF cd d8 N) (bF cd d8 V) aV);split at ar
     ·rename_i mx;exact .inl ⟨_,e1.eh _ _ mx⟩
     ·rename_i mx;exact .inr (e1.eh _ _ mx)
     ·cases ar
    ·cases h
   ·cases h
  ·cases h
 |g0 sz er=>
  simp only[aP,il,bB,a2.not] at aV;simp only[eU] at h;obtain⟨H,M⟩:=c9 aV bA;split at h
  ·rename_i t len u;split at h
   ·rename_i el eo;simp only[bo,beq_iff_eq] at h;obtain⟨⟨⟨⟨⟨ar,aw⟩,bS⟩,dB⟩,B⟩,A⟩:=h;obtain⟨J,e,c0⟩:=kv 0 er u.toList A;have hlen:er.length=J.length:=by
     have:∀(er:List bN) (u:List Operand),dH er u=true→er.length=u.length:=by
      intro er
      induction er with
      |nil=>intro u h;cases u<;> simp [dH] at h ⊢
      |cons p er Y=>intro u h;cases u with
       |nil=>simp [dH] at h
       |cons q u=>simp only[dH,bo] at h;simp [Y u h.2]
     exact this er J c0
    have bU:len=J.length:=by rw[←hlen];exact dq dB
    simp only[bo,List.all_eq_true,Nat.beq_eq_true_eq] at H;have ai:=d9 B
    have:=rn (ty:=ty) ba cd d8 (e1.eh _ _ eo) (e1.size ar) (e1.zero aw) (dq bS) (by rw[←bU];omega) c0 rfl H.1 (fun e he=>⟨(H.2 e he).1,dq (H.2 e he).2⟩);rw[←e] at this;rw[bU];exact wu ba bB cd d8 bA M (by simpa using this)
   ·cases h
  ·cases h
 |g1 sz er=>
  simp only[aP,ki,bB,a2.not] at aV;simp only[eU] at h;obtain⟨H,M⟩:=c9 aV bA;split at h
  ·rename_i t len u;split at h
   ·rename_i el eo;simp only[bo,beq_iff_eq] at h;obtain⟨⟨⟨⟨⟨ar,aw⟩,bS⟩,dB⟩,B⟩,A⟩:=h;obtain⟨J,e,c0⟩:=kv 0 er u.toList A;have hlen:er.length=J.length:=by
     have:∀(er:List bN) (u:List Operand),dH er u=true→er.length=u.length:=by
      intro er
      induction er with
      |nil=>intro u h;cases u<;> simp [dH] at h ⊢
      |cons p er Y=>intro u h;cases u with
       |nil=>simp [dH] at h
       |cons q u=>simp only[dH,bo] at h;simp [Y u h.2]
     exact this er J c0
    have bU:len=J.length:=by rw[←hlen];exact dq dB
    simp only[bo,List.all_eq_true,Nat.beq_eq_true_eq] at H;have ai:=d9 B
    have:=rp (ty:=ty) ba cd d8 (e1.eh _ _ eo) (e1.size ar) (e1.zero aw) (dq bS) (by rw[←bU];omega) c0 rfl (fun e he=>⟨(H e he).1,dq (H e he).2⟩);rw[←e] at this;rw[bU];exact wu ba bB cd d8 bA M (by simpa using this)
   ·cases h
  ·cases h
 |jn sz len x gz bZ jf=>
  simp only[aP] at aV;simp only[eU] at h;split at h
  ·split at h
   ·rename_i eo;simp only[bo,beq_iff_eq] at h;obtain⟨⟨⟨⟨⟨⟨eO,ar⟩,aw⟩,bS⟩,dB⟩,B⟩,A⟩:=h
    have:=dq eO;subst this;exact nC ba bB cd d8 bA (yB ba bB bA cd d8 (e1.eh _ _ eo) (e1.size ar) aw bS dB B (by intro hm;rw[hm] at A;simpa using A) aV)
   ·cases h
  ·cases h
 |copy sz x y=>
  simp only[aP] at aV;simp only[eU] at h;split at h
  ·rename_i kT vl t t2;split at h
   ·rename_i el eo;simp only[bo,beq_iff_eq] at h;have a1:=bF cd d8 h.1.2;generalize au E.ax ap x=X at a1 aV;cases X<;> simp only[mq] at aV<;> try exact absurd aV.symm bA
    rename_i Ol off len cap q;obtain⟨fz,M⟩:=c9 aV bA
    have:=dq fz;subst this;exact va ba bB cd d8 bA (Cm ba bB bA (e1.eh _ _ eo) (e1.size h.1.1) (fun f6 ao aq av re e=>by cases e;rfl) a1 (bF cd d8 h.2) M)
   ·cases h
  ·cases h
 |min xs=>
  simp only[aP] at aV;simp only[eU] at h;split at h
  ·rename_i c;split at h
   ·rename_i a0;refine um ba bB cd d8 bA (g:=Builtin.min2) MK h (fun x rest af dst pos after guard=>?_) aV;have ag:(c.args.map a.eval).toList=x::rest:=by rw[Array.toList_map];exact af
    simp only[execOp,resolve,a0,pure_bind,invoke,builtin,Builtin.min_,ag]
   ·cases h
  ·cases h
 |max xs=>
  simp only[aP] at aV;simp only[eU] at h;split at h
  ·rename_i c;split at h
   ·rename_i a0;refine um ba bB cd d8 bA (g:=Builtin.max2) ML h (fun x rest af dst pos after guard=>?_) aV;have ag:(c.args.map a.eval).toList=x::rest:=by rw[Array.toList_map];exact af
    simp only[execOp,resolve,a0,pure_bind,invoke,builtin,Builtin.max_,ag]
   ·cases h
  ·cases h
 |makeMap at_=>
  simp only[aP] at aV;simp only[eU] at h;split at h
  ·exact va ba bB cd d8 bA (wo ba bB bA aV)
  ·cases h
 |nF ld m x v=>
  simp only[aP] at aV;simp only[eU] at h;have key:∀{t:TypeId} {jU kT f7:Operand} {o:Op},(match T.eh t with
   |some (.map ah _)=>
    match T.eh ah with
    |some d=>li ld d&&cQ m jU&&cQ x kT&&cQ v f7
    |none=>false
   |_=>false)=true→(∀dst pos after guard,execOp a.eval ⟨dst,o,ty,pos,after,guard⟩=(do Instr.mapUpdate t (a.eval jU) (a.eval kT) (a.eval f7);pure .skip:Sem Next))→∃v s',k v s'=r∧po P o ty a.eval κ s w v s':=by
   intro t jU kT f7 o h al;split at h
   ·rename_i ah am eo;split at h
    ·rename_i d cW;simp only[bo] at h;exact va ba bB cd d8 bA (yG ba bB bA (e1.eh _ _ eo) (e1.eh _ _ cW) h.1.1.1 (bF cd d8 h.1.1.2) (bF cd d8 h.1.2) (bF cd d8 h.2) al aV)
    ·cases h
   ·cases h
  split at h
  ·exact key h (fun _ _ _ _=>rfl)
  ·exact key h (fun _ _ _ _=>rfl)
  ·cases h
 |lookup ld z ok m x=>
  simp only[aP] at aV;simp only[eU] at h;split at h
  ·split at h
   ·rename_i ah am eo;split at h
    ·rename_i d n b Z cW bZ;simp only[bo,beq_iff_eq] at h;obtain⟨⟨⟨⟨ar,aw⟩,bS⟩,dB⟩,B⟩:=h;subst bS;obtain⟨i,i1,_,_,i2⟩:=e1.info _ _ _ _ bZ;exact nC ba bB cd d8 bA (yH ba bB bA (e1.eh _ _ eo) (e1.eh _ _ cW) ar i1 i2 aw (bF cd d8 dB) (bF cd d8 B) aV)
    ·cases h
   ·cases h
  ·cases h
 |l8 iT f xs=>
  simp only[aP,bB,a2.not] at aV;simp only[eU] at h;split at h
  ·rename_i c;split at h
   ·rename_i yp a0;simp only[bo] at h
    have:=dq h.1;subst this;obtain⟨v,s',dn,I⟩:=my (ty:=ty) (ρ:=a.eval) (o:=.call c) ba bB g5 cd d8 bA (iX cd d8 _ _ h.2) (fun dst pos after guard=>by rw[ly ⟨_,a0,rfl⟩];simp) aV;exact⟨v,s',c9 dn bA |>.2,I⟩
   ·cases h
  ·cases h
 |kr iT g xs=>
  simp only[aP] at aV;simp only[eU] at h;split at h
  ·rename_i c;split at h
   ·rename_i g' a0;simp only[bo] at h;have a1:=bF cd d8 h.1;generalize au E.ax ap g=X at a1 aV;cases X<;> simp only[kV,bB,a2.not] at aV<;> try exact absurd aV.symm bA
    obtain⟨J,ab,bX⟩:=dK.vo (x:=a.eval _) a1;obtain⟨v,s',dn,I⟩:=my (ty:=ty) (ρ:=a.eval) (o:=.call c) ba bB g5 cd d8 bA ((iX cd d8 _ _ h.2).append bX) (fun dst pos after guard=>by rw[ly ⟨_,a0,ab⟩]) aV;exact⟨v,s',c9 dn bA |>.2,I⟩
   ·cases h
  ·cases h
 |vN neg x=>
  simp only[aP] at aV;simp only[eU] at h;obtain⟨v,ar,cK⟩:=oV ba bB cd d8 bA aV;split at h
  ·split at h
   ·rename_i eo;simp only[bo,zg,b9] at h;exact wu ba bB cd d8 bA cK (Cl ba h.1 (e1.eh _ _ eo) (bF cd d8 h.2) rfl ar)
   ·cases h
  ·cases h
 |no=>exact absurd aV.symm bA
end
def ai.bind(r:ai)(k kp:af→ah→ai):ai:=
 match r with
 |.ok v s=>k v s
 |.panic v s=>kp v s
 |.fail=>.fail
section
variable{E:Env}(bB:E.F=.not)(ap:Nat→af)(s:ah)(k kp:af→ah→ai)
include bB
theorem lY(v:Option af):rL E s k v=ai.bind (rL E s .ok v) k kp:=by cases v<;> simp [rL,bB,a2.not,ai.bind]
theorem nL(m:Option Nat)(cs:List af):e3 E s k m cs=ai.bind (e3 E s .ok m cs) k kp:=by
 cases m<;> simp only[e3,bB,a2.not]
 ·cases cs<;> rfl
 ·cases Nat.ble _ _<;> rfl
theorem At(a:Loc)(off:Nat)(vs:List af):h9 E s k a off vs=ai.bind (h9 E s .ok a off vs) k kp:=by
 simp only[h9,bB,a2.not];cases s.get a with
 |none=>rfl
 |some o=>
  cases o<;> try rfl
  simp only;cases(_&&_:Bool)<;> try rfl
  simp only[bD];cases s.set a _<;> rfl
theorem yL(x:af)(gz bZ:Option bN):kh E ap s k x gz bZ=ai.bind (kh E ap s .ok x gz bZ) k kp:=by
 cases x<;> simp only[kh,bB,a2.not]<;> try rfl
 cases dL E.ax ap gz 0<;> try rfl
 cases dL E.ax ap bZ _<;> try rfl
 simp only;cases(_&&_:Bool)<;> rfl
theorem Au(z:Nat)(x:af)(gz bZ jf:Option bN):ks E ap s k z x gz bZ jf=ai.bind (ks E ap s .ok z x gz bZ jf) k kp:=by
 cases x<;> simp only[ks,bB,a2.not]<;> try rfl
 ·cases dL E.ax ap gz 0<;> try rfl
  cases dL E.ax ap bZ _<;> try rfl
  cases jf with
  |none=>simp only;cases(_&&_:Bool)<;> rfl
  |some x=>
   simp only;rename_i g _ _;cases ff (au E.ax ap x)<;> cases g<;> try rfl
   all_goals simp only;cases(_&&_:Bool)<;> rfl
 ·cases dL E.ax ap gz 0<;> try rfl
  cases dL E.ax ap bZ _<;> try rfl
  cases dL E.ax ap jf _<;> try rfl
  simp only;cases(_&&_:Bool)<;> rfl
theorem wv(q bytes:Nat)(b:Loc)(x y:af):h3 E s k q bytes b x y=ai.bind (h3 E s .ok q bytes b x y) k kp:=by
 simp only[h3,bB,a2.not];cases y<;> try rfl
 rename_i z new _;cases x<;> try rfl
 rename_i sz es g;simp only;cases(_&&_:Bool)<;> try rfl
 simp only[bD];cases new<;> try rfl
 cases g<;> try rfl
 ·simp only;cases rf s b _<;> try rfl
  simp only[bD];cases s.gU b _<;> rfl
 ·simp only;rename_i a;cases s.get a<;> try rfl
  rename_i o;cases o<;> try rfl
  simp only;cases(_&&_:Bool)<;> try rfl
  simp only[bD];cases s.set a _<;> rfl
theorem yM(z n:Nat)(x:af)(gz bZ jf:Option bN):i7 E ap s k z n x gz bZ jf=ai.bind (i7 E ap s .ok z n x gz bZ jf) k kp:=by
 cases x<;> simp only[i7,bB,a2.not]<;> try rfl
 cases dL E.ax ap gz 0<;> try rfl
 cases dL E.ax ap bZ _<;> try rfl
 cases dL E.ax ap jf _<;> try rfl
 simp only;cases(_&&_:Bool)<;> rfl
theorem qW(q bytes:Nat)(b:Loc)(x y:af):hd E s k q bytes b x y=ai.bind (hd E s .ok q bytes b x y) k kp:=by
 simp only[hd,bB,a2.not];cases dw s y with
 |none=>rfl
 |some p=>
  obtain⟨z,new⟩:=p;cases x<;> try rfl
  ·rename_i sz es g;simp only;cases(_&&_:Bool)<;> try rfl
   simp only[bD];cases new<;> try rfl
   cases g<;> try rfl
   ·simp only;cases s.gU b _<;> rfl
   ·simp only;cases s.gU b _<;> rfl
   rename_i a;simp only;cases s.get a<;> try rfl
   rename_i o;cases o<;> try rfl
   simp only;cases(_&&_:Bool)<;> try rfl
   simp only[bD];cases s.set a _<;> rfl
  ·rename_i a off len cap sz;simp only;cases s.get a<;> try rfl
   rename_i o;cases o<;> try rfl
   simp only;cases(_&&_:Bool)<;> try rfl
   simp only[bD];cases s.set a _<;> rfl
theorem yN(ld:yo)(m x v:af):lV E s k ld m x v=ai.bind (lV E s .ok ld m x v) k kp:=by
 cases m<;> simp only[lV,bB,a2.not]<;> try rfl
 cases s.get _<;> try rfl
 rename_i o;cases o<;> try rfl
 simp only;cases(_&&_:Bool)<;> try rfl
 simp only[bD];cases putKey x v _<;> try rfl
 simp only;cases s.set _ _<;> rfl
theorem yO(ld:yo)(z:af)(ok:Bool)(m x:af):lW E s k ld z ok m x=ai.bind (lW E s .ok ld z ok m x) k kp:=by
 simp only[lW,bB,a2.not];cases isKey ld x<;> try rfl
 simp only[bD];cases entriesOf s m<;> try rfl
 simp only;cases findKey x _<;> try rfl
 rename_i o;cases o<;> rfl
theorem FX(sz:Nat)(x i:af):lf E s k sz x i=ai.bind (lf E s .ok sz x i) k kp:=by
 simp only[lf,bB,a2.not];cases ff i<;> try rfl
 cases x<;> try rfl
 ·simp only;cases Nat.beq _ _<;> try rfl
  simp only[bD];rename_i es _;split<;> rfl
 ·simp only;cases(_&&_:Bool)<;> rfl
theorem yP(sz len:Nat)(x i:af):hG E s k sz len x i=ai.bind (hG E s .ok sz len x i) k kp:=by
 simp only[hG,bB,a2.not];cases ff i<;> try rfl
 simp only;cases Nat.blt _ _<;> try rfl
 cases x<;> rfl
theorem uo(f:Nat)(args:List af):eN E s k kp f args=ai.bind (eN E s .ok .panic f args) k kp:=by
 simp only[eN];cases E.call f args s<;> try rfl
 simp only;cases Nat.beq _ _<;> rfl
theorem r5(xs:List (Option Nat×af))(f:Nat)(args:List af):iu E s k kp xs f args=ai.bind (iu E s .ok .panic xs f args) k kp:=by
 simp only[iu,eN];cases E.call f args s<;> try rfl
 simp only;cases Nat.beq _ _<;> try rfl
 simp only[bD];cases xs.all _<;> rfl
theorem r6(f:Nat)(args:List af):hX E s k f args=ai.bind (hX E s .ok f args) k kp:=by
 simp only[hX];cases af.aX args<;> try rfl
 simp only[bD];cases E.call f args _<;> try rfl
 rename_i v _;simp only;cases v.bb<;> rfl
theorem Av(n:Option Nat)(v:af):dZ E s k n v=ai.bind (dZ E s .ok n v) k kp:=by
 cases v<;> simp only[dZ]<;> try rfl
 ·rename_i a off;cases s.get a<;> try rfl
  rename_i o;cases o<;> try rfl
  exact nL bB s k kp _ _
 ·exact nL bB s k kp _ _
theorem tI(off:Nat)(v:af):hf E s k off v=ai.bind (hf E s .ok off v) k kp:=by cases v<;> simp only[hf,bB,a2.not]<;> rfl
theorem Aw(off:Nat)(n:Option Nat)(v:af):mo E s k off n v=ai.bind (mo E s .ok off n v) k kp:=by
 cases v<;> simp only[mo]<;> try rfl
 exact nL bB s k kp _ _
theorem yQ(v i:af):iB E s k v i=ai.bind (iB E s .ok v i) k kp:=by
 cases v<;> simp only[iB,bB,a2.not]<;> try rfl
 cases ff i<;> try rfl
 simp only;split<;> rfl
theorem yR(sz len:Nat)(n:Option Nat)(v i:af):kU E s k sz len n v i=ai.bind (kU E s .ok sz len n v i) k kp:=by
 cases v<;> simp only[kU]<;> try rfl
 cases ff i<;> try rfl
 simp only;cases Nat.blt _ _<;> try rfl
 exact nL bB s k kp _ _
theorem ww(i:Nat)(v:af):kF E s k i v=ai.bind (kF E s .ok i v) k kp:=by
 cases v<;> simp only[kF]<;> try rfl
 exact lY bB s k kp _
theorem FY(b:Bool)(v:af):qL E s k b v=ai.bind (qL E s .ok b v) k kp:=by cases b<;> cases v<;> simp only[qL,bB,a2.not]<;> rfl
theorem Cs(d x:af):copyV E s k d x=ai.bind (copyV E s .ok d x) k kp:=by
 cases d<;> simp only[copyV,bB,a2.not]<;> try rfl
 rename_i a off len cap sz;cases dw s x<;> try rfl
 simp only;cases s.get a<;> try rfl
 rename_i o;cases o<;> try rfl
 simp only;cases(_&&_:Bool)<;> try rfl
 simp only[bD];cases s.set a _<;> rfl
theorem Ax(q:Nat)(d x:af):mq E s k q d x=ai.bind (mq E s .ok q d x) k kp:=by
 cases d<;> simp only[mq]<;> try rfl
 cases Nat.beq _ _<;> first|rfl |skip
 simp only[bD];exact Cs bB s k kp _ _
theorem Ct(zero:List af)(bytes:Nat)(l c:af):n5 E s k zero bytes l c=ai.bind (n5 E s .ok zero bytes l c) k kp:=by
 simp only[n5,bB,a2.not];cases ff l<;> try rfl
 cases ff c<;> try rfl
 simp only;cases(_&&_:Bool)<;> rfl
theorem lP(n:Nat)(a v:af):fh E s k n a v=ai.bind (fh E s .ok n a v) k kp:=by
 cases a<;> simp only[fh]<;> try rfl
 cases(_&&_:Bool)<;> try rfl
 exact At bB s k kp _ _ _
theorem yS(m:Option Nat)(y:af)(n:Nat)(a v:af):lU E s k m y n a v=ai.bind (lU E s .ok m y n a v) k kp:=by
 unfold lU;rw[lP bB s _ kp n a v,lP bB s (fun u t=>bif oP (fg s m y) (fg t m y) then .ok u t else .fail) .panic n a v];cases fh E s .ok n a v<;> try rfl
 simp only[ai.bind];cases oP _ _<;> rfl
theorem wx(d:IntKind)(v:af):kG E s k d v=ai.bind (kG E s .ok d v) k kp:=by cases v<;> simp only[kG,bB,a2.not]<;> rfl
theorem yT(v:af):mY s k v=ai.bind (mY s .ok v) k kp:=by cases v<;> rfl
theorem r7(v:af):hL E s k v=ai.bind (hL E s .ok v) k kp:=by cases v<;> simp only[hL,bB,a2.not]<;> rfl
theorem r8(v:af):g3 E s k v=ai.bind (g3 E s .ok v) k kp:=by cases v<;> first|rfl |(simp only[g3];cases dw s _<;> first|rfl |exact lY bB s k kp _)
theorem Cu(c a b:af):n6 E s k c a b=ai.bind (n6 E s .ok c a b) k kp:=by cases c<;> simp only[n6,bB,a2.not]<;> rfl
theorem vb(v:af):jz E s k v=ai.bind (jz E s .ok v) k kp:=by
 simp only[jz,bB,a2.not];cases isNil v<;> try rfl
 rename_i b;cases b<;> rfl
theorem Ay(v:af):nG E s k v=ai.bind (nG E s .ok v) k kp:=by
 cases v<;> simp only[nG,bB,a2.not]<;> try rfl
 rename_i a off len cap sz;cases a<;> try rfl
 simp only;rename_i i;cases s.own[i]? <;> try rfl
 rename_i o;cases o<;> try rfl
 simp only;cases(_&&_:Bool)<;> rfl
theorem r9(sz:Nat)(es:List af):ia E s k sz es=ai.bind (ia E s .ok sz es) k kp:=by simp only[ia,bB,a2.not];cases(_&&_:Bool)<;> rfl
theorem Az(f:af)(args:List af):lM E s k kp f args=ai.bind (lM E s .ok .panic f args) k kp:=by
 cases f<;> simp only[lM,bB,a2.not]<;> try rfl
 exact uo bB s k kp _ _
theorem yU(f:af)(args:List af):kj E s k f args=ai.bind (kj E s .ok f args) k kp:=by
 cases f<;> simp only[kj,bB,a2.not]<;> try rfl
 exact r6 bB s k kp _ _
theorem sa(f:af→af→Option af)(xs:List af):lN E s k f xs=ai.bind (lN E s .ok f xs) k kp:=by
 cases xs<;> simp only[lN]<;> try rfl
 exact lY bB s k kp _
theorem jV(op:gD):aP E ap s k kp op=ai.bind (aP E ap s .ok .panic op) k kp:=by
 cases op<;> simp only[aP]
 case move=>simp only[bB,a2.not];rfl
 case n2=>simp only[bB,a2.not];rfl
 case pD=>exact Ay bB s k kp _
 case pick=>exact Cu bB s k kp _ _ _
 case alloc=>simp only[bB,a2.not];rfl
 case fe x=>simp only[bB,a2.not];cases(au E.ax ap x).e9<;> rfl
 case kq x=>simp only[bB,a2.not];cases(au E.ax ap x).e9<;> rfl
 case build=>exact lY bB s k kp _
 case buildSlice=>exact r9 bB s k kp _ _
 case load=>exact Av bB s k kp _ _
 case store=>exact lP bB s k kp _ _ _
 case lL=>exact yS bB s k kp _ _ _ _ _
 case nilCheck=>exact vb bB s k kp _
 case bin=>exact lY bB s k kp _
 case eq=>exact lY bB s k kp _
 case un=>exact lY bB s k kp _
 case lT=>exact wx bB s k kp _ _
 case oL=>exact yT bB s k kp _
 case hc=>exact r8 bB s k kp _
 case jv=>exact r7 bB s k kp _
 case kc=>simp only[bB,a2.not];rfl
 case kR=>simp only[bB,a2.not];rfl
 case makeSlice=>exact Ct bB s k kp _ _ _ _
 case kS=>exact yL bB ap s k kp _ _ _
 case slice=>exact Au bB ap s k kp _ _ _ _ _
 case fieldAddr=>exact tI bB s k kp _ _
 case field=>exact Aw bB s k kp _ _ _
 case jw=>exact FX bB s k kp _ _ _
 case fM=>exact yP bB s k kp _ _ _ _
 case nE=>exact yQ bB s k kp _ _
 case oM=>exact yR bB s k kp _ _ _ _ _
 case extract=>exact ww bB s k kp _ _
 case call=>simp only[bB,a2.not];exact uo bB s k kp _ _
 case eN=>exact Az bB s k kp _ _
 case hU=>simp only[bB,a2.not];exact r6 bB s k kp _ _
 case mm=>exact yU bB s k kp _ _
 case len=>exact FY bB s k kp _ _
 case append=>
  simp only[fN];cases iA E.ax ap _<;> try rfl
  exact qW bB s k kp _ _ _ _ _
 case ke=>
  simp only[mZ];cases iA E.ax ap _<;> try rfl
  exact wv bB s k kp _ _ _ _ _
 case g0=>simp only[il,bB,a2.not];cases(_&&_:Bool)<;> rfl
 case g1=>simp only[ki,bB,a2.not];cases List.all _ _<;> rfl
 case kf=>
  simp only[kE,bB,a2.not];cases dw s _ with
  |none=>rfl
  |some p=>
   obtain⟨z,new⟩:=p;cases new with
   |nil=>rfl
   |cons c new=>
    simp only;split
    ·cases(_&&_:Bool)<;> rfl
    ·split
     ·cases(_&&_:Bool)<;> rfl
     ·rfl
    ·rfl
 case jn=>exact yM bB ap s k kp _ _ _ _ _ _
 case kd=>
  simp only[ln];cases au E.ax ap _<;> try rfl
  simp only[fN];cases iA E.ax ap _<;> try rfl
  exact qW bB s k kp _ _ _ _ _
 case makeMap=>
  simp only[mM,bB,a2.not];cases iA E.ax ap _<;> try rfl
  simp only;cases s.gU _ _<;> rfl
 case nF=>exact yN bB s k kp _ _ _ _
 case lookup=>exact yO bB s k kp _ _ _ _ _
 case no=>rfl
 case vN=>exact lY bB s k kp _
 case l8=>simp only[bB,a2.not];exact r5 bB s k kp _ _ _
 case kr=>
  simp only[kV,bB,a2.not];cases au E.ax ap _<;> try rfl
  exact r5 bB s k kp _ _ _
 case copy=>exact Ax bB s k kp _ _ _
 case min=>exact sa bB s k kp _ _
 case max=>exact sa bB s k kp _ _
end
def gG(o:Option af)(k:af→ah→ai)(s:ah):ai:=
 match o with
 |some v=>k v s
 |none=>.fail
def gD.qG:gD→Nat
 |.load .. |.hc _|.lookup ..=>1
 |.pD _|.alloc _|.kq _|.store .. |.lL .. |.makeSlice .. |.append .. |.kd .. |.ke .. |.g0 .. |.g1 .. |.kf .. |.copy .. |.call .. |.eN .. |.makeMap _|.nF .. |.l8 .. |.kr ..=>2
 |_=>0
def gD.Oy:gD→List bN
 |.move x|.pD x|.fe x|.kq x|.load _ x|.nilCheck x|.un _ x|.lT _ x|.oL x|.hc x|.jv x|.kc _ x|.fieldAddr _ x|.field _ _ x|.extract x _|.len _ x=>[x]
 |.pick a b c=>[a,b,c]
 |.vN _ x=>[x]
 |.n2 x=>[x]
 |.alloc _=>[]
 |.build _ er=>er.map (·.2.2)
 |.buildSlice _ xs|.kR _ xs|.call _ xs|.hU _ xs|.min xs|.max xs=>xs
 |.store _ a b|.bin _ a b|.eq _ _ a b|.makeSlice _ _ a b|.jw _ a b|.fM _ _ a b|.nE a b|.oM _ _ _ a b|.copy _ a b|.lookup _ _ _ a b=>[a,b]
 |.append _ _ c a b=>c.toList++[a,b]
 |.kd _ _ c a b=>c.toList++[a,b]
 |.ke _ _ c a b=>c.toList++[a,b]
 |.g0 _ xs=>xs
 |.g1 _ xs=>xs
 |.kf _ _ a b=>[a,b]
 |.makeMap c=>c.toList
 |.lL _ y _ a v=>[y,a,v]
 |.nF _ a b c=>[a,b,c]
 |.no=>[]
 |.eN f xs|.mm f xs=>f::xs
 |.l8 iT _ xs=>iT.map (·.2)++xs
 |.kr iT f xs=>f::(iT.map (·.2)++xs)
 |.kS x gz bZ=>x::(gz.toList++bZ.toList)
 |.slice _ x gz bZ jf=>x::(gz.toList++bZ.toList++jf.toList)
 |.jn _ _ x gz bZ jf=>x::(gz.toList++bZ.toList++jf.toList)
section
variable{E:Env}(bB:E.F=.not)(ap:Nat→af)
include bB
theorem ow(v:Option af):∃o,∀s k,rL E s k v=gG o k s:=⟨v,fun s k=>by cases v<;> simp only[rL,bB,a2.not,gG]⟩
theorem pN(m:Option Nat)(cs:List af):∃o,∀s k,e3 E s k m cs=gG o k s:=by
 cases m<;> simp only[e3,bB,a2.not]
 ·cases cs
  ·exact⟨none,fun _ _=>rfl⟩
  ·exact⟨some _,fun _ _=>rfl⟩
 ·cases Nat.ble _ _
  ·exact⟨none,fun _ _=>rfl⟩
  ·exact⟨some _,fun _ _=>rfl⟩
theorem yV(x:af)(gz bZ:Option bN):∃o,∀s k,kh E ap s k x gz bZ=gG o k s:=by
 cases x<;> simp only[kh,bB,a2.not]<;> try exact⟨none,fun _ _=>rfl⟩
 cases dL E.ax ap gz 0<;> try exact⟨none,fun _ _=>rfl⟩
 cases dL E.ax ap bZ _<;> try exact⟨none,fun _ _=>rfl⟩
 simp only;cases(_&&_:Bool)
 ·exact⟨none,fun _ _=>rfl⟩
 ·exact⟨some _,fun _ _=>rfl⟩
theorem yW(z n:Nat)(x:af)(gz bZ jf:Option bN):∃o,∀s k,i7 E ap s k z n x gz bZ jf=gG o k s:=by
 cases x<;> simp only[i7,bB,a2.not]<;> try exact⟨none,fun _ _=>rfl⟩
 cases dL E.ax ap gz 0<;> try exact⟨none,fun _ _=>rfl⟩
 cases dL E.ax ap bZ _<;> try exact⟨none,fun _ _=>rfl⟩
 cases dL E.ax ap jf _<;> try exact⟨none,fun _ _=>rfl⟩
 simp only;cases(_&&_:Bool)
 ·exact⟨none,fun _ _=>rfl⟩
 ·exact⟨some _,fun _ _=>rfl⟩
theorem AA(z:Nat)(x:af)(gz bZ jf:Option bN):∃o,∀s k,ks E ap s k z x gz bZ jf=gG o k s:=by
 cases x<;> simp only[ks,bB,a2.not]<;> try exact⟨none,fun _ _=>rfl⟩
 ·cases dL E.ax ap gz 0<;> try exact⟨none,fun _ _=>rfl⟩
  cases dL E.ax ap bZ _<;> try exact⟨none,fun _ _=>rfl⟩
  cases jf with
  |none=>
   simp only;cases(_&&_:Bool)
   ·exact⟨none,fun _ _=>rfl⟩
   ·exact⟨some _,fun _ _=>rfl⟩
  |some x=>
   simp only;rename_i g _ _;cases ff (au E.ax ap x)<;> cases g<;> try exact⟨none,fun _ _=>rfl⟩
   all_goals
    simp only;cases(_&&_:Bool)
    ·exact⟨none,fun _ _=>rfl⟩
    ·exact⟨some _,fun _ _=>rfl⟩
 ·cases dL E.ax ap gz 0<;> try exact⟨none,fun _ _=>rfl⟩
  cases dL E.ax ap bZ _<;> try exact⟨none,fun _ _=>rfl⟩
  cases dL E.ax ap jf _<;> try exact⟨none,fun _ _=>rfl⟩
  simp only;cases(_&&_:Bool)
  ·exact⟨none,fun _ _=>rfl⟩
  ·exact⟨some _,fun _ _=>rfl⟩
theorem FZ(sz:Nat)(x i:af):∃o,∀s k,lf E s k sz x i=gG o k s:=by
 simp only[lf,bB,a2.not];cases ff i<;> try exact⟨none,fun _ _=>rfl⟩
 rename_i i;cases x<;> try exact⟨none,fun _ _=>rfl⟩
 ·simp only;cases Nat.beq _ _
  ·exact⟨none,fun _ _=>rfl⟩
  rename_i es _;simp only[bD];cases es[i]?
  ·exact⟨none,fun _ _=>rfl⟩
  ·exact⟨some _,fun _ _=>rfl⟩
 ·simp only;cases(_&&_:Bool)
  ·exact⟨none,fun _ _=>rfl⟩
  ·exact⟨some _,fun _ _=>rfl⟩
theorem yX(sz len:Nat)(x i:af):∃o,∀s k,hG E s k sz len x i=gG o k s:=by
 simp only[hG,bB,a2.not];cases ff i<;> try exact⟨none,fun _ _=>rfl⟩
 simp only;cases Nat.blt _ _<;> try exact⟨none,fun _ _=>rfl⟩
 cases x<;> first|exact⟨none,fun _ _=>rfl⟩|exact⟨some _,fun _ _=>rfl⟩
theorem sb(f:Nat)(args:List af):∃o,∀s k,hX E s k f args=gG o k s:=by
 simp only[hX];cases af.aX args<;> try exact⟨none,fun _ _=>rfl⟩
 simp only[bD];cases E.call f args _<;> try exact⟨none,fun _ _=>rfl⟩
 rename_i v _;simp only;cases v.bb
 ·exact⟨none,fun _ _=>rfl⟩
 ·exact⟨some _,fun _ _=>rfl⟩
theorem tJ(off:Nat)(v:af):∃o,∀s k,hf E s k off v=gG o k s:=by cases v<;> simp only[hf,bB,a2.not]<;> first|exact⟨none,fun _ _=>rfl⟩|exact⟨some _,fun _ _=>rfl⟩
theorem AB(off:Nat)(n:Option Nat)(v:af):∃o,∀s k,mo E s k off n v=gG o k s:=by
 cases v<;> simp only[mo]<;> try exact⟨none,fun _ _=>rfl⟩
 exact pN bB _ _
theorem yY(v i:af):∃o,∀s k,iB E s k v i=gG o k s:=by
 cases v<;> simp only[iB,bB,a2.not]<;> try exact⟨none,fun _ _=>rfl⟩
 cases ff i<;> try exact⟨none,fun _ _=>rfl⟩
 rename_i fo i;simp only;cases fo[i]?
 ·exact⟨none,fun _ _=>rfl⟩
 ·exact⟨some _,fun _ _=>rfl⟩
theorem yZ(sz len:Nat)(n:Option Nat)(v i:af):∃o,∀s k,kU E s k sz len n v i=gG o k s:=by
 cases v<;> simp only[kU]<;> try exact⟨none,fun _ _=>rfl⟩
 cases ff i<;> try exact⟨none,fun _ _=>rfl⟩
 simp only;cases Nat.blt _ _<;> try exact⟨none,fun _ _=>rfl⟩
 exact pN bB _ _
theorem wy(i:Nat)(v:af):∃o,∀s k,kF E s k i v=gG o k s:=by
 cases v<;> simp only[kF]<;> try exact⟨none,fun _ _=>rfl⟩
 exact ow bB _
theorem F0(b:Bool)(v:af):∃o,∀s k,qL E s k b v=gG o k s:=by cases b<;> cases v<;> simp only[qL,bB,a2.not]<;> first|exact⟨none,fun _ _=>rfl⟩|exact⟨some _,fun _ _=>rfl⟩
theorem wz(d:IntKind)(v:af):∃o,∀s k,kG E s k d v=gG o k s:=by cases v<;> simp only[kG,bB,a2.not]<;> first|exact⟨none,fun _ _=>rfl⟩|exact⟨some _,fun _ _=>rfl⟩
omit bB in
theorem y0(v:af):∃o,∀s k,mY s k v=gG o k s:=by cases v<;> simp only[mY]<;> first|exact⟨none,fun _ _=>rfl⟩|exact⟨some _,fun _ _=>rfl⟩
theorem sc(v:af):∃o,∀s k,hL E s k v=gG o k s:=by cases v<;> simp only[hL,bB,a2.not]<;> first|exact⟨none,fun _ _=>rfl⟩|exact⟨some _,fun _ _=>rfl⟩
theorem Cv(c a b:af):∃o,∀s k,n6 E s k c a b=gG o k s:=by cases c<;> simp only[n6,bB,a2.not]<;> first|exact⟨none,fun _ _=>rfl⟩|exact⟨some _,fun _ _=>rfl⟩
theorem vc(v:af):∃o,∀s k,jz E s k v=gG o k s:=by
 simp only[jz,bB,a2.not];cases isNil v<;> try exact⟨none,fun _ _=>rfl⟩
 rename_i b;cases b
 ·exact⟨some _,fun _ _=>rfl⟩
 ·exact⟨none,fun _ _=>rfl⟩
theorem sd(sz:Nat)(es:List af):∃o,∀s k,ia E s k sz es=gG o k s:=by
 simp only[ia,bB,a2.not];cases(_&&_:Bool)
 ·exact⟨none,fun _ _=>rfl⟩
 ·exact⟨some _,fun _ _=>rfl⟩
theorem y1(f:af)(args:List af):∃o,∀s k,kj E s k f args=gG o k s:=by
 cases f<;> simp only[kj,bB,a2.not]<;> try exact⟨none,fun _ _=>rfl⟩
 exact sb bB _ _
theorem se(f:af→af→Option af)(xs:List af):∃o,∀s k,lN E s k f xs=gG o k s:=by
 cases xs<;> simp only[lN]<;> try exact⟨none,fun _ _=>rfl⟩
 exact ow bB _
theorem wA{op:gD}(a0:op.qG=0)(d:Nat):∃o,∀(s:ah) k kp,s.aa=d→aP E ap s k kp op=gG o k s:=by
 have key:∀{f:ah→(af→ah→ai)→ai},(∃o,∀s k,f s k=gG o k s)→∃o,∀(s:ah) (k kp:af→ah→ai),s.aa=d→f s k=gG o k s:=fun⟨o,h⟩=>⟨o,fun s k kp _=>h s k⟩
 cases op<;> simp only[gD.qG] at a0<;> first|exact absurd a0 (by decide)|skip
 all_goals simp only[aP]
 case n2 x=>exact⟨some (oO (au E.ax ap x)),fun s k kp _=>by simp only[bB,a2.not,gG]⟩
 case move x=>exact⟨some (au E.ax ap x),fun s k kp _=>by simp only[bB,a2.not,gG]⟩
 case pick c a b=>exact key (Cv bB _ _ _)
 case fe x=>
  cases bX:(au E.ax ap x).e9
  ·exact⟨none,fun s k kp _=>by simp only[bB,a2.not,gG,cond_false]⟩
  ·exact⟨some (.bk ((au E.ax ap x).ao d).cells),fun s k kp h=>by simp only[bB,a2.not,gG,bD,h]⟩
 case build zero parts=>exact⟨(fC E.ax d ap zero parts).map .agg,fun s k kp h=>by rw[h];cases fC E.ax d ap zero parts<;> simp only[rL,bB,a2.not,gG,ep,Option.map_none]⟩
 case buildSlice=>exact key (sd bB _ _)
 case nilCheck=>exact key (vc bB _)
 case bin=>exact key (ow bB _)
 case eq=>exact key (ow bB _)
 case un=>exact key (ow bB _)
 case lT=>exact key (wz bB _ _)
 case oL=>exact key (y0 _)
 case jv=>exact key (sc bB _)
 case kc t x=>exact⟨some (.iface t ((au E.ax ap x).ao d)),fun s k kp h=>by simp only[bB,a2.not,gG,h]⟩
 case kR f dM=>exact⟨some (.fn f (dM.map fun x=>(au E.ax ap x).ao d)),fun s k kp h=>by simp only[bB,a2.not,gG,h]⟩
 case kS=>exact key (yV bB ap _ _ _)
 case slice=>exact key (AA bB ap _ _ _ _ _)
 case jn=>exact key (yW bB ap _ _ _ _ _ _)
 case fieldAddr=>exact key (tJ bB _ _)
 case field=>exact key (AB bB _ _ _)
 case jw=>exact key (FZ bB _ _ _)
 case fM=>exact key (yX bB _ _ _ _)
 case nE=>exact key (yY bB _ _)
 case oM=>exact key (yZ bB _ _ _ _ _)
 case extract=>exact key (wy bB _ _)
 case hU f args=>obtain⟨o,h⟩:=sb bB f (args.map fun x=>(au E.ax ap x).ao d);exact⟨o,fun s k kp cW=>by simp only[bB,a2.not,cW];exact h s k⟩
 case mm f args=>obtain⟨o,h⟩:=y1 bB (au E.ax ap f) (args.map fun x=>(au E.ax ap x).ao d);exact⟨o,fun s k kp cW=>by simp only[cW];exact h s k⟩
 case no=>exact⟨none,fun s k kp _=>rfl⟩
 case vN=>exact key (ow bB _)
 case len=>exact key (F0 bB _ _)
 case min xs=>obtain⟨o,h⟩:=se bB min2 (xs.map fun x=>(au E.ax ap x).ao d);exact⟨o,fun s k kp cW=>by simp only[cW];exact h s k⟩
 case max xs=>obtain⟨o,h⟩:=se bB max2 (xs.map fun x=>(au E.ax ap x).ao d);exact⟨o,fun s k kp cW=>by simp only[cW];exact h s k⟩
theorem uq{op:gD}(a0:op.qG=1){s s':ah}{v:af}(h:aP E ap s .ok .panic op=.ok v s'):s'=s:=by
 have me:∀{m:Option af},rL E s .ok m=.ok v s'→s'=s:=fun {m} h=>by cases m<;> simp [rL,bB,a2.not] at h;exact h.2.symm
 have h0:∀{n:Option Nat} {cs:List af},e3 E s .ok n cs=.ok v s'→s'=s:=fun {n cs} h=>by obtain⟨o,e⟩:=pN bB n cs;rw[e] at h;cases o<;> simp [gG] at h;exact h.2.symm
 cases op<;> simp only[gD.qG] at a0<;> first|exact absurd a0 (by decide)|skip
 all_goals simp only[aP] at h
 case load n a=>
  unfold dZ at h;split at h
  ·exact h0 h
  ·split at h
   ·exact h0 h
   ·cases h
  ·cases h
 case hc x=>
  unfold g3 at h;split at h
  ·cases h
  ·split at h
   ·exact me h
   ·cases h
 case lookup ld z ok m x=>
  unfold lW at h;simp only[bB,a2.not] at h;cases cK:isKey ld (af.ao s.aa (au E.ax ap x)) with
  |false=>rw[cK] at h;cases h
  |true=>
   rw[cK,bD] at h;split at h
   ·split at h
    ·simp only[ai.ok.injEq] at h;exact h.2.symm
    ·simp only[ai.ok.injEq] at h;exact h.2.symm
    ·cases h
   ·cases h
end
theorem ah.kx{s s':ah}{a:Loc}{o:b4}(h:s.set a o=some s'):s'.aa=s.aa:=by
 unfold ah.set at h;split at h
 ·simp only[bt] at h;subst h;rfl
 ·split at h
  ·simp only[bt] at h;subst h;rfl
  ·split at h
   ·simp only[bt] at h;subst h;simp [ah.aa]
   ·cases h
theorem ah.mz{s s':ah}{a l:Loc}{o:b4}(h:s.gU a o=some (l,s')):s'.aa=s.aa:=by
 unfold ah.gU at h;split at h
 ·simp only[bt,fb] at h;rw[←h.2];rfl
 ·split at h
  ·simp only[bt,fb] at h;rw[←h.2];rfl
  ·split at h
   ·split at h
    ·simp only[bt,fb] at h;rw[←h.2];simp [ah.aa]
    ·cases h
   ·cases h
section
variable{E:Env}(bB:E.F=.not)(ap:Nat→af)
include bB
theorem qX{s s':ah}{v:af}{a:Loc}{off:Nat}{vs:List af}(h:h9 E s .ok a off vs=.ok v s'):s'.aa=s.aa:=by
 simp only[h9,bB,a2.not] at h;split at h
 ·cases e:(Nat.ble (off+vs.length) _&&s.gL a vs&&vs.all af.en) with
  |false=>rw[e] at h;cases h
  |true=>
   rw[e,bD] at h;split at h
   ·rename_i r;simp only[ai.ok.injEq] at h;rw[←h.2];exact ah.kx r
   ·cases h
 ·cases h
theorem mA{s s':ah}{v:af}{f:Nat}{args:List af}(h:eN E s .ok .panic f args=.ok v s'):s'.aa=s.aa:=by
 simp only[eN] at h;split at h
 ·rename_i f7 r a0;cases e:Nat.beq r.aa s.aa with
  |false=>rw[e] at h;cases h
  |true=>rw[e,bD] at h;simp only[ai.ok.injEq] at h;rw[←h.2];exact dq e
 ·cases h
 ·cases h
theorem oW{s s':ah}{v:af}{xs:List (Option Nat×af)}{f:Nat}{args:List af}(h:iu E s .ok .panic xs f args=.ok v s'):eN E s .ok .panic f args=.ok v s'∧∀x,x∈xs→∃l,fg s x.1 x.2=some l∧fg s' x.1 x.2=some l:=by
 simp only[iu,eN] at h ⊢;cases a0:E.call f args s<;> rw[a0] at h<;> try cases h
 rename_i f7 r;simp only at h ⊢;cases u:Nat.beq r.aa s.aa with
 |false=>rw[u] at h;cases h
 |true=>
  rw[u,bD] at h;cases e:xs.all fun x=>oP (fg s x.1 x.2) (fg r x.1 x.2) with
  |false=>rw[e] at h;cases h
  |true=>rw[e,bD] at h;simp only[ai.ok.injEq] at h;obtain⟨rfl,rfl⟩:=h;refine⟨by simp,fun x a1=>?_⟩;exact zc.1 (List.all_eq_true.1 e x a1)
theorem ur{s s':ah}{v:af}{m:Option Nat}{y:af}{n:Nat}{a u:af}(h:lU E s .ok m y n a u=.ok v s'):fh E s .ok n a u=.ok v s'∧∃l,fg s m y=some l∧fg s' m y=some l:=by
 unfold lU at h;rw[lP bB s _ .panic n a u] at h;cases ba:fh E s .ok n a u with
 |fail=>rw[ba] at h;cases h
 |panic f7 t=>rw[ba] at h;cases h
 |ok f7 t=>
  rw[ba] at h;simp only[ai.bind] at h;cases e:oP (fg s m y) (fg t m y) with
  |false=>rw[e] at h;cases h
  |true=>rw[e] at h;simp only[bD,ai.ok.injEq] at h;obtain⟨rfl,rfl⟩:=h;exact⟨rfl,zc.1 e⟩
theorem hr{b:Bool}{x:ai}{v:af}{s':ah}(h:(bif b then x else .fail)=.ok v s'):x=.ok v s':=by
 cases b with
 |true=>exact h
 |false=>cases h
theorem AC{s s':ah}{v:af}{d x:af}(h:copyV E s .ok d x=.ok v s'):s'.aa=s.aa:=by
 simp only[copyV,bB,a2.not] at h;split at h
 ·split at h
  ·split at h
   ·have h:=hr bB h;split at h
    ·rename_i e;simp only[ai.ok.injEq] at h;rw[←h.2];exact ah.kx e
    ·cases h
   ·cases h
  ·cases h
 ·cases h
theorem vd{s s':ah}{v:af}{q b:Nat}{l:Loc}{x y:af}(h:h3 E s .ok q b l x y=.ok v s'):s'.aa=s.aa:=by
 simp only[h3,bB,a2.not] at h;split at h
 ·split at h
  ·have h:=hr bB h;split at h
   ·cases h
   ·split at h
    ·have h:=hr bB h;split at h
     ·rename_i e;simp only[ai.ok.injEq] at h;rw[←h.2];exact ah.mz e
     ·cases h
    ·split at h
     ·have h:=hr bB h;split at h
      ·rename_i r;simp only[ai.ok.injEq] at h;rw[←h.2];exact ah.kx r
      ·cases h
     ·cases h
    ·cases h
  ·cases h
 ·cases h
theorem pO{s s':ah}{v:af}{q b:Nat}{l:Loc}{x y:af}(h:hd E s .ok q b l x y=.ok v s'):s'.aa=s.aa:=by
 simp only[hd,bB,a2.not] at h;split at h
 ·cases h
 ·split at h
  ·have h:=hr bB h;split at h
   ·simp only[ai.ok.injEq] at h;rw[←h.2]
   ·split at h
    ·split at h
     ·rename_i e;simp only[ai.ok.injEq] at h;rw[←h.2];exact ah.mz e
     ·cases h
    ·split at h
     ·rename_i e;simp only[ai.ok.injEq] at h;rw[←h.2];exact ah.mz e
     ·cases h
    ·split at h
     ·have h:=hr bB h;split at h
      ·rename_i r;simp only[ai.ok.injEq] at h;rw[←h.2];exact ah.kx r
      ·cases h
     ·cases h
    ·cases h
  ·split at h
   ·have h:=hr bB h;split at h
    ·rename_i r;simp only[ai.ok.injEq] at h;rw[←h.2];exact ah.kx r
    ·cases h
   ·cases h
  ·cases h
theorem Cw{op:gD}{s s':ah}{v:af}(h:aP E ap s .ok .panic op=.ok v s'):s'.aa=s.aa:=by
 by_cases eO:op.qG=0
 ·obtain⟨o,e⟩:=wA bB ap eO s.aa;rw[e s _ _ rfl] at h;cases o<;> simp [gG] at h;rw[h.2]
 by_cases ar:op.qG=1
 ·rw[uq bB ap ar h]
 cases op<;> simp only[gD.qG] at eO ar<;> first|exact absurd trivial eO|exact absurd trivial ar|skip
 all_goals simp only[aP] at h
 case pD x=>
  unfold nG at h;split at h
  ·split at h
   ·simp only[bB,a2.not] at h;have h:=hr bB h;simp only[ai.ok.injEq] at h;rw[←h.2];rfl
   ·cases h
  ·cases h
 case alloc z=>simp only[bB,a2.not,ai.ok.injEq] at h;rw[←h.2];rfl
 case kq x=>simp only[bB,a2.not] at h;have h:=hr bB h;simp only[ai.ok.injEq] at h;rw[←h.2];rfl
 case store n a u=>
  unfold fh at h;split at h
  ·exact qX bB (hr bB h)
  ·cases h
 case lL m y n a u=>
  have h:=(ur bB h).1;unfold fh at h;split at h
  ·exact qX bB (hr bB h)
  ·cases h
 case makeSlice z b l c=>
  unfold n5 at h;split at h
  ·split at h
   ·simp only[bB,a2.not] at h;have h:=hr bB h;simp only[ai.ok.injEq] at h;rw[←h.2];rfl
   ·cases h
  ·cases h
 case call f xs=>simp only[bB,a2.not] at h;exact mA bB h
 case eN f xs=>
  unfold lM at h;split at h
  ·simp only[bB,a2.not] at h;exact mA bB h
  ·cases h
 case l8 iT f xs=>simp only[bB,a2.not] at h;exact mA bB (oW bB h).1
 case kr iT f xs=>
  unfold kV at h;split at h
  ·simp only[bB,a2.not] at h;exact mA bB (oW bB h).1
  ·cases h
 case append=>
  unfold fN at h;split at h
  ·exact pO bB h
  ·cases h
 case ke=>
  unfold mZ at h;split at h
  ·exact vd bB h
  ·cases h
 case g0=>unfold il at h;simp only[bB,a2.not] at h;have h:=hr bB h;simp only[ai.ok.injEq] at h;rw[←h.2];rfl
 case g1=>unfold ki at h;simp only[bB,a2.not] at h;have h:=hr bB h;simp only[ai.ok.injEq] at h;rw[←h.2];rfl
 case kf=>
  unfold kE at h;simp only[bB,a2.not] at h;split at h
  ·cases h
  split at h
  ·cases h
  split at h
  ·have h:=hr bB h;simp only[ai.ok.injEq] at h;rw[←h.2];rfl
  ·split at h
   ·have h:=hr bB h;simp only[ai.ok.injEq] at h;rw[←h.2];rfl
   ·cases h
  ·cases h
 case kd=>
  unfold ln at h;split at h
  ·unfold fN at h;split at h
   ·exact pO bB h
   ·cases h
  ·cases h
 case makeMap=>
  unfold mM at h;split at h
  ·split at h
   ·rename_i r;simp only[bB,a2.not,ai.ok.injEq] at h;rw[←h.2];exact ah.mz r
   ·cases h
  ·cases h
 case nF ld m x u=>
  unfold lV at h;split at h
  ·split at h
   ·have h:=hr bB h;split at h
    ·split at h
     ·rename_i A;simp only[bB,a2.not,ai.ok.injEq] at h;rw[←h.2];exact ah.kx A
     ·cases h
    ·cases h
   ·cases h
  ·cases h
 case copy q d x=>
  unfold mq at h;split at h
  ·exact AC bB (hr bB h)
  ·cases h
end
end Go.Ab
