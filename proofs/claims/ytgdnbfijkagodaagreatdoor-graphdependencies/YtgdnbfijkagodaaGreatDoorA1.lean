/- A part of the proof: no condition. -/
import Derived.Test.YtgdnbfijkagodaaGreatDoorA0
import Derived.Laws.IdiomStrings
import Derived.MapKept
import Derived.RangeFuncRecord
import Derived.RangeFuncSeq
import Derived.RangeFuncLeaves
import Derived.RangeFuncCalls
import Derived.OrdersIn
import Derived.Laws.StructEq
set_option linter.unusedSectionVars false
set_option linter.unusedSimpArgs false
set_option linter.unusedVariables false
namespace Go.Ab
theorem ud(z:List ae)(v:Array Value)(g8:∀κ D,eu κ D z v.toList)(n:Nat):∀κ D,eu κ D (List.replicate n z).flatten (madeCells v (n*z.length)).toList:=by
 intro κ D;have bN:v.size=z.length:=by simpa using (g8 κ D).1
 refine⟨by simp [madeCells],fun j c x aY a5=>?_⟩;simp only[madeCells,Array.toList_map,g6] at a5;by_cases eS:z.length=0
 ·have:z=[]:=jE eS;subst this;simp at aY
 ·have cX:j<n*z.length:=by
   have:=(ec.1 aY).1;simpa using this
  have aU:(Array.range (n*z.length)).toList[j]? =some j:=by simp [cX]
  rw[aU] at a5;simp only[ej,bm] at a5;have hm:j%z.length<z.length:=Nat.mod_lt _ (by omega);have kT:z[j%z.length]? =some c:=by
   have:∀(n j:Nat),j<n*z.length→(List.replicate n z).flatten[j]? =z[j%z.length]?:=by
    intro n
    induction n with
    |zero=>intro j cX;simp at cX
    |succ n e=>
     intro j cX;rw[List.replicate_succ,List.flatten_cons];by_cases ar:j<z.length
     ·rw[gm ar,hA ar]
     ·rw[i7 (by omega),e _ (by rw[Nat.succ_mul] at cX;omega),←Nat.mod_eq_sub_mod (by omega)]
   rw[←this n j cX];exact aY
  have h:v.toList[j%z.length]? =some x:=by
   have r:j%v.size<v.size:=by rw[bN];exact hm
   rw[←a5];simp only[bN] at r ⊢;simp [bN,hm]
  exact(g8 κ D).2 _ c x kT h
section
variable{P:Program}{ty:TypeId}{ρ:Operand→Value}{κ:bj}{s:ag}{w:World}(a7:c5 κ s w)
include a7
theorem sS{E:Env}(bs:E.F=.not){k:ae→ag→ah}{r:ah}(br:r≠.fail){t el:TypeId}{z:List ae}{bytes:Nat}{l c:ae}{x y:Operand}(ed:P.underlying t=some (.slice el))(g8:j5 P el z=true)(e3:fg P el=some z.length)(u:(P.info? el).map (·.bytes)=some bytes)(A:0<bytes)
  (a5:dC κ (s.aa+1) (l.ap s.aa) (ρ x))(eM:dC κ (s.aa+1) (c.ap s.aa) (ρ y))(aU:nn E s k z bytes l c=r):∃fL s',k fL s'=r∧dN P (.makeSlice t x y) ty ρ κ s w fL s':=by
 unfold nn at aU;cases bN:e1 l with
 |none=>rw[bN] at aU;exact absurd aU.symm br
 |some m=>
  cases aY:e1 c with
  |none=>rw[bN,aY] at aU;exact absurd aU.symm br
  |some n=>
   rw[bN,aY] at aU;simp only[bs,aX.not] at aU;obtain⟨h,B⟩:=c2 aU br;rw[bl] at h;have ar:=dW h.1;have av:=dW h.2;obtain⟨H,rfl⟩:=jh bN;obtain⟨I,rfl⟩:=jh aY;obtain⟨v,e,bM,_,i,bL,J⟩:=kV g8 w;have K:i.size=z.length:=by simpa [fg,bL] using e3
   have M:i.bytes=bytes:=by simpa [bL] using u
   have N:(n:Int)≤9223372036854775807:=by have:n*1≤n*bytes:=Nat.mul_le_mul_left _ A;omega
   have hmul:(i.bytes:Int)*(n:Int)≤281474976710656:=by
    have:(i.bytes:Int)*(n:Int)=((n*bytes:Nat):Int):=by rw[M,ez];simp
    omega
   have run:=run_make w t el i v ed bL J H I m n (by omega) (by omega) hmul N;simp only[Int.toNat_natCast,K] at run;obtain⟨κ',hj,g2,O,ns⟩:=a7.o6 (List.replicate n z).flatten (madeCells v.cells (n*z.length)) el (ud z v.cells bM n _ _) (w':=w.alloc (.cells (madeCells v.cells (n*z.length)) el)) rfl rfl rfl rfl;refine⟨_,_,B,.slice (some ⟨w.heap.size,0,none⟩) m n,κ',_,.inl (fun _ _ _ _=>?_),g2,hj,?_⟩
   ·simp [execOp,a5.eD,eM.eD,run]
   ·simp only[ae.ap,Loc.ap];rw[←O];exact .cO _ _ _ _ _ _ _ (Nat.lt_succ_self _) ns ar (.inl rfl)
omit a7 in
theorem nL{vs:List ae}(h:vs.all ae.eB=true){D:Nat}{xs:List Value}(bM:eu κ D vs xs):∀x∈xs,x.oneCell'=true:=by
 intro x a5;obtain⟨j,cX⟩:=List.mem_iff_getElem?.1 a5;have e:=(ec.1 cX).1;have r:j<vs.length:=by rw[←bM.1];exact e
 have aY:vs[j]? =some vs[j]:=ei r;exact(bM.2 j _ x aY cX).Mr (List.all_eq_true.1 h _ (List.mem_of_getElem? aY))
theorem nt{d i off:Nat}{cs:List ae}{xs:List Value}(cb:s.get (.g d i)=some (.cells cs))(A:off+xs.length≤cs.length)(ar:∀x∈xs,x.oneCell'=true):
  (storeCells ⟨κ.loc d i,off,none⟩ xs).run P w=.ok () (w.setCells (κ.loc d i) off xs):=by
 obtain⟨⟨C,e,jG,r,y,lz,_⟩,B⟩:=a7.obj d i _ cb;have F:cs.length≤C.size:=by have:=lz.1;simp at this;omega
 have:=run_storeCells_cells (P:=P) (κ.loc d i) off xs 0 w (fun j cX=>by rw[fS r];simp;omega) (fun j cX=>?_) ar
 ·simpa using this
 ·have hu:=y (off+0+j) (by omega);simp only[World.frozen?,r];rw[Bool.and_eq_false_iff];by_cases u:jG.1≤off+0+j
  ·right;simp only[decide_eq_false_iff_not];exact fun h=>hu ⟨u,h⟩
  ·left;simpa using u
omit a7 in
theorem m3{a:Loc}{d i:Nat}(r:a.ap s.aa=.g d i){vs:List ae}{xs:List Value}(bM:eu κ (s.aa+1) vs xs)(h:s.gO a vs=true):eu κ (d+1) vs xs:=by
 unfold ag.gO at h;rcases Bool.or_eq_true _ _ ▸ h with h|av
 rcases Bool.or_eq_true _ _ ▸ h with ar|ar
 ·have:d=s.aa:=by
   cases a with
   |l j=>simp [Loc.ap] at r;exact r.1.symm
   |g fQ j=>simp [Loc.ap] at r;simp [ag.oZ] at ar;omega
  subst this;exact bM
 ·exact bM.bc ar _ (fun _ _ h=>h)
 ·cases a with
  |l j=>cases av
  |g e j=>simp only[Loc.ap,Loc.g.injEq] at r;obtain⟨rfl,rfl⟩:=r;exact⟨bM.1,fun j c x aY a5=>(bM.2 j c x aY a5).lower (nG av aY)⟩
theorem rb{E:Env}(bs:E.F=.not){k:ae→ag→ah}{r:ah}(br:r≠.fail){t:TypeId}{n:Nat}{x y:Operand}{v u:ae}(dm:fg P t=some n)(a5:dC κ (s.aa+1) (v.ap s.aa) (ρ x))(eM:dC κ (s.aa+1) u (ρ y))
  (aU:fe E s k n v u=r):∃fL s',k fL s'=r∧dN P (.store t x y) ty ρ κ s w fL s':=by
 cases v<;> simp only[ae.ap] at a5<;> simp only[fe] at aU<;> try exact absurd aU.symm br
 rename_i a off;obtain⟨I,h⟩:=c2 aU br;rw[bl] at I;have hlen:=dh I.2;have J:=eM.cells I.1;unfold h1 at h;rw[←ag.hO] at h;cases B:a.ap s.aa with
 |l i=>cases a<;> simp [Loc.ap] at B
 |g d i=>
  rw[B] at h a5;obtain⟨e,cP,bL⟩:=a5.mC;cases cb:s.get (.g d i) with
  |none=>rw[cb] at h;exact absurd h.symm br
  |some o=>
   rw[cb] at h;cases o<;> try exact absurd h.symm br
   rename_i cs;obtain⟨H,A⟩:=c2 h br;rw[bl,bl] at H;have ar:=dW H.1.1;simp only[bs,aX.not] at A;rw[←ag.ln,B] at A;cases K:s.set (.g d i) (.cells (dL cs off u.cells)) with
   |none=>rw[K] at A;exact absurd A.symm br
   |some s'=>
    rw[K] at A;have M:(ρ y).cells.toList.length=u.cells.length:=J.1;have N:=m3 B J H.1.2;obtain⟨hj,g2⟩:=a7.store cb K N ar;have O:=nt (P:=P) a7 cb (off:=off) (xs:=(ρ y).cells.toList) (by omega) (nL H.2 J);have e3:(ρ y).cells.size=n:=by rw[←Array.length_toList,M,hlen]
    refine⟨_,_,A,undef,κ,_,.inr ⟨fun _ _ _ _=>?_,rfl⟩,g2,hj,.dead _⟩;simp [execOp,Instr.storeAt,e,Instr.sureAddr,storeVar,eE dm,e3,O]
theorem kA{v:ae}{X:Value}{sz:Nat}{es:List ae}(bM:dC κ (s.aa+1) (v.ap s.aa) X)(h:dv s v=some (sz,es)):
  ((∃e8 a,v=.str e8∧X=.string a∧a.data.toList.map UInt8.toNat=e8∧sz=1∧es=e8.map fun b=>.int .u8 (b:Nat))∨
   (∃A c,X=.slice A es.length c∧(A=none→es=[])∧∀a,A=some a→Reads κ (s.aa+1) w a (es.flatMap ae.cells)))∧
  ae.aZ es=true∧∀e,e∈es→e.cells.length=sz:=by
 cases v
 all_goals first|(simp [dv] at h;done)|skip
 case str e8=>
  simp only[dv,bm,e0] at h;obtain⟨rfl,rfl⟩:=h;obtain⟨a,rfl,r⟩:=bM.ia;refine⟨.inl ⟨e8,a,rfl,rfl,r,rfl,rfl⟩,ef.2 (fun c aY=>?_),fun e he=>?_⟩
  ·obtain⟨b,_,rfl⟩:=List.mem_map.1 aY;rfl
  ·obtain⟨b,_,rfl⟩:=List.mem_map.1 he;rfl
 case bW z l g=>
  have key:(z=sz∧l=es)∧(ae.aZ es=true∨∀a,g≠.dx a):=by
   cases g with
   |dx a=>
    simp only[dv] at h;split at h
    ·rename_i aU;simp only[bm,e0] at h;exact⟨h,.inl (h.2 ▸ aU)⟩
    ·cases h
   |nil=>simp only[dv,bm,e0] at h;exact⟨h,.inr fun a e=>by cases e⟩
   |exact=>simp only[dv,bm,e0] at h;exact⟨h,.inr fun a e=>by cases e⟩
   |any=>simp only[dv,bm,e0] at h;exact⟨h,.inr fun a e=>by cases e⟩
  obtain⟨⟨rfl,rfl⟩,u⟩:=key;rcases bM.hE with⟨rfl,_,rfl⟩|⟨a,cap,dt,rfl,_,_,_,dD,y,B,F⟩
  ·exact⟨.inr ⟨none,0,rfl,fun _=>rfl,fun a r=>(by cases r)⟩,rfl,fun e he=>(by simp at he)⟩
  ·refine⟨.inr ⟨some a,cap,rfl,fun r=>(by cases r),fun fY r=>?_⟩,?_,dD⟩
   rotate_left
   ·rcases u with cZ|cZ
    ·exact cZ
    ·exact ef.2 (y.left fun d j e=>by cases g<;> first|exact cZ _ rfl |cases e)
   cases r;exact⟨dt,fun j cX=>(a7.iG _ _ (B j cX)).2,F⟩
 case cO a off len cap z=>
  simp only[dv] at h;rw[←ag.hO] at h;cases r:a.ap s.aa with
  |l i=>cases a<;> simp [Loc.ap] at r
  |g d i=>
   rw[r] at h;simp only[ae.ap,r] at bM;obtain⟨lU,rfl,cP,bL,_⟩:=bM.jW;cases cb:s.get (.g d i) with
   |none=>rw[cb] at h;cases h
   |some o=>
    rw[cb] at h;cases o<;> first|(simp at h;done)|skip
    rename_i cs;simp only at h;split at h
    ·rename_i aY;simp only[bm,e0] at h;obtain⟨rfl,rfl⟩:=h;simp only[bl,Bool.not_eq_true'] at aY;have g8:z≠0:=fun eS=>by rw[eS] at aY;simp at aY
     have hle:=dW aY.1.2;obtain⟨H,I⟩:=kz z g8 len (cs.drop off) (by simp;omega);refine⟨.inr ⟨some ⟨κ.loc d i,off,none⟩,lU,(by rw[fs]),fun r=>(by cases r),fun fY r=>?_⟩,aY.1.1,I⟩;cases r;rw[H];obtain⟨dt,pY,q6⟩:=sL (ob a7 cb off) (show d+1≤s.aa+1 by omega);refine⟨dt,fun j cX=>pY j (by simp at cX ⊢;omega),fun j c cX=>q6 j c ?_⟩;rw[List.getElem?_take] at cX;split at cX
     ·exact cX
     ·cases cX
    ·cases h
end
section
variable{P:Program}{ty:TypeId}{ρ:Operand→Value}{κ:bj}{s:ag}{w:World}(a7:c5 κ s w)
theorem zn(b:ByteArray)(n:Nat)(κ:bj)(D:Nat):eu κ D (((b.data.toList.map UInt8.toNat).take n).map fun m=>ae.int .u8 (m:Nat)) ((b.extract 0 n).data.map fun c=>Value.int .u8 c.toNat).toList:=by
 have eS:(b.extract 0 n).data.toList=b.data.toList.take n:=by rw[nK];simp
 have bN:b.data.toList.length=b.size:=Array.length_toList;refine⟨?_,fun j c x aY a5=>?_⟩
 ·rw[Array.toList_map,ep,eS];simp only[ep,List.length_take]
 ·rw[Array.toList_map,eS,g6] at a5;rw[←List.map_take,List.map_map,g6] at aY;cases fE:(b.data.toList.take n)[j]? with
  |none=>rw[fE] at a5;cases a5
  |some q=>rw[fE] at a5 aY;simp only[ej,bm,Function.comp] at a5 aY;rw[←a5,←aY];exact .int _ _
theorem fo{X:Value}{sz:Nat}{es:List ae}{v:ae}(h:(∃e8 a,v=.str e8∧X=.string a∧a.data.toList.map UInt8.toNat=e8∧sz=1∧es=e8.map fun b=>.int .u8 (b:Nat))∨
   (∃A c,X=.slice A es.length c∧(A=none→es=[])∧∀a,A=some a→Reads κ (s.aa+1) w a (es.flatMap ae.cells)))(e3:∀e,e∈es→e.cells.length=sz)(n:Nat)(dm:n≤es.length)(w':World)(hw:∀a,w'.cell? a=w.cell? a):
  (Builtin.lenOf X).run P w'=.ok es.length w'∧∃xs:List Value,(Builtin.firstCells sz n X).run P w'=.ok xs.toArray w'∧eu κ (s.aa+1) ((es.take n).flatMap ae.cells) xs:=by
 rcases h with⟨e8,a,_,rfl,r,rfl,rfl⟩|⟨A,c,rfl,ar,av⟩
 ·have u:a.size=e8.length:=by have:=congrArg List.length r;rw[ep,Array.length_toList] at this;exact this
  simp only[ep] at dm ⊢;refine⟨by simp [Builtin.lenOf,u],((a.extract 0 n).data.map fun c=>Value.int .u8 c.toNat).toList,by simp only[Builtin.firstCells,Array.toArray_toList,Sem.run_pure],?_⟩
  have:=zn a n κ (s.aa+1);rw[r] at this;have e:(List.map (fun b=>ae.int IntKind.u8 ((b:Nat):Int)) e8).take n=(e8.take n).map fun m=>ae.int .u8 (m:Nat):=by rw[List.map_take]
  rw[e];have y:∀l:List Nat,(l.map fun m=>ae.int .u8 (m:Nat)).flatMap ae.cells=l.map fun m=>ae.int .u8 (m:Nat):=by
   intro l
   induction l with
   |nil=>rfl
   |cons x l B=>simp [List.flatMap_cons,B,ae.cells]
  rw[y];exact this
 ·refine⟨by simp [Builtin.lenOf],?_⟩;cases A with
  |none=>
   have:=ar rfl;subst this
   have:n=0:=by simpa using dm
   subst this;exact⟨[],by simp [Builtin.firstCells],.nil _ _⟩
  |some a=>
   have aU:=av a rfl;have F:=e6 es sz e3;have io:Reads κ (s.aa+1) w' a (es.flatMap ae.cells):=by obtain⟨dt,pY,q6⟩:=aU;exact⟨dt,fun j cX=>by rw[hw];exact pY j cX,q6⟩
   have hle:n*sz≤(es.flatMap ae.cells).length:=by rw[F];exact fZ _ dm
   obtain⟨xs,e,a5⟩:=ti (P:=P) io hle;refine⟨xs,by simp only[Builtin.firstCells];exact e,?_⟩
   have:(es.flatMap ae.cells).take (n*sz)=(es.take n).flatMap ae.cells:=by
    have bV:es.flatMap ae.cells=(es.take n).flatMap ae.cells++(es.drop n).flatMap ae.cells:=by rw[←List.flatMap_append,List.take_append_drop]
    have dD:((es.take n).flatMap ae.cells).length=n*sz:=by rw[e6 _ sz (fun e he=>e3 e (List.mem_of_mem_take he)),List.length_take,Nat.min_eq_left dm]
    rw[bV,←dD,List.take_left]
   rw[←this];exact a5
theorem Ev(e:Nat):∀(r c:Nat),Builtin.growBy e r c≤max c (e+(e+768)/4):=by
 intro r
 induction r with
 |zero=>intro c;simp only[Builtin.growBy];omega
 |succ r h=>
  intro c;simp only[Builtin.growBy];split
  ·omega
  ·have:=h (c+(c+768)/4);omega
theorem nextslicecap_le{e Ew:Nat}(h:Ew<e):Builtin.nextslicecap e Ew≤2*e+400:=by
 unfold Builtin.nextslicecap;split
 ·omega
 ·split
  ·omega
  ·have:=Ev e 4 Ew;omega
structure nu (P:Program) (t t2 el:TypeId) (sz bytes:Nat) (z:Value):Prop where
 ed:P.underlying t=some (.slice el)
 lW:(∃hX,P.underlying t2=some (.slice hX))∨P.underlying t2=some .string
 info:∃i,P.info? el=some i∧i.size=sz∧i.bytes=bytes∧i.zero=some z
 afX:z.cells.size=sz
 Mt:0<bytes
 xI:bytes≤1048576
theorem nu.size{t t2 el:TypeId}{sz bytes:Nat}{z:Value}(h:nu P t t2 el sz bytes z):fg P el=some sz:=by obtain⟨i,ar,av,_⟩:=h.info;simp [fg,ar,av]
theorem run_append_fits{t t2 el:TypeId}{sz bytes:Nat}{z:Value}(h:nu P t t2 el sz bytes z){base:Option Addr}{fM jj n:Nat}{X:Value}{xs:List Value}(bN:(Builtin.lenOf X).run P w=.ok n w)(aY:(Builtin.firstCells sz n X).run P w=.ok xs.toArray w)(dm:fM+n≤jj)
  {w':World}(e:match base with
   |some a=>(storeCells (a.add (fM*sz)) xs).run P w=.ok () w'
   |none=>w'=w):(Builtin.append_ #[t,t2] ty #[.slice base fM jj,X]).run P w=.ok (.slice base (fM+n) jj) w':=by
 cases base with
 |none=>subst e;rcases h.lW with⟨hX,cP⟩|cP<;> simp [Builtin.append_,run_underlying h.ed,run_underlying cP,eE h.size,bN,aY,dm]
 |some a=>simp only at e;rcases h.lW with⟨hX,cP⟩|cP<;> simp [Builtin.append_,run_underlying h.ed,run_underlying cP,eE h.size,bN,aY,dm,e]
theorem iW{t t2 el:TypeId}{sz bytes:Nat}{z:Value}(h:nu P t t2 el sz bytes z){base:Option Addr}{fM jj n:Nat}{X:Value}{os xs:List Value}(bN:(Builtin.lenOf X).run P w=.ok n w)
  (aY:(Builtin.firstCells sz n X).run P w.drew=.ok xs.toArray w.drew)(u:(Builtin.firstCells sz fM (.slice base fM jj)).run P w.drew=.ok os.toArray w.drew)
  (e:xs.length=n*sz)(r:os.length=fM*sz)(dm:jj<fM+n)(M:(fM+n)*bytes≤1099511627776):
  ∃cap C,fM+n≤cap∧C.size=cap*sz∧(∀j,j<(fM+n)*sz→C[j]? =(os++xs)[j]?)∧
   (Builtin.append_ #[t,t2] ty #[.slice base fM jj,X]).run P w=.ok (.slice (some ⟨w.heap.size,0,none⟩) (fM+n) cap) (w.drew.alloc (.cells C el)):=by
 obtain⟨i,bL,N,y,A⟩:=h.info;have O:(fM+n)*1≤(fM+n)*bytes:=Nat.mul_le_mul_left _ h.Mt;have B:¬(fM+n≤jj):=by omega
 have U:Builtin.nextslicecap (fM+n) jj*bytes≤281474976710656:=by
  have ar:=nextslicecap_le dm;have av:Builtin.nextslicecap (fM+n) jj*bytes≤(2*(fM+n)+400)*bytes:=fZ _ ar;have bV:(2*(fM+n)+400)*bytes=2*((fM+n)*bytes)+400*bytes:=by rw[e9,gM]
  have dD:=h.xI;omega
 let cap:=(Question.appendCap (fM+n) jj el).cut (w.tape w.drawn (.appendCap (fM+n) jj el))
 have oM:fM+n≤cap:=by simp only[cap,Question.cut];omega
 let C:Array Value:=os.toArray++xs.toArray++Builtin.zeroCells z.cells (cap-(fM+n))
 have F:C.size=cap*sz:=by
  have dH:(fM+n)*sz+(cap-(fM+n))*sz=cap*sz:=by rw[←e9];congr 1;omega
  have H:fM*sz+n*sz=(fM+n)*sz:=by rw[e9]
  simp only[C,Array.size_append,List.size_toArray,e,r,Builtin.zeroCells,Array.size_map,Array.size_range,h.afX];omega
 refine⟨cap,C,oM,F,fun j cX=>?_,?_⟩
 ·have H:fM*sz+n*sz=(fM+n)*sz:=by rw[e9]
  simp only[C];rw[Array.getElem?_append_left (by simp only[Array.size_append,List.size_toArray,e,r];omega)];simp
 ·have I:¬(9223372036854775807<((fM:Int)+(n:Int))):=by omega
  have J:¬(281474976710656<Builtin.nextslicecap (fM+n) jj*i.bytes):=by rw[y];omega
  have fE:(Question.appendCap (fM+n) jj el).forced=false:=rfl;have K:¬(fM+n≤jj):=B;rcases h.lW with⟨hX,cP⟩|cP<;> simp [Builtin.append_,run_underlying h.ed,run_underlying cP,eE h.size,typeInfo,bL,bN,K,I,J,fE,aY,u,zeroValue,A,newRow,C,cap]
end
section
variable{P:Program}{ty:TypeId}{ρ:Operand→Value}{κ:bj}{s:ag}{w:World}(a7:c5 κ s w)
theorem hP{t t2:TypeId}{x y:Operand}{z:Value}{w':World}(h:(Builtin.append_ #[t,t2] ty #[ρ x,ρ y]).run P w=.ok z w')(dst:Option Tmp)(pos:String)(after:Array Edge)(guard:Option (Nat×Bool)):
  (execOp ρ ⟨dst,.call {callee:=.builtin .append,args:= #[x,y],argTypes:= #[t,t2]},ty,pos,after,guard⟩).run P w=.ok (.value z) w':=by
 simp [execOp,resolve,invoke,builtin,h]
theorem dC.zo{κ':bj}{D d i n sz cap b:Nat}{es:List ae}{xs:List Value}(cP:d<D)(bL:i<κ'.n d)(ed:κ'.lC d i es.length=some (⟨b,0,none⟩,cap,sz))(dm:es.length≤cap)(e3:∀e,e∈es→e.cells.length=sz)(aU:∀e,e∈es→e.low d=true)
  (a5:eu κ' D (es.flatMap ae.cells) xs)(h7:∀j,j<(es.flatMap ae.cells).length→κ'.F ⟨b,j,none⟩=xs[j]?)(bN:n=es.length):dC κ' D (.bW sz es (.dx (.g d i))) (.slice (some ⟨b,0,none⟩) n cap):=by
 subst bN;refine .bW sz es _ _ _ (fun j=>xs.getD j undef) ⟨cP,bL,ed⟩ dm (fun _=>rfl) e3 (.inr ⟨d,i,rfl,aU⟩) (fun j cX=>?_) (fun j c aY=>?_)
 ·rw[f6 rfl];simp only[bf];rw[h7 j cX]
  have:j<xs.length:=by rw[a5.1];exact cX
  simp [List.getD,this]
 ·obtain⟨y,eM,bM⟩:=a5.get aY
  have:xs.getD j undef=y:=by simp [List.getD,eM]
  rw[this];exact bM
include a7
def Form(κ:bj)(s:ag)(w:World)(v:ae)(X:Value)(sz:Nat)(es:List ae):Prop:=
 (∃e8 a,v=.str e8∧X=.string a∧a.data.toList.map UInt8.toNat=e8∧sz=1∧es=e8.map fun b=>.int .u8 (b:Nat))∨
   (∃A c,X=.slice A es.length c∧(A=none→es=[])∧∀a,A=some a→Reads κ (s.aa+1) w a (es.flatMap ae.cells))
theorem rc{t t2 el:TypeId}{sz bytes:Nat}{z:Value}(h:nu P t t2 el sz bytes z){x y:Operand}{es new:List ae}{base:Option Addr}{u:Nat}{Y:ae}(kL:ρ x=.slice base es.length u)(F:Form κ s w Y (ρ y) sz new)(r:∀e,e∈new→e.cells.length=sz)
  (M:(∃A c,ρ x=.slice A es.length c∧(A=none→es=[])∧∀a,A=some a→Reads κ (s.aa+1) w a (es.flatMap ae.cells)))(e3:∀e,e∈es→e.cells.length=sz)(oM:u<es.length+new.length)(N:(es.length+new.length)*bytes≤1099511627776){mb l:Loc}{s':ag}(O:s.hn mb (.tok (es.length+new.length))=some (l,s'))
  (aU:∀d i,l.ap s.aa=.g d i→∀e,e∈es++new→e.low d=true):
  dN P (.call {callee:=.builtin .append,args:= #[x,y],argTypes:= #[t,t2]}) ty ρ κ s w (.bW sz (es++new) (.dx l)) s':=by
 obtain⟨U,V,bN,H⟩:=iu.by O
 obtain⟨hlen,xs,aY,f7⟩:=fo (P:=P) F r new.length (aD _) w.drew (fun _=>rfl);have Z:=(fo (P:=P) F r new.length (aD _) w (fun _=>rfl)).1;obtain⟨_,os,I,B⟩:=fo (P:=P) (X:=ρ x) (v:=.dead) (.inr M) e3 es.length (aD _) w.drew (fun _=>rfl);simp only[List.take_length] at f7 B;have ab:xs.length=new.length*sz:=by rw[f7.1,e6 new sz r]
 have ac:os.length=es.length*sz:=by rw[B.1,e6 es sz e3]
 rw[kL] at I;obtain⟨cap,C,J,ad,af,ah⟩:=iW (ty:=ty) h (base:=base) (fM:=es.length) (jj:=u) Z aY I ab ac oM N;obtain⟨κ',hj,g2,ai,ns,im⟩:=a7.Hw (w':=w.drew.alloc (.cells C el)) C el (es.length+new.length) sz cap H ad J rfl rfl rfl rfl;refine⟨_,κ',_,.inl (hP (by rw[kL];exact ah)),g2,hj,?_⟩;simp only[ae.ap,eZ.ap,bN];have K:∀e,e∈es++new→e.cells.length=sz:=fun e he=>by
  rcases List.mem_append.1 he with he|he
  ·exact e3 e he
  ·exact r e he
 refine dC.zo (Nat.lt_succ_of_le H.le) ai (by rw[gL];exact ns) (by rw[gL];exact J) K (aU U V bN) (xs:=os++xs) (by rw[List.flatMap_append];exact(B.append f7).mono g2.k) (fun j cX=>?_) (by rw[gL]);rw[e6 _ sz K,gL] at cX;rw[im j cX,af j cX]
theorem tm{t t2 el:TypeId}{sz bytes:Nat}{z:Value}(h:nu P t t2 el sz bytes z){x y:Operand}{es new:List ae}{base:Option Addr}{r:Nat}{Y:ae}(kL:ρ x=.slice base es.length r)(u:dC κ (s.aa+1) (Y.ap s.aa) (ρ y))(iH:dv s Y=some (sz,new))
  (B:(∃A c,ρ x=.slice A es.length c∧(A=none→es=[])∧∀a,A=some a→Reads κ (s.aa+1) w a (es.flatMap ae.cells)))(e3:∀e,e∈es→e.cells.length=sz)(aU:∀e,e∈es→e.bc=true)(oM:r<es.length+new.length)(F:(es.length+new.length)*bytes≤1099511627776){mb l:Loc}{s':ag}(H:s.hn mb (.tok (es.length+new.length))=some (l,s')):
  dN P (.call {callee:=.builtin .append,args:= #[x,y],argTypes:= #[t,t2]}) ty ρ κ s w (.bW sz (es++new) (.dx l)) s':=by
 obtain⟨I,J,K⟩:=kA a7 u iH;refine rc a7 h kL I K B e3 oM F H fun d i _ e he=>ae.lV _ _ ?_
 rcases List.mem_append.1 he with he|he
 ·exact aU e he
 ·exact ef.1 J e he
theorem tn{t t2 el:TypeId}{q bytes:Nat}{z:Value}(h:nu P t t2 el q bytes z){x y:Operand}{es new:List ae}{Y:ae}(N:Form κ s w Y (ρ y) q new)(u:∀e,e∈new→e.cells.length=q)(lo:0<new.length){a:Loc}{s':ag}(kL:dC κ (s.aa+1) (.bW q es (.dx (a.ap s.aa))) (ρ x))
  (H:s.get a=some (.tok es.length))(am:(new.flatMap ae.cells).all ae.eB=true)(I:s.set a (.tok (es.length+new.length))=some s')(ac:sH s a new=true)(an:(es.length+new.length)*bytes≤1099511627776):
  dN P (.call {callee:=.builtin .append,args:= #[x,y],argTypes:= #[t,t2]}) ty ρ κ s w (.bW q (es++new) (.dx a)) s':=by
 rw[←ag.hO] at H;rw[←ag.ln] at I;rcases kL.hE with⟨_,cb,_⟩|⟨A,cap,dt,e,cb,dm,aI,dD,B,ad,af⟩
 ·cases cb
 cases r:a.ap s.aa with
 |l i=>cases a<;> simp [Loc.ap] at r
 |g d i=>
  rw[r] at H I cb B;obtain⟨cP,bL,ah⟩:=cb;have ao:∀e,e∈new→e.low d=true:=by
   cases a with
   |l j=>simp only[Loc.ap,Loc.g.injEq] at r;exact kR.1 (r.1 ▸ ac)
   |g fQ j=>simp only[Loc.ap,Loc.g.injEq] at r;exact kR.1 (r.1 ▸ ac)
  have aq:∀e,e∈es→e.low d=true:=by
   rcases B with B|⟨fQ,hF,hX,B⟩
   ·exact fun e he=>ae.lV _ _ (B e he)
   ·cases hX;exact B
  obtain⟨b,aJ,aK,t1,aL,⟨au,ma,av,t3,t4,t5⟩,t6,t7⟩:=a7.obj d i _ H;rw[ah] at t1;simp only[bm,e0] at t1;obtain⟨rfl,rfl,rfl⟩:=t1;have J:∀e,e∈es++new→e.cells.length=q:=fun e he=>by
   rcases List.mem_append.1 he with he|he
   ·exact dD e he
   ·exact u e he
  have ai:∀e,e∈es++new→e.low d=true:=fun e he=>by
   rcases List.mem_append.1 he with he|he
   ·exact aq e he
   ·exact ao e he
  have aw:Reads κ (s.aa+1) w ⟨b,0,none⟩ (es.flatMap ae.cells):=⟨dt,fun j cX=>(a7.iG _ _ (ad j cX)).2,af⟩;have K:=e6 es q dD;by_cases M:es.length+new.length≤cap
  ·
   obtain⟨hlen,xs,aY,f7⟩:=fo (P:=P) N u new.length (aD _) w (fun _=>rfl);simp only[List.take_length] at f7;have O:xs.length=new.length*q:=by rw[f7.1,e6 new q u]
   have ax:(es.length+new.length)*q≤au.size:=by rw[t4];exact fZ _ M
   rw[e9] at ax;have ar:=nL am f7;have ay:=run_storeCells_cells (P:=P) b (es.length*q) xs 0 w (fun j cX=>by rw[fS t3];simp;omega) (fun j cX=>by
    have hu:=t5 (es.length*q+0+j) (by omega);simp only[World.frozen?,t3];rw[Bool.and_eq_false_iff];by_cases aj:av.1≤es.length*q+0+j
    ·right;simp only[decide_eq_false_iff_not];exact fun h=>hu ⟨aj,h⟩
    ·left;simpa using aj) ar
   have az:=run_append_fits (ty:=ty) h (base:=some ⟨b,0,none⟩) (fM:=es.length) (jj:=cap) hlen aY M (w':=w.setCells b (es.length*q) xs) (by
    have aA:(⟨b,0,none⟩:Addr).add (es.length*q)=⟨b,es.length*q,none⟩:=by rw[f6 rfl];simp
    simp only[aA];simpa using ay)
   obtain⟨κ',hj,g2,U,ns⟩:=a7.Mp H ah I (by omega) M xs (by rw[O];congr 1;omega);refine⟨_,κ',_,.inl (hP (by rw[e];exact az)),g2,hj,?_⟩;simp only[ae.ap,eZ.ap,r];have hold:eu κ (s.aa+1) (es.flatMap ae.cells) ((List.range (es.length*q)).map dt):=by
    refine⟨by simp [K],fun j c x aY a5=>?_⟩;have cX:j<es.length*q:=by rw[←K];exact(ec.1 aY).1
    have:(List.range (es.length*q))[j]? =some j:=by simp [cX]
    rw[g6,this] at a5;simp only[ej,bm] at a5;exact a5 ▸ af j c aY
   refine dC.zo cP (gd bL (g2.k.n d cP)) (by rw[gL];exact U) (by rw[gL];exact M) J ai (xs:=(List.range (es.length*q)).map dt++xs) (by rw[List.flatMap_append];exact(hold.append f7).mono g2.k) (fun j cX=>?_) (by rw[gL]);rw[e6 _ q J,gL,e9] at cX;by_cases V:j<es.length*q
   ·rw[gm (by simpa using V)];have Z:=g2.k.F _ _ (ad j (by rw[K];exact V));rw[f6 rfl] at Z;simp only[bf] at Z;rw[Z];simp [V]
   ·rw[i7 (by simp;omega)];obtain⟨m,rfl⟩:∃m,j=es.length*q+m:=⟨j-es.length*q,by omega⟩;have hm:m<xs.length:=by omega
    rw[ns m xs[m] (ei hm)];simp [hm]
  ·
   obtain⟨hlen,xs,aY,f7⟩:=fo (P:=P) N u new.length (aD _) w.drew (fun _=>rfl);have aB:=(fo (P:=P) N u new.length (aD _) w (fun _=>rfl)).1;obtain⟨_,os,ak,ab⟩:=fo (P:=P) (X:=ρ x) (v:=.dead) (.inr ⟨some ⟨b,0,none⟩,cap,e,fun r=>(by cases r),fun fY r=>(by cases r;exact aw)⟩) dD es.length (aD _) w.drew (fun _=>rfl);simp only[List.take_length] at f7 ab;have O:xs.length=new.length*q:=by rw[f7.1,e6 new q u]
   have aC:os.length=es.length*q:=by rw[ab.1,K]
   rw[e] at ak;obtain⟨aE,C,al,aF,aG,aH⟩:=iW (ty:=ty) h (base:=some ⟨b,0,none⟩) (fM:=es.length) (jj:=cap) aB aY ak O aC (by omega) an;obtain⟨κ',hj,g2,U,ns⟩:=a7.Mq (w':=w.drew.alloc (.cells C el)) H I (by omega) C el aE q aF al rfl rfl rfl rfl;refine⟨_,κ',_,.inl (hP (by rw[e];exact aH)),g2,hj,?_⟩;simp only[ae.ap,eZ.ap,r];refine dC.zo cP (gd bL (g2.k.n d cP)) (by rw[gL];exact U) (by rw[gL];exact al) J ai (xs:=os++xs) (by rw[List.flatMap_append];exact(ab.append f7).mono g2.k) (fun j cX=>?_) (by rw[gL]);rw[e6 _ q J,gL] at cX;rw[ns j cX,aG j cX]
theorem qc{E:Env}(bs:E.F=.not){k:ae→ag→ah}{r:ah}(br:r≠.fail){t t2 el:TypeId}{sz bytes:Nat}{z:Value}(h:nu P t t2 el sz bytes z){x y:Operand}{X Y:ae}
  (kL:dC κ (s.aa+1) (X.ap s.aa) (ρ x))(N:dC κ (s.aa+1) (Y.ap s.aa) (ρ y)){mb:Loc}(aU:hL E s k sz bytes mb X Y=r):∃fL s',k fL s'=r∧dN P (.call {callee:=.builtin .append,args:= #[x,y],argTypes:= #[t,t2]}) ty ρ κ s w fL s':=by
 unfold hL at aU;cases iH:dv s Y with
 |none=>rw[iH] at aU;exact absurd aU.symm br
 |some p=>
  obtain⟨af,new⟩:=p;rw[iH] at aU;obtain⟨O,ai,M⟩:=kA a7 N iH;cases X<;> simp only[ae.ap] at kL<;> simp only[bs,aX.not] at aU<;> try exact absurd aU.symm br
  case bW q es g=>
   obtain⟨H,u⟩:=c2 aU br;clear aU;rw[bl,bl] at H;have U:af=sz:=dh H.1.1;have V:q=sz:=dh H.1.2;have Z:=dW H.2;subst U;subst V;cases new with
   |nil=>
    simp only at u;refine⟨_,_,u,?_⟩;obtain⟨hlen,xs,aY,f7⟩:=fo (P:=P) O M 0 (aD _) w (fun _=>rfl);have am:xs=[]:=jE (by rw[f7.1];rfl);subst am
    have:∃A cap,ρ x=.slice A es.length cap∧es.length≤cap:=by
     rcases kL.hE with⟨rfl,_,e⟩|⟨a,cap,_,e,_,dm,_⟩
     ·exact⟨none,0,e,aD _⟩
     ·exact⟨some a,cap,e,dm⟩
    obtain⟨A,cap,e,dm⟩:=this;have ab:=run_append_fits (ty:=ty) h (base:=A) (fM:=es.length) (jj:=cap) hlen aY (by simpa using dm) (w':=w) (by cases A with
     |none=>rfl
     |some a=>simp [storeCells])
    refine bG a7 _ (hP (by rw[e];exact ab)) ?_;simp only[ae.ap,cB,Nat.add_zero];rw[←e];exact kL
   |cons an Sr=>
    simp only at u;generalize ao:an::Sr=new at *;have lo:0<new.length:=by rw[←ao];simp
    cases g with
    |any=>exact absurd u.symm br
    |nil=>
     simp only at u;cases I:s.hn mb (.tok (es.length+new.length)) with
     |none=>rw[I] at u;exact absurd u.symm br
     |some p=>
     obtain⟨l,aq⟩:=p;rw[I] at u;refine⟨_,_,u,?_⟩;rcases kL.hE with⟨rfl,_,e⟩|⟨a,cap,_,e,cb,_⟩
     ·exact tm a7 h e N iH ⟨none,0,e,fun _=>rfl,fun a B=>(by cases B)⟩ (fun e he=>by simp at he) (fun e he=>by simp at he) (by simpa using lo) Z I
     ·simp [eZ.ap,iF] at cb
    |exact=>
     simp only at u;cases I:s.hn mb (.tok (es.length+new.length)) with
     |none=>rw[I] at u;exact absurd u.symm br
     |some p=>
     obtain⟨l,aq⟩:=p;rw[I] at u;refine⟨_,_,u,?_⟩;rcases kL.hE with⟨_,cb,_⟩|⟨a,cap,dt,e,cb,dm,aJ,dD,aj,ak,ar⟩
     ·simp [eZ.ap] at cb
     ·simp only[eZ.ap,iF] at cb;subst cb;exact tm a7 h e N iH ⟨some a,_,e,fun B=>(by cases B),fun fY B=>(by cases B;exact⟨dt,fun j cX=>(a7.iG _ _ (ak j cX)).2,ar⟩)⟩ dD (aj.left fun d j e=>(by cases e)) (by omega) Z I
    |dx a=>
     simp only at u
     ·rw[←ag.hO] at u;cases B:a.ap s.aa with
      |l i=>cases a<;> simp [Loc.ap] at B
      |g d i=>
       rw[B] at u;cases ac:s.get (.g d i) with
       |none=>rw[ac] at u;exact absurd u.symm br
       |some o=>
        rw[ac] at u;cases o<;> try exact absurd u.symm br
        rename_i n;obtain⟨ad,K⟩:=c2 u br;rw[bl] at ad;have au:n=es.length:=dh ad.1;subst au;rw[←ag.ln,B] at K;cases J:s.set (.g d i) (.tok (es.length+new.length)) with
        |none=>rw[J] at K;exact absurd K.symm br
        |some s'=>
         rw[J] at K;refine⟨_,_,K,?_⟩;have av:s.get a=some (.tok es.length):=by rw[←ag.hO,B];exact ac
         have aw:s.set a (.tok (es.length+new.length))=some s':=by rw[←ag.ln,B];exact J
         refine tn a7 h O M lo kL av ad.2 aw ?_ Z;unfold sH;cases a<;> exact ae.iM _ _ ai
  case cO a off len cap q=>
   rw[←ag.hO] at aU;cases B:a.ap s.aa with
   |l i=>cases a<;> simp [Loc.ap] at B
   |g d i=>
    rw[B] at aU kL;obtain⟨lU,e,cP,bL,aK,vj⟩:=kL.jW;cases cb:s.get (.g d i) with
    |none=>rw[cb] at aU;exact absurd aU.symm br
    |some o=>
     rw[cb] at aU;cases o<;> try exact absurd aU.symm br
     rename_i cs;obtain⟨H,u⟩:=c2 aU br;simp only[bl] at H;obtain⟨⟨⟨⟨⟨ax,ay⟩,az⟩,aA⟩,aL⟩,aB⟩:=H;have U:af=sz:=dh ax;have V:q=sz:=dh ay;subst U;subst V;have bV:=dW az;have dD:=dW aA;rw[←ag.ln,B] at u;have al:=e6 new q M;cases J:s.set (.g d i) (.cells (dL cs (off+len*q) (new.flatMap ae.cells))) with
     |none=>rw[J] at u;exact absurd u.symm br
     |some s'=>
      rw[J] at u;refine⟨_,_,u,?_⟩;obtain⟨hlen,xs,aY,f7⟩:=fo (P:=P) O M new.length (aD _) w (fun _=>rfl);simp only[List.take_length] at f7;have hmul:off+(len+new.length)*q=off+len*q+new.length*q:=by rw[e9];omega
      have aM:xs.length=new.length*q:=by rw[f7.1,al]
      have sR:ae.aZ (new.flatMap ae.cells)=true:=ef.2 (fun c aY=>by obtain⟨hX,aC,aE⟩:=List.mem_flatMap.1 aY;exact h8 (ef.1 ai hX aC) aE)
      have aF:=m3 B f7 (by simp [ag.gO,sR]);obtain⟨hj,g2⟩:=a7.store cb J aF (by rw[al];omega);have aG:=nt (P:=P) a7 cb (off:=off+len*q) (xs:=xs) (by omega) (nL aB f7);have aH:lU=cap:=by
       rcases vj with h|⟨aj,ak,_⟩
       ·exact h
       ·omega
      subst aH;have ab:=run_append_fits (ty:=ty) h (base:=some ⟨κ.loc d i,off,none⟩) (fM:=len) (jj:=lU) hlen aY bV (w':=w.setCells (κ.loc d i) (off+len*q) xs) (by
       have aI:(⟨κ.loc d i,off,none⟩:Addr).add (len*q)=⟨κ.loc d i,off+len*q,none⟩:=by rw[f6 rfl]
       simp only[aI];exact aG)
      refine⟨_,κ,_,.inl (hP (by rw[e];exact ab)),g2,hj,?_⟩;simp only[ae.ap,B];exact .cO d i off _ lU lU q cP bL bV (.inl rfl)
theorem vk{E:Env}(bs:E.F=.not){k:ae→ag→ah}{r:ah}(br:r≠.fail){t t2 el:TypeId}{sz bytes:Nat}{z:Value}(h:nu P t t2 el sz bytes z){x y:Operand}{X Y:ae}
  (kL:dC κ (s.aa+1) (X.ap s.aa) (ρ x))(O:dC κ (s.aa+1) (Y.ap s.aa) (ρ y)){mb:Loc}(aU:kb E s k sz bytes mb X Y=r):∃fL s',k fL s'=r∧dN P (.call {callee:=.builtin .append,args:= #[x,y],argTypes:= #[t,t2]}) ty ρ κ s w fL s':=by
 unfold kb at aU;cases Y<;> simp only[ae.ap] at O<;> simp only[bs,aX.not] at aU<;> try exact absurd aU.symm br
 rename_i ab new an;cases X<;> simp only[ae.ap] at kL<;> try exact absurd aU.symm br
 rename_i q es g;obtain⟨J,A⟩:=c2 aU br;clear aU;rw[bl,bl] at J;have ac:ab=sz:=dh J.1.1;have ad:q=sz:=dh J.1.2;have U:=dW J.2;subst ac;subst ad;have af:Form κ s w .dead (ρ y) q new∧∀e,e∈new→e.cells.length=q:=by
  rcases O.hE with⟨rfl,_,e⟩|⟨a,cap,dt,e,_,_,_,dD,_,ai,aj⟩
  ·exact⟨.inr ⟨none,0,e,fun _=>rfl,fun a H=>(by cases H)⟩,fun e he=>(by simp at he)⟩
  ·exact⟨.inr ⟨some a,cap,e,fun H=>(by cases H),fun fY H=>(by cases H;exact⟨dt,fun j cX=>(a7.iG _ _ (ai j cX)).2,aj⟩)⟩,dD⟩
 obtain⟨V,Z⟩:=af;cases new with
 |nil=>exact absurd A.symm br
 |cons ak Sr=>
  simp only at A;generalize al:ak::Sr=new at *;have lo:0<new.length:=by rw[←al];simp
  cases g with
  |any=>exact absurd A.symm br
  |exact=>exact absurd A.symm br
  |nil=>
   simp only at A;obtain⟨I,B⟩:=c2 A br;cases u:s.hn mb (.tok (es.length+new.length)) with
   |none=>rw[u] at B;exact absurd B.symm br
   |some p=>
   obtain⟨l,ao⟩:=p;rw[u] at B;refine⟨_,_,B,?_⟩;rcases kL.hE with⟨rfl,_,e⟩|⟨a,cap,_,e,cb,_⟩
   ·refine rc a7 h e V Z ⟨none,0,e,fun _=>rfl,fun a H=>(by cases H)⟩ (fun e he=>by simp at he) (by simpa using lo) U u fun d i bN e he=>?_
    simp only[List.nil_append] at he;have cP:sH s mb new=true→∀e,e∈new→e.low d=true:=by
     intro I;cases mb with
     |l j=>simp only[ag.hn,bm,e0] at u;obtain⟨rfl,_⟩:=u;simp only[Loc.ap,Loc.g.injEq] at bN;exact kR.1 (bN.1 ▸ I)
     |g fQ j=>
      simp only[ag.hn] at u;split at u
      ·rename_i aq;simp only[bm,e0] at u;obtain⟨rfl,_⟩:=u;simp only[Loc.ap,Loc.g.injEq] at bN
       have:fQ=d:=by omega
       exact kR.1 (this ▸ I)
      ·split at u
       ·split at u
        ·simp only[bm,e0] at u;obtain⟨rfl,_⟩:=u;simp only[Loc.ap,Loc.g.injEq] at bN;exact kR.1 (bN.1 ▸ I)
        ·cases u
       ·cases u
    exact cP I e he
   ·simp [eZ.ap,iF] at cb
  |dx a=>
   simp only at A;cases M:s.get a with
   |none=>rw[M] at A;exact absurd A.symm br
   |some o=>
    rw[M] at A;cases o<;> try exact absurd A.symm br
    rename_i n;obtain⟨K,B⟩:=c2 A br;rw[bl,bl] at K;have am:n=es.length:=dh K.1.1;subst am;cases N:s.set a (.tok (es.length+new.length)) with
    |none=>rw[N] at B;exact absurd B.symm br
    |some s'=>rw[N] at B;exact⟨_,_,B,tn a7 h V Z lo kL M K.1.2 N K.2 U⟩
theorem qD{G:Nat→ae}{ao:Nat→ae}{a:Act}(b2:xo κ s ao a)(dV:ko κ G){t el:TypeId}{sz:Nat}{z:List ae}{eb:List bF}{r:List Operand}(ed:P.underlying t=some (.slice el))(e3:fg P el=some sz)(g8:j5 P el z=true)(A:z.length=sz)
  (gZ:¬(r.length*sz>2^24))(dk:dz eb r=true){es:List ae}(y:eb.map (fun x=>(aq G ao x).ap s.aa)=es)(aU:ae.ku s.aa es=true)(bM:∀e,e∈es→e.fa=true∧e.cells.length=sz):
  dN P (.buildSlice t r.length (r.zipIdx.map fun p=>(p.2,p.1)).toArray) ty a.eval κ s w (.bW sz es (.dx (.l s.own.length))) (s.new (.tok es.length)):=by
 obtain⟨v,e,ar,_,_⟩:=kV g8 w;have M:v.cells.size=sz:=by rw[←Array.length_toList,(ar κ 0).1,A]
 have hlen:es.length=r.length:=by
  have:∀(eb:List bF) (r:List Operand),dz eb r=true→eb.length=r.length:=by
   intro eb
   induction eb with
   |nil=>intro r h;cases r<;> simp [dz] at h ⊢
   |cons p eb B=>intro r h;cases r with
    |nil=>simp [dz] at h
    |cons q r=>simp only[dz,bl] at h;simp [B r h.2]
  simp [←y,this eb r dk]
 obtain⟨xs,hX,f7⟩:=m2 b2 dV sz eb r 0 es [] ((Array.range (r.length*sz)).map (v.cells[· % v.cells.size]!)).toList dk y.symm bM (by simp) (by simp);have F:∀dst pos after guard,(execOp a.eval ⟨dst,.buildSlice t r.length (r.zipIdx.map fun p=>(p.2,p.1)).toArray,ty,pos,after,guard⟩).run P w=.ok (.value (.slice (some ⟨w.heap.size,0,none⟩) r.length r.length)) (w.alloc (.cells xs.toArray el)):=by
  intro dst pos after guard;simp only[List.nil_append,Array.toArray_toList] at hX;have H:=lD (parts:=((r.zipIdx.map fun p=>(p.2,p.1)).toArray.map fun p=>(p.1,a.eval p.2))) ed e3 e gZ (xs:=xs.toArray) (by rw[Array.toList_map,List.map_map];exact hX)
  have a5:∀(o:Oper),o.op=.buildSlice t r.length (r.zipIdx.map fun p=>(p.2,p.1)).toArray→execOp a.eval o=(do pure (.value (←Instr.buildSlice t r.length ((r.zipIdx.map fun p=>(p.2,p.1)).toArray.map fun p=>(p.1,a.eval p.2)))):Sem Next):=by intro o I;unfold execOp;rw[I]
  rw[a5 _ rfl,Sem.run_bind,H];rfl
 have u:∀e,e∈es→e.cells.length=sz:=fun e he=>(bM e he).2
 have J:xs.length=es.length*sz:=by rw[f7.1,e6 _ sz u]
 obtain⟨κ',hj,g2,K,ns,im⟩:=a7.Hw (w':=w.alloc (.cells xs.toArray el)) xs.toArray el es.length sz es.length (iu.new s _) (by simpa using J) (aD _) rfl rfl rfl rfl;refine⟨_,κ',_,.inl F,g2,hj,?_⟩;simp only[ae.ap,eZ.ap,Loc.ap];rw[←hlen];refine dC.zo (Nat.lt_succ_self _) K ns (aD _) u (kR.1 aU) (xs:=xs) (f7.mono g2.k) (fun j cX=>?_) rfl;rw[e6 _ sz u] at cX;rw[im j cX];simp
theorem qE{G:Nat→ae}{ao:Nat→ae}{a:Act}(b2:xo κ s ao a)(dV:ko κ G){t el:TypeId}{sz:Nat}{z:List ae}{eb:List bF}{r:List Operand}(ed:P.underlying t=some (.slice el))(e3:fg P el=some sz)(g8:j5 P el z=true)(y:z.length=sz)
  (gZ:¬(r.length*sz>2^24))(dk:dz eb r=true){es:List ae}(u:eb.map (fun x=>(aq G ao x).ap s.aa)=es)(bM:∀e,e∈es→e.fa=true∧e.cells.length=sz):
  dN P (.buildSlice t r.length (r.zipIdx.map fun p=>(p.2,p.1)).toArray) ty a.eval κ s w (.cO (.l s.own.length) 0 es.length es.length sz) (s.new (.cells (es.flatMap ae.cells))):=by
 obtain⟨v,e,ar,_,_⟩:=kV g8 w;have J:v.cells.size=sz:=by rw[←Array.length_toList,(ar κ 0).1,y]
 have hlen:es.length=r.length:=by
  have:∀(eb:List bF) (r:List Operand),dz eb r=true→eb.length=r.length:=by
   intro eb
   induction eb with
   |nil=>intro r h;cases r<;> simp [dz] at h ⊢
   |cons p eb A=>intro r h;cases r with
    |nil=>simp [dz] at h
    |cons q r=>simp only[dz,bl] at h;simp [A r h.2]
  simp [←u,this eb r dk]
 obtain⟨xs,hX,f7⟩:=m2 b2 dV sz eb r 0 es [] ((Array.range (r.length*sz)).map (v.cells[· % v.cells.size]!)).toList dk u.symm bM (by simp) (by simp);have B:∀dst pos after guard,(execOp a.eval ⟨dst,.buildSlice t r.length (r.zipIdx.map fun p=>(p.2,p.1)).toArray,ty,pos,after,guard⟩).run P w=.ok (.value (.slice (some ⟨w.heap.size,0,none⟩) r.length r.length)) (w.alloc (.cells xs.toArray el)):=by
  intro dst pos after guard;simp only[List.nil_append,Array.toArray_toList] at hX;have F:=lD (parts:=((r.zipIdx.map fun p=>(p.2,p.1)).toArray.map fun p=>(p.1,a.eval p.2))) ed e3 e gZ (xs:=xs.toArray) (by rw[Array.toList_map,List.map_map];exact hX)
  have a5:∀(o:Oper),o.op=.buildSlice t r.length (r.zipIdx.map fun p=>(p.2,p.1)).toArray→execOp a.eval o=(do pure (.value (←Instr.buildSlice t r.length ((r.zipIdx.map fun p=>(p.2,p.1)).toArray.map fun p=>(p.1,a.eval p.2)))):Sem Next):=by intro o H;unfold execOp;rw[H]
  rw[a5 _ rfl,Sem.run_bind,F];rfl
 obtain⟨κ',hj,g2,I,ns⟩:=a7.o6 (es.flatMap ae.cells) xs.toArray el (by simpa using f7) (w':=w.alloc (.cells xs.toArray el)) rfl rfl rfl rfl;refine⟨_,κ',_,.inl B,g2,hj,?_⟩;simp only[ae.ap,Loc.ap];rw[←I,←hlen];exact .cO _ _ _ _ _ _ _ (Nat.lt_succ_self _) ns (aD _) (.inl rfl)
end
section
variable{P:Program}{ty:TypeId}{ρ:Operand→Value}{κ:bj}{s:ag}{w:World}(a7:c5 κ s w)
include a7
theorem Be{E:Env}(bs:E.F=.not){k:ae→ag→ah}{r:ah}(br:r≠.fail){t t2 el:TypeId}{sz:Nat}(ed:P.underlying t=some (.slice el))(g8:fg P el=some sz){x y:Operand}{X Y:ae}(fE:∀a off len cap q,X=.cO a off len cap q→q=sz)
  (kL:dC κ (s.aa+1) (X.ap s.aa) (ρ x))(K:dC κ (s.aa+1) (Y.ap s.aa) (ρ y))(aU:copyV E s k X Y=r):∃fL s',k fL s'=r∧dN P (.call {callee:=.builtin .copy,args:= #[x,y],argTypes:= #[t,t2]}) ty ρ κ s w fL s':=by
 cases X<;> simp only[ae.ap] at kL<;> simp only[copyV] at aU<;> try exact absurd aU.symm br
 rename_i a off len cap q;obtain rfl:=fE _ _ _ _ _ rfl;cases iH:dv s Y with
 |none=>rw[iH] at aU;exact absurd aU.symm br
 |some p=>
  obtain⟨h,es⟩:=p;rw[iH] at aU;obtain⟨M,N,H⟩:=kA a7 K iH;simp only at aU;rw[←ag.hO] at aU;cases A:a.ap s.aa with
  |l i=>cases a<;> simp [Loc.ap] at A
  |g d i=>
   rw[A] at aU kL;obtain⟨lU,e,cP,bL,_⟩:=kL.jW;cases cb:s.get (.g d i) with
   |none=>rw[cb] at aU;exact absurd aU.symm br
   |some o=>
    rw[cb] at aU;cases o<;> try exact absurd aU.symm br
    rename_i cs;simp only[bs,aX.not] at aU;obtain⟨I,u⟩:=c2 aU br;simp only[bl] at I;obtain⟨⟨O,U⟩,V⟩:=I;have Z:h=q:=dh O;subst Z;have av:=dW U;rw[←ag.ln,A] at u;obtain⟨hlen,xs,aY,f7⟩:=fo (P:=P) M H (min es.length len) (Nat.min_le_left _ _) w (fun _=>rfl);have J:((es.take (min es.length len)).flatMap ae.cells).length=min es.length len*h:=by rw[e6 _ h (fun e he=>H e (List.mem_of_mem_take he)),List.length_take];congr 1;omega
    have hmul:min es.length len*h≤len*h:=fZ _ (Nat.min_le_right _ _);have sR:ae.aZ ((es.take (min es.length len)).flatMap ae.cells)=true:=ef.2 (fun c aY=>by obtain⟨hX,ab,ac⟩:=List.mem_flatMap.1 aY;exact h8 (ef.1 N hX (List.mem_of_mem_take ab)) ac)
    cases B:s.set (.g d i) (.cells (dL cs off ((es.take (min es.length len)).flatMap ae.cells))) with
    |none=>rw[B] at u;exact absurd u.symm br
    |some s'=>
     rw[B] at u;refine⟨_,_,u,?_⟩;have ai:xs.length=min es.length len*h:=by rw[f7.1,J]
     have ad:=m3 A f7 (by simp [ag.gO,sR]);obtain⟨hj,g2⟩:=a7.store cb B ad (by rw[J];omega);have af:=nt (P:=P) a7 cb (off:=off) (xs:=xs) (by omega) (nL V f7);have aj:Nat.min es.length len=min es.length len:=rfl;refine⟨.int .i64 (min es.length len:Nat),κ,_,.inl (fun _ _ _ _=>?_),g2,hj,.int _ _⟩;simp only[execOp,resolve,invoke,builtin,List.map_toArray,fH,List.map_nil,Sem.run_bind,Sem.run_pure,Result.andThen_ok]
     have:(Builtin.copy_ #[t,t2] ty #[ρ x,ρ y]).run P w=.ok (goInt (min es.length len:Nat)) (w.setCells (κ.loc d i) off xs):=by simp [Builtin.copy_,run_underlying ed,e,hlen,eE g8,aY,af]
     simp [this,goInt]
theorem re{E:Env}(bs:E.F=.not){k:ae→ag→ah}{r:ah}(br:r≠.fail){o:Op}{x:Operand}(J:∀dst pos after guard,(execOp ρ ⟨dst,o,ty,pos,after,guard⟩).run P w=.ok (.value (ρ x)) w){v:ae}
  (a5:dC κ (s.aa+1) (v.ap s.aa) (ρ x))(aU:m0 E s k v=r):∃fL s',k fL s'=r∧dN P o ty ρ κ s w fL s':=by
 cases v<;> simp only[m0] at aU<;> try exact absurd aU.symm br
 rename_i a off len cap sz;cases a with
 |g d i=>exact absurd aU.symm br
 |l i=>
  simp only[ae.ap,Loc.ap] at a5;obtain⟨lU,e,cP,bL,ub,vj⟩:=a5.jW;have K:s.own[i]? =s.get (.g s.aa i):=by simp [ag.get]
  simp only at aU;rw[K] at aU;cases cb:s.get (.g s.aa i) with
  |none=>rw[cb] at aU;exact absurd aU.symm br
  |some M=>
   rw[cb] at aU;cases M<;> try exact absurd aU.symm br
   rename_i cs;simp only[bs,aX.not] at aU;obtain⟨u,N⟩:=c2 aU br;simp only[bl,Bool.not_eq_true'] at u;have g8:sz≠0:=fun eS=>by rw[eS] at u;simp at u
   have hle:=dW u.1.2;obtain⟨C,el,jG,Y,B,lz,H⟩:=a7.u1 (s':={s with own:=s.own.set i .gone}) cb (by simp [ag.set]);refine⟨_,_,N,ρ x,_,_,.inl J,H,lz,?_⟩;rw[e];simp only[ae.ap];have O:(if len=cap then eZ.exact else eZ.any).ap s.aa=(if len=cap then eZ.exact else eZ.any):=by split<;> rfl
   rw[O];obtain⟨I,U⟩:=kz sz g8 len (cs.drop off) (by simp;omega);have bN:cs.length≤C.size:=by have:=B.1;simp at this;omega
   have sR:len=cap→lU=cap:=fun h=>by rcases vj with ar|⟨ar,av,_⟩<;> omega
   have key:dC (κ.freeze (κ.loc s.aa i) 0 C) (s.aa+1) (.bW sz (chunk sz len (cs.drop off)) (if len=cap then eZ.exact else eZ.any)) (.slice (some ⟨κ.loc s.aa i,off,none⟩) (chunk sz len (cs.drop off)).length lU):=by
    refine .bW sz _ _ _ _ (fun j=>C.getD (off+j) undef) ?_ (by rw[fs];exact ub) (fun _=>rfl) U (.inl fun e he=>ef.1 u.1.1 e he) (fun j cX=>?_) (fun j c aY=>?_)
    ·by_cases h:len=cap
     ·simp [h,iF,fs,sR h]
     ·simp [h,iF]
    ·rw[I] at cX;simp at cX;have A:off+j<C.size:=by omega
     rw[f6 rfl];show(κ.freeze (κ.loc s.aa i) 0 C).F ⟨κ.loc s.aa i,off+j,none⟩=_;rw[n9 (Nat.zero_le _) A];simp [Array.getD,A]
    ·rw[I,List.getElem?_take] at aY;split at aY
     ·rw[List.getElem?_drop] at aY;obtain⟨y,eM,bM⟩:=B.get aY;have A:off+j<cs.length:=(ec.1 aY).1
      have:C.getD (off+j) undef=y:=by
       rw[List.getElem?_take,if_pos A] at eM;have V:C[off+j]? =some y:=by simpa using eM
       simp [Array.getD_eq_getD_getElem?,V]
      rw[this];exact bM.mono H.k
     ·cases aY
   rw[fs] at key;exact key
theorem rf{E:Env}(bs:E.F=.not){k:ae→ag→ah}{r:ah}(br:r≠.fail){src dst el:TypeId}{x:Operand}{v:ae}(A:P.underlying src=some .string)(B:P.underlying dst=some (.slice el))(iH:P.underlying el=some (.int .u8))
  (a5:dC κ (s.aa+1) (v.ap s.aa) (ρ x))(aU:ho E s k v=r):∃fL,k fL s=r∧dN P (.convert src dst x) ty ρ κ s w fL s:=by
 cases v<;> simp only[ae.ap] at a5<;> simp only[ho,bs,aX.not] at aU<;> try exact absurd aU.symm br
 rename_i e8;refine⟨_,aU,?_⟩;obtain⟨a,ex,u⟩:=a5.ia;have e3:a.size=e8.length:=by have:=congrArg List.length u;rw[ep,Array.length_toList] at this;exact this
 let cap:=grownCap w a.size 0 el
 let C:Array Value:=bytesRow a cap
 have oM:a.size≤cap:=by simp only[cap,grownCap,Question.cut];omega
 have J:C.size=cap:=by
  simp only[C,bytesRow,Array.size_append,Array.size_map,Array.size_replicate]
  have:a.data.size=a.size:=rfl;omega
 have e:=run_bytes_of_string (P:=P) w src dst el a A B iH;obtain⟨hj,g2⟩:=a7.q4 (w':=w.drew.alloc (.cells C el (C.size,C.size+1))) C el (C.size,C.size+1) rfl rfl rfl rfl;refine⟨.slice (some ⟨w.heap.size,0,none⟩) a.size cap,_,_,.inl (fun _ _ _ _=>?_),g2,hj,?_⟩
 ·simp only[execOp,ex];simp [e,C,cap]
 ·simp only[ae.ap,eZ.ap];have y:(e8.map fun b=>ae.int .u8 (b:Nat)).flatMap ae.cells=e8.map fun b=>ae.int .u8 (b:Nat):=by
   clear aU e3 u a5
   induction e8 with
   |nil=>rfl
   |cons x l H=>simp [List.flatMap_cons,H,ae.cells]
  have xJ:(e8.map fun b=>ae.int .u8 (b:Nat)).length=a.size:=by rw[ep,e3]
  rw[←xJ];refine .bW 1 _ .any _ _ (fun j=>C.getD j undef) trivial (by rw[xJ];exact oM) (fun _=>rfl) (fun e he=>?_) (.inl fun e he=>?_) (fun j cX=>?_) (fun j c aY=>?_)
  ·obtain⟨b,_,rfl⟩:=List.mem_map.1 he;rfl
  ·obtain⟨b,_,rfl⟩:=List.mem_map.1 he;rfl
  ·rw[y,xJ] at cX;rw[f6 rfl];simp only[bf];rw[n9 (Nat.zero_le _) (by omega)];simp [Array.getD,show j<C.size by omega]
  ·rw[y,g6] at aY;cases h:e8[j]? with
   |none=>rw[h] at aY;cases aY
   |some b=>
    rw[h] at aY;simp only[ej,bm] at aY;subst aY;rw[←u,g6] at h;cases fE:a.data.toList[j]? with
    |none=>rw[fE] at h;cases h
    |some q=>
     rw[fE] at h;simp only[ej,bm] at h;have cX:j<a.data.size:=by have:=(ec.1 fE).1;simpa using this
     have:C[j]? =some (.int .u8 q.toNat):=by
      have I:a.data[j]? =some q:=by simpa using fE
      show(a.data.map (fun b=>Value.int .u8 b.toNat)++Array.replicate (cap-a.size) (.int .u8 0))[j]? =_;rw[Array.getElem?_append_left (by rw[Array.size_map];exact cX),Array.getElem?_map,I];rfl
     simp only[Array.getD_eq_getD_getElem?,this,Option.getD_some,h];exact .int _ _
end
theorem qd:∀(es:List ae) (e8:List Nat),h4 es=some e8→∃hv:List Int,es=hv.map (ae.int .u8)∧e8=hv.map Int.toNat∧∀n,n∈hv→n.toNat<256
 |[],e8,h=>by simp only[h4,bm] at h;subst h;exact⟨[],rfl,rfl,fun _ dm=>by cases dm⟩
 |e::es,e8,h=>by
  unfold h4 at h;split at h
  ·rename_i r;simp at r
  ·rename_i n A r;simp only[List.cons.injEq] at r;obtain⟨rfl,rfl⟩:=r;split at h
   ·rename_i y;cases u:h4 es with
    |none=>rw[u] at h;cases h
    |some l=>
     rw[u] at h;simp only[ej,bm] at h;subst h;obtain⟨hv,ar,av,bV⟩:=qd es l u;exact⟨n::hv,by rw[ar];rfl,by rw[av];rfl,fun m hm=>by
      rcases List.mem_cons.1 hm with rfl |hm
      ·exact y
      ·exact bV m hm⟩
   ·cases h
  ·cases h
theorem foldl_push:∀(hv:List Int) (s:ByteArray),(hv.foldl (fun r n=>r.push (UInt8.ofNat n.toNat)) s).data.toList=s.data.toList++hv.map fun n=>UInt8.ofNat n.toNat
 |[],s=>by simp
 |n::hv,s=>by simp only[List.foldl_cons];rw[foldl_push hv];simp [ByteArray.push]
section
variable{P:Program}{ty:TypeId}{ρ:Operand→Value}{κ:bj}{s:ag}{w:World}(a7:c5 κ s w)
include a7
theorem rh{E:Env}(bs:E.F=.not){k:ae→ag→ah}{r:ah}(br:r≠.fail){src dst el:TypeId}{x:Operand}{v:ae}(y:P.underlying src=some (.slice el))(iH:P.underlying el=some (.int .u8))(B:P.underlying dst=some .string)
  (a5:dC κ (s.aa+1) (v.ap s.aa) (ρ x))(aU:gF E s k v=r):∃fL,k fL s=r∧dN P (.convert src dst x) ty ρ κ s w fL s:=by
 have eR:∀e8,v≠.str e8:=fun e8 h=>by subst h;exact absurd aU.symm br
 have io:(match dv s v with
  |some (_,es)=>qV E s k ((h4 es).map .str)
  |none=>.fail)=r:=by
  unfold gF at aU;split at aU
  ·exact absurd aU.symm br
  ·exact aU
 cases e:dv s v with
 |none=>rw[e] at io;exact absurd io.symm br
 |some p=>
  obtain⟨z,es⟩:=p;rw[e] at io;simp only at io;cases u:h4 es with
  |none=>rw[u] at io;exact absurd io.symm br
  |some e8=>
   rw[u] at io;simp only[ej,qV,bs,aX.not] at io;refine⟨_,io,?_⟩;obtain⟨hv,ar,av,bV⟩:=qd es e8 u;obtain⟨M,_,_⟩:=kA a7 a5 e;rcases M with⟨N,a,rfl,_⟩|⟨A,c,kL,H,I⟩
   ·exact absurd rfl (eR N)
   have J:es.flatMap ae.cells=hv.map (ae.int .u8):=by
    rw[ar];clear ar av bV u e I H kL
    induction hv with
    |nil=>rfl
    |cons n hv O=>simp [List.flatMap_cons,O,ae.cells]
   have hlen:es.length=hv.length:=by rw[ar,ep]
   have K:(hv.map fun n=>UInt8.ofNat n.toNat).map UInt8.toNat=e8:=by rw[av,List.map_map];refine List.map_congr_left (fun n dm=>?_);simp only[Function.comp,UInt8.toNat_ofNat'];exact hA (bV n dm)
   cases A with
   |none=>
    have:es=[]:=H rfl;have U:hv=[]:=jE (by rw[←hlen,this];rfl);subst U;refine bG a7 (.string .empty) (fun _ _ _ _=>?_) ?_
    ·simp only[execOp,kL];have dH:=run_convert_bytes_string (P:=P) w src dst el none es.length c y iH B;have V:(Conv.bytesToString (.slice none es.length c)).run P w=.ok (.string .empty) w:=by simp [Conv.bytesToString]
     rw[V] at dH;simp [dH]
    ·exact .str _ _ (by rw[←K];rfl)
   |some a=>
    obtain⟨dt,pY,q6⟩:=I a rfl;have Y:∀j v,(hv.map (Value.int .u8))[j]? =some v→w.cell? (a.add j)=some v:=fun j v cX=>by
     rw[g6] at cX;cases fE:hv[j]? with
     |none=>rw[fE] at cX;cases cX
     |some n=>
      rw[fE] at cX;simp only[ej,bm] at cX;have u2:=(ec.1 fE).1;rw[pY j (by rw[J,ep];exact u2)]
      have:=q6 j (.int .u8 n) (by rw[J,g6,fE];rfl);rw[this.eD,←cX]
    have bN:=run_loadCells_list (P:=P) w a (hv.map (Value.int .u8)) Y;rw[ep,←hlen] at bN;refine bG a7 _ (fun _ _ _ _=>?_) (.str _ (hv.foldl (fun r n=>r.push (UInt8.ofNat n.toNat)) ByteArray.empty) ?_)
    ·simp only[execOp,kL];have dH:=run_convert_bytes_string (P:=P) w src dst el (some a) es.length c y iH B;rw[run_bytesToString w a es.length c hv bN] at dH;simp [dH]
    ·rw[foldl_push];rw[List.map_append,K];rfl
end
def kM:xr→TypeDesc→Bool
 |.int k,.int lN=>decide (k=lN)
 |.str,.string=>true
 |.bool,.bool=>true
 |_,_=>false
theorem dC.Bf{κ:bj}{D:Nat}{v:ae}{x:Value}(h:dC κ D v x){d:Nat}:v.ap d=v:=by
 cases h<;> try rfl
 rename_i sz es g a cap dt cb ar av bV dD e r;cases g<;> try rfl
 rename_i l;cases l with
 |l i=>exact absurd cb (by simp [iF])
 |g d i=>rfl
theorem Hy{κ:bj}{D:Nat}{kJ:xr}{d:TypeDesc}{x:ae}{X:Value}(cP:kM kJ d=true)(cZ:isKey kJ x=true)(a5:dC κ D x X):MapKept.IsKey d X:=by
 cases kJ<;> cases d<;> simp [kM] at cP<;> cases x<;> simp [isKey] at cZ
 ·subst cP;subst cZ;rw[a5.eD];rfl
 ·obtain⟨s,rfl,_⟩:=a5.ia;trivial
 ·rw[a5.gY];trivial
theorem vl{κ:bj}{D:Nat}{kJ:xr}{d:TypeDesc}{x y:ae}{X Y:Value}{b:Bool}(cP:kM kJ d=true)(cZ:isKey kJ x=true)(a5:dC κ D x X)(eM:dC κ D y Y)(h:sG x y=some b):Instr.sameNow d X Y=some b∧(b=true→X=Y):=by
 unfold sG at h;split at h
 ·rename_i k a lN fY;split at h
  ·rename_i u;subst u;simp only[bm] at h;rw[a5.eD,eM.eD];cases kJ<;> simp [isKey] at cZ;cases d<;> simp [kM] at cP;refine⟨by simp [Instr.sameNow,←h],fun r=>?_⟩;subst r;simp at h;rw[h]
  ·cases h
 ·rename_i a fY;simp only[bm] at h;obtain⟨s,rfl,a7⟩:=a5.ia;obtain⟨s',rfl,A⟩:=eM.ia;cases kJ<;> simp [isKey] at cZ;cases d<;> simp [kM] at cP;have key:s=s'↔a=fY:=by
   rw[←a7,←A];constructor
   ·rintro rfl;rfl
   ·intro e
    have:=(List.map_inj_right (f:=UInt8.toNat) (fun a b h=>UInt8.toNat_inj.1 h)).1 e;cases s;cases s';simp at this;rw[this]
  refine⟨?_,fun r=>?_⟩
  ·simp only[Instr.sameNow,bm];rw[←h,Bool.eq_iff_iff,MapKept.bytes_beq,key];simp
  ·subst r;simp at h;rw[key.2 h]
 ·simp only[bm] at h;rw[a5.gY,eM.gY];cases kJ<;> simp [isKey] at cZ;cases d<;> simp [kM] at cP;refine⟨by simp [Instr.sameNow,←h],fun r=>?_⟩;subst r;simp at h;rw[h]
 ·cases h
theorem mv.us{κ:bj}{D:Nat}{p:ae×ae}{es:List (ae×ae)}{l:List MapEntry}(h:mv κ D (p::es) l):∃e l',l=e::l'∧dC κ D p.1 e.key∧dC κ D p.2 e.val∧mv κ D es l':=by
 cases l with
 |nil=>exact absurd h.1 (by simp)
 |cons e l'=>refine⟨e,l',rfl,(h.2 0 p e rfl rfl).1,(h.2 0 p e rfl rfl).2,by have:=h.1;simpa using this,fun j q f fE br=>h.2 (j+1) q f (by simpa using fE) (by simpa using br)⟩
theorem o9{κ:bj}{D:Nat}{kJ:xr}{d:TypeDesc}{x:ae}{X:Value}(cP:kM kJ d=true)(cZ:isKey kJ x=true)(a5:dC κ D x X):∀(es:List (ae×ae)) (l:List MapEntry) (i:Nat) (r:Option ae),mv κ D es l→findKey x es=some r→
  (r=none∧Instr.findNow d X l i=some none)∨∃v j e,r=some v∧Instr.findNow d X l i=some (some (i+j,e.val))∧l[j]? =some e∧e.key=X∧dC κ D v e.val
 |[],l,i,r,hm,h=>by have:l=[]:=jE hm.1;subst this;simp only[findKey,bm] at h;exact .inl ⟨h.symm,rfl⟩
 |(y,v)::es,l,i,r,hm,h=>by
  obtain⟨e,l',rfl,eM,bM,B⟩:=hm.us;simp only[findKey] at h;cases u:sG x y with
  |none=>rw[u] at h;cases h
  |some b=>
   rw[u] at h;obtain⟨ar,av⟩:=vl cP cZ a5 eM u;cases b with
   |true=>simp only[bm] at h;exact .inr ⟨v,0,e,h.symm,by simp [Instr.findNow,ar],rfl,(av rfl).symm,bM⟩
   |false=>
    simp only at h;rcases o9 cP cZ a5 es l' (i+1) r B h with⟨dH,A⟩|⟨fL,j,hX,dH,A,F,H,I⟩
    ·exact .inl ⟨dH,by simp [Instr.findNow,ar,A]⟩
    ·refine .inr ⟨fL,j+1,hX,dH,?_,by simpa using F,H,I⟩;simp [Instr.findNow,ar,A];omega
theorem qe{κ:bj}{D:Nat}{kJ:xr}{d:TypeDesc}{x v:ae}{X V:Value}(cP:kM kJ d=true)(cZ:isKey kJ x=true)(a5:dC κ D x X)(bM:dC κ D v V):∀(es:List (ae×ae)) (l:List MapEntry) (i:Nat) (r:List (ae×ae)),mv κ D es l→putKey x v es=some r→
  (Instr.findNow d X l i=some none∧∀clock,mv κ D r (l++[{key:=X,val:=V,born:=clock}]))∨∃j e,Instr.findNow d X l i=some (some (i+j,e.val))∧l[j]? =some e∧e.key=X∧mv κ D r (l.set j {e with key:=X,val:=V})
 |[],l,i,r,hm,h=>by
  have:l=[]:=jE hm.1;subst this;simp only[putKey,bm] at h;subst h;refine .inl ⟨rfl,fun clock=>⟨rfl,fun j p e fz he=>?_⟩⟩;cases j with
  |zero=>simp at fz he;subst fz;subst he;exact⟨a5,bM⟩
  |succ j=>simp at fz
 |(y,u)::es,l,i,r,hm,h=>by
  obtain⟨e,l',rfl,eM,hu,H⟩:=hm.us;simp only[putKey] at h;cases A:sG x y with
  |none=>rw[A] at h;cases h
  |some b=>
   rw[A] at h;obtain⟨ar,av⟩:=vl cP cZ a5 eM A;cases b with
   |true=>
    simp only[bm] at h;subst h;refine .inr ⟨0,e,by simp [Instr.findNow,ar],rfl,(av rfl).symm,by have:=hm.1;simpa using this,fun j p q fz fE=>?_⟩;cases j with
    |zero=>simp at fz fE;subst fz;subst fE;exact⟨by rw[av rfl];exact eM,bM⟩
    |succ j=>exact H.2 j p q (by simpa using fz) (by simpa using fE)
   |false=>
    simp only at h;cases fz:putKey x v es with
    |none=>rw[fz] at h;cases h
    |some B=>
     rw[fz] at h;simp only[ej,bm] at h;subst h;have cons:∀{I},mv κ D B I→mv κ D ((y,u)::B) (e::I):=fun J=>by
      refine⟨by simp [J.1],fun j p q fz fE=>?_⟩;cases j with
      |zero=>simp at fz fE;subst fz;subst fE;exact⟨eM,hu⟩
      |succ j=>exact J.2 j p q (by simpa using fz) (by simpa using fE)
     rcases qe cP cZ a5 bM es l' (i+1) B H fz with⟨dH,F⟩|⟨j,hX,dH,F,K,M⟩
     ·exact .inl ⟨by simp [Instr.findNow,ar,dH],fun clock=>by simpa using cons (F clock)⟩
     ·refine .inr ⟨j+1,hX,?_,by simpa using F,K,by simpa using cons M⟩;simp [Instr.findNow,ar,dH];omega
section
variable{P:Program}{ty:TypeId}{ρ:Operand→Value}{κ:bj}{s:ag}{w:World}(a7:c5 κ s w)
include a7
theorem vm{E:Env}(bs:E.F=.not){k:ae→ag→ah}{r:ah}(br:r≠.fail){t:TypeId}{b:Option Loc}(aU:l8 E s k b=r):∃fL s',k fL s'=r∧dN P (.makeMap t none) ty ρ κ s w fL s':=by
 unfold l8 at aU;cases b with
 |none=>exact absurd aU.symm br
 |some b=>
  simp only at aU;cases e:s.hn b (.map []) with
  |none=>rw[e] at aU;exact absurd aU.symm br
  |some p=>
   obtain⟨l,s'⟩:=p;rw[e] at aU;simp only[bs,aX.not] at aU;obtain⟨u,y,bN,h⟩:=iu.by e
   obtain⟨κ',hj,g2,A,ns⟩:=a7.Sn (w':=w.alloc (.map #[] 0)) h rfl rfl rfl rfl;refine⟨_,_,aU,.map (some w.heap.size),κ',w.alloc (.map #[] 0),.inl (fun dst pos after guard=>?_),g2,hj,?_⟩
   ·simp [execOp,Instr.makeMap,Result.andThen]
   ·simp only[ae.ap,bN];rw[←A];exact .map u y (Nat.lt_succ_of_le h.le) ns
theorem xK{E:Env}(bs:E.F=.not){k:ae→ag→ah}{r:ah}(br:r≠.fail){o:Op}{t J Z:TypeId}{d:TypeDesc}{kJ:xr}(ed:P.underlying t=some (.map J Z))(u:P.underlying J=some d)(cP:kM kJ d=true){m x v:ae}{M X V:Value}
  (hm:dC κ (s.aa+1) (m.ap s.aa) M)(a5:dC κ (s.aa+1) x X)(bM:dC κ (s.aa+1) v V)(K:∀dst pos after guard,execOp ρ ⟨dst,o,ty,pos,after,guard⟩=(do Instr.mapUpdate t M X V;pure .skip:Sem Next))(aU:ll E s k kJ m x v=r):
  ∃fL s',k fL s'=r∧dN P o ty ρ κ s w fL s':=by
 cases m<;> simp only[ll] at aU<;> try exact absurd aU.symm br
 rename_i a;simp only[ae.ap] at hm;rw[←ag.hO] at aU;cases y:a.ap s.aa with
 |l i=>cases a<;> simp [Loc.ap] at y
 |g e i=>
  rw[y] at aU hm;have ab:M=.map (some (κ.loc e i))∧e<s.aa+1∧i<κ.n e:=by cases hm;exact⟨rfl,by assumption,by assumption⟩
  obtain⟨rfl,he,bL⟩:=ab;cases cb:s.get (.g e i) with
  |none=>rw[cb] at aU;exact absurd aU.symm br
  |some ac=>
   rw[cb] at aU;cases ac<;> try exact absurd aU.symm br
   rename_i es;simp only[bs,aX.not] at aU;obtain⟨A,h⟩:=c2 aU br;simp only[bl] at A;cases fz:putKey x v es with
   |none=>rw[fz] at h;exact absurd h.symm br
   |some N=>
    rw[fz] at h;simp only at h;rw[←ag.ln,y] at h;cases B:s.set (.g e i) (.map N) with
    |none=>rw[B] at h;exact absurd h.symm br
    |some s'=>
     rw[B] at h;obtain⟨fm,clock,ar,av⟩:=a7.obj e i _ cb;have O:=m3 y (eu.cons a5 (eu.cons bM (eu.nil _ _))) A.2;have U:=O.2 0 x X rfl rfl;have ad:=O.2 1 v V rfl rfl;have I:=Hy cP A.1.1 U;rcases qe cP A.1.1 U ad es fm.toList 0 N av fz with⟨dH,H⟩|⟨j,Y,dH,H,af,ai⟩
     ·obtain⟨hj,g2⟩:=a7.Hv (fm:=fm.push {key:=X,val:=V,born:=clock}) (clock:=clock+1) cb B (by simpa using H clock);refine⟨_,_,h,undef,κ,_,.inr ⟨fun dst pos after guard=>?_,rfl⟩,g2,hj,.dead _⟩;rw[K];simp [Instr.mapUpdate,run_underlying ed,MapKept.run_getObj_map ar,MapKept.run_checkKey u I,MapKept.run_findKey u dH,MapKept.run_setObj_map _ ar,Result.andThen]
     ·have cX:fm[j]? =some Y:=by simpa using H
      obtain⟨hj,g2⟩:=a7.Hv (fm:=fm.modify j fun e=>{e with key:=X,val:=V}) (clock:=clock) cb B (by
       have:(fm.modify j fun e=>{e with key:=X,val:=V}).toList=fm.toList.set j {Y with key:=X,val:=V}:=by
        apply List.ext_getElem?;intro q;simp only[Array.getElem?_toList,Array.getElem?_modify,List.getElem?_set];by_cases fE:j=q
        ·subst fE;have aj:j<fm.toList.length:=(ec.1 H).1;rw[if_pos rfl,if_pos rfl,if_pos aj,cX];rfl
        ·simp [fE]
       rw[this];exact ai)
      refine⟨_,_,h,undef,κ,_,.inr ⟨fun dst pos after guard=>?_,rfl⟩,g2,hj,.dead _⟩;rw[K];simp only[bf] at dH;have ak:(fm[j]?.map MapEntry.key).getD X=X:=by rw[cX];exact af
      simp [Instr.mapUpdate,run_underlying ed,MapKept.run_getObj_map ar,MapKept.run_checkKey u I,MapKept.run_findKey u dH,MapKept.run_setObj_map _ ar,ak,MapKept.run_keyThatStays I,Result.andThen]
theorem xL{E:Env}(bs:E.F=.not){k:ae→ag→ah}{r:ah}(br:r≠.fail){t ac J:TypeId}{x y:Operand}{d:TypeDesc}{kJ:xr}{ok:Bool}{zero:ae}{i:TypeInfo}{Z:Value}(ed:P.underlying t=some (.map ac J))(H:P.underlying ac=some d)(cP:kM kJ d=true)
  (bL:P.info? J=some i)(aj:i.zero=some Z)(g8:hp zero Z=true){m u:ae}
  (hm:dC κ (s.aa+1) (m.ap s.aa) (ρ x))(a5:dC κ (s.aa+1) u (ρ y))(aU:lm E s k kJ zero ok m u=r):∃fL,k fL s=r∧dN P (.lookup t x y ok) ty ρ κ s w fL s:=by
 unfold lm at aU;obtain⟨ad,h⟩:=c2 aU br;clear aU;have K:=Hy cP ad a5;have af:(zeroValue J).run P w=.ok Z w:=by simp [zeroValue,typeInfo,bL,aj]
 cases A:entriesOf s m with
 |none=>rw[A] at h;exact absurd h.symm br
 |some es=>
  rw[A] at h;simp only[bs,aX.not] at h;have ak:∃l:Array MapEntry,mv κ (s.aa+1) es l.toList∧((ρ x=.map none∧l= #[])∨∃q clock,ρ x=.map (some q)∧w.heap[q]? =some (.map l clock)):=by
   cases m<;> simp only[entriesOf] at A<;> try cases A
   ·rename_i a;simp only[ae.ap] at hm;rw[←ag.hO] at A;cases B:a.ap s.aa with
    |l j=>cases a<;> simp [Loc.ap] at B
    |g e j=>
     rw[B] at A hm;have I:ρ x=.map (some (κ.loc e j))∧e<s.aa+1:=by generalize ρ x=q at hm;cases hm;exact⟨rfl,by assumption⟩
     cases cb:s.get (.g e j) with
     |none=>rw[cb] at A;cases A
     |some al=>
      rw[cb] at A;cases al<;> simp only[bm] at A<;> try cases A
      obtain⟨fm,clock,ar,av⟩:=a7.obj e j _ cb;refine⟨fm,⟨av.1,fun q p M fz ai=>⟨((av.2 q p M fz ai).1).up (by have:=I.2;omega),((av.2 q p M fz ai).2).up (by have:=I.2;omega)⟩⟩,?_⟩;exact .inr ⟨_,clock,I.1,ar⟩
   ·have I:ρ x=.map none:=by
     simp only[ae.ap] at hm;generalize ρ x=q at hm;cases hm;rfl
    exact⟨#[],⟨rfl,fun q p M fz=>by simp at fz⟩,.inl ⟨I,rfl⟩⟩
  obtain⟨l,bN,am⟩:=ak;have hex:∀(a:Option (Nat×Value)) (V:Value),Instr.findNow d (ρ y) l.toList 0=some a→V=(match a with |some (_,v)=>v|none=>Z)→∀dst pos after guard,(execOp ρ ⟨dst,.lookup t x y ok,ty,pos,after,guard⟩).run P w=.ok (.value (if ok then .tuple #[V,.bool a.isSome] else V)) w:=by
   intro a V B N dst pos after guard;have dH:(Instr.lookup t (ρ x) (ρ y) ok).run P w=.ok (if ok then .tuple #[V,.bool a.isSome] else V) w:=by
    rcases am with⟨e,rfl⟩|⟨q,clock,e,ar⟩
    ·cases a with
     |none=>simp [Instr.lookup,run_underlying ed,e,MapKept.run_checkKey H K,MapKept.run_findKey H B,af,N,Result.andThen]
     |some p=>simp [Instr.findNow] at B
    ·cases a with
     |none=>simp [Instr.lookup,run_underlying ed,e,MapKept.run_getObj_map ar,MapKept.run_checkKey H K,MapKept.run_findKey H B,af,N,Result.andThen]
     |some p=>simp [Instr.lookup,run_underlying ed,e,MapKept.run_getObj_map ar,MapKept.run_checkKey H K,MapKept.run_findKey H B,N,Result.andThen]
   simp only[execOp,Sem.run_bind,dH,Result.andThen];rfl
  cases O:findKey u es with
  |none=>rw[O] at h;exact absurd h.symm br
  |some an=>
   rw[O] at h;obtain⟨U,ao⟩:=oa zero Z g8;rcases o9 cP ad a5 es l.toList 0 an bN O with⟨rfl,Y⟩|⟨v,j,e,rfl,Y,aq,au,ab⟩
   ·simp only at h;refine⟨_,h,bG a7 _ (hex none Z Y rfl) ?_⟩;cases ok with
    |true=>have:eu κ (s.aa+1) [zero,.bool false] [Z,.bool false]:=.cons (U _ _) (.cons (.bool _) (.nil _ _));exact .d0 _ _ this.1 this.2
    |false=>simp only[cond_false,b4,↓reduceIte];rw[(U κ (s.aa+1)).Bf];exact U _ _
   ·simp only at h;refine⟨_,h,bG a7 _ (hex _ e.val Y rfl) ?_⟩;cases ok with
    |true=>have:eu κ (s.aa+1) [v,.bool true] [e.val,.bool true]:=.cons ab (.cons (.bool _) (.nil _ _));exact .d0 _ _ this.1 this.2
    |false=>simp only[cond_false,b4,↓reduceIte];rw[ab.Bf];exact ab
end
abbrev xM(ro:Option Nat):Fence:={Fence.wide with round:=ro}
structure hx (l:Nat) (κ:bj) (s:ag) (w:World) (κ':bj) (s':ag) (w':World):Prop where
 k:gV κ κ' (s.aa+1)
 aa:s'.aa=s.aa
 size:w.heap.size≤w'.heap.size
 os:w'.os=w.os
 tape:w'.tape=w.tape
 output:w'.output=w.output
 kS:∀b,b<w.heap.size→b≠l→¬Live κ s b→w'.heap[b]? =w.heap[b]?
 live:∀b,b<w.heap.size→Live κ' s' b→Live κ s b
 o4:∀a,κ'.F a≠none→κ.F a≠none∨w.heap.size≤a.block∨Live κ s a.block
theorem fx.x{l:Nat}{κ κ':bj}{s s':ag}{w w':World}(h:fx κ s w κ' s' w'):hx l κ s w κ' s' w':=⟨h.k,h.aa,h.size,h.os,h.tape,h.output,fun b e _=>h.kS b e,h.live,h.o4⟩
theorem hx.trans{l:Nat}{κ r u:bj}{s y A:ag}{w B F:World}(h:hx l κ s w r y B)(k:hx l r y B u A F):hx l κ s w u A F:=by
 refine⟨h.k.trans (h.aa ▸ k.k),k.aa.trans h.aa,Nat.le_trans h.size k.size,k.os.trans h.os,k.tape.trans h.tape,k.output.trans h.output,fun b e dm bN=>?_,fun b e bN=>?_,fun a H=>?_⟩
 ·rw[k.kS b (gd e h.size) dm (fun I=>bN (h.live b e I)),h.kS b e dm bN]
 ·exact h.live b e (k.live b (gd e h.size) bN)
 ·rcases k.o4 a H with ar|ar|ar
  ·exact h.o4 a ar
  ·exact .inr (.inl (Nat.le_trans h.size ar))
  ·by_cases e:a.block<w.heap.size
   ·exact .inr (.inr (h.live _ e ar))
   ·exact .inr (.inl (by omega))
def Bg(P:Program)(f j:Nat):Prop:=
 (∃fn,P.funcs[f]? =some fn∧fn.body.isSome=true∧(fn.name== "runtime.NumGoroutine")=false)∧
 ∀(dI xs:List ae) (κ:bj) (s:ag) (w:World) (dt:List Value) (l:Nat),pO s j dI=some xs→c5 κ s w→eu κ (s.aa+1) dI dt→l<w.heap.size→¬Live κ s l→(∀o,w.heap[l]? =some o→o.isCells=false)→
  ∀(J:Nat→ag→Prop) (y:ag→Option Obj→Prop),J 0 s→
  (∀(i:Nat) (x:ae) (A:Value) (κ':bj) (s':ag) (w':World),xs[i]? =some x→fx κ s w κ' s' w'→c5 κ' s' w'→J i s'→dI.all (ff s s')=true→dC κ' (s'.aa+1) x A→
   YieldAt Fence.wide 0 P l #[A] w' fun e r=>
    (e=.returned (.bool true)∧∃u h,fx κ' s' w' u h r∧c5 u h r∧J (i+1) h∧dI.all (ff s h)=true)∨
    (e=.returned (.bool false)∧∃u h,hx l κ' s' w' u h r∧c5 u h r∧y h r.heap[l]?))→
  CallsIn Fence.wide 0 P f (#[.func (.yield l) #[] #[]]++dt.toArray) w fun e w'=>(∃v,e=.returned v)∧
   ((∃κ' s',fx κ s w κ' s' w'∧c5 κ' s' w'∧J xs.length s')∨∃κ' s',hx l κ s w κ' s' w'∧c5 κ' s' w'∧y s' w'.heap[l]?)
structure kN where
 d8:Nat→Option TypeDesc
 info:Nat→Option (Nat×Nat×Value)
 Zu:Nat→List ae
 eqs:Nat→Bool
 Ex:Nat→Nat→Bool:=fun _ _=>false
structure kN.pQ (T:kN) (P:Program):Prop where
 d8:∀t d,T.d8 t=some d→P.underlying t=some d
 info:∀t n b z,T.info t=some (n,b,z)→∃i,P.info? t=some i∧i.size=n∧i.bytes=b∧i.zero=some z
 eqs:∀t,T.eqs t=true→P.stoodInHeld t=false∧P.eqGuardType P.depth t=false
 Ex:∀f j,T.Ex f j=true→Bg P f j
def jk(T:kN):Nat→List xr→List Field→Bool
 |_,[],[]=>true
 |j,k::iq,f::jJ=>Nat.beq f.offset j&&decide (f.name≠ "_")&&(match T.d8 f.type with
   |some d=>kM k d
   |none=>false)&&jk T (j+1) iq jJ
 |_,_,_=>false
def Za(T:kN)(e:Sl)(t:Nat)(d:TypeDesc):Bool:=
 match e,d with
 |.agg iq,.struct jJ=>T.eqs t&&jk T 0 iq jJ.toList
 |.agg [.int _,.int _],.array 2 e=>T.eqs t&&(match T.d8 e with
   |some (.int _)=>true
   |_=>false)&&(T.info e).map (·.1)==some 1
 |_,_=>false
def kN.size(T:kN)(t:Nat):Option Nat:=(T.info t).map (·.1)
def kN.bytes(T:kN)(t:Nat):Option Nat:=(T.info t).map (·.2.1)
def kN.zero(T:kN)(t:Nat)(z:List ae):Bool:=
 match T.info t with
 |some (_,_,v)=>m1 z v.cells.toList
 |none=>false
def kN.load(T:kN)(t:Nat)(n:Option Nat):Bool:=
 match T.d8 t with
 |some d=>match n with
  |none=>AX d==false
  |some n=>AX d==true&&T.size t==some n
 |none=>false
section
variable{P:Program}{T:kN}(eN:T.pQ P)
include eN
theorem kN.pQ.size{t n:Nat}(h:T.size t=some n):fg P t=some n:=by
 unfold kN.size at h;cases bL:T.info t with
 |none=>rw[bL] at h;cases h
 |some p=>obtain⟨e,b,z⟩:=p;rw[bL] at h;simp only[ej,bm] at h;obtain⟨i,ar,av,_⟩:=eN.info _ _ _ _ bL;simp [fg,ar,av,h]
theorem kN.pQ.bytes{t n:Nat}(h:T.bytes t=some n):(P.info? t).map (·.bytes)=some n:=by
 unfold kN.bytes at h;cases bL:T.info t with
 |none=>rw[bL] at h;cases h
 |some p=>obtain⟨e,b,z⟩:=p;rw[bL] at h;simp only[ej,bm] at h;obtain⟨i,ar,_,av,_⟩:=eN.info _ _ _ _ bL;simp [ar,av,h]
theorem kN.pQ.zero{t:Nat}{z:List ae}(h:T.zero t z=true):j5 P t z=true:=by
 unfold kN.zero at h;cases bL:T.info t with
 |none=>rw[bL] at h;cases h
 |some p=>obtain⟨e,b,v⟩:=p;rw[bL] at h;obtain⟨i,ar,_,_,av⟩:=eN.info _ _ _ _ bL;simp only[j5,ar,fF,av];exact h
theorem kN.pQ.load{t:Nat}{n:Option Nat}(h:T.load t n=true):j4 P t n=true:=by
 unfold kN.load at h;cases cP:T.d8 t with
 |none=>rw[cP] at h;cases h
 |some d=>
  rw[cP] at h
  have:=eN.d8 _ _ cP;cases n with
  |none=>simp only at h;simp [j4,kU,this];simpa using h
  |some n=>simp only[bl] at h;have av:=eN.size (by simpa using h.2:T.size t=some n);simp [j4,kU,this,av];simpa using h.1
end
def kg:Nat→List bF→List (Nat×Operand)→Bool
 |_,[],[]=>true
 |i,x::xs,(j,y)::e=>Nat.beq i j&&cH x y&&kg (i+1) xs e
 |_,_,_=>false
theorem j6:∀(i:Nat) (xs:List bF) (e:List (Nat×Operand)),kg i xs e=true→∃r:List Operand,e=(r.zipIdx i).map (fun p=>(p.2,p.1))∧dz xs r=true
 |_,[],[],_=>⟨[],rfl,rfl⟩
 |_,[],_::_,h=>by simp [kg] at h
 |_,_::_,[],h=>by simp [kg] at h
 |i,x::xs,(j,y)::e,h=>by simp only[kg,bl] at h;obtain⟨r,ar,av⟩:=j6 (i+1) xs e h.2;have u:=dh h.1.1;subst u;exact⟨y::r,by simp [ar],by simp [dz,h.1.2,av]⟩
def mc(T:kN):List Field→Option (List (Nat×Nat))
 |[]=>some []
 |f::jJ=>(T.size f.type).bind fun n=>(mc T jJ).map fun l=>(f.offset,n)::l
theorem oN{P:Program}{T:kN}(eN:T.pQ P):∀(jJ:List Field) (l:List (Nat×Nat)),mc T jJ=some l→(jJ.mapM fun f=>(fg P f.type).map fun n=>(f.offset,n))=some l
 |[],l,h=>by simp only[mc,bm] at h;subst h;rfl
 |f::jJ,l,h=>by
  simp only[mc] at h;cases dm:T.size f.type with
  |none=>rw[dm] at h;cases h
  |some n=>
   rw[dm] at h;cases bN:mc T jJ with
   |none=>rw[bN] at h;cases h
   |some l'=>rw[bN] at h;simp only[fF,ej,bm] at h;subst h;rw[List.mapM_cons];simp [eN.size dm,oN eN jJ l' bN]
def yl(a b:BinOp):Bool:=decide (a=b)
def eH(T:kN)(H:gk)(op:Op):Bool:=
 match H with
 |.move x|.oY x|.nl x=>
  match op with
  |.move y|.assign y=>cH x y
  |_=>false
 |.pick c a b=>
  match op with
  |.pick n2 fY I=>cH c n2&&cH a fY&&cH b I
  |_=>false
 |.alloc z=>
  match op with
  |.alloc t=>T.zero t z
  |_=>false
 |.fu x|.j1 x=>
  match op with
  |.box _ y=>cH x y
  |_=>false
 |.build z eb=>
  match op with
  |.build t h=>
   match T.d8 t with
   |some (.struct jJ)=>
    match mc T jJ.toList with
    |some pl=>T.zero t z&&ky (pl.toArray[·]?) eb h.toList
    |none=>false
   |some (.array _ el)=>
    match T.size el with
    |some sz=>T.zero t z&&ky (fun i=>some (i*sz,sz)) eb h.toList
    |none=>false
   |_=>false
  |_=>false
 |.buildSlice sz eb=>
  match op with
  |.buildSlice t len h=>
   match T.d8 t with
   |some (.slice el)=>T.size el==some sz&&T.zero el (T.Zu el)&&Nat.beq (T.Zu el).length sz&&Nat.beq len eb.length&&Nat.ble (len*sz) 16777216&&kg 0 eb h.toList
   |_=>false
  |_=>false
 |.load n x=>
  match op with
  |.load t y=>T.load t n&&cH x y
  |_=>false
 |.store n x v=>
  match op with
  |.store t y u=>T.size t==some n&&cH x y&&cH v u
  |_=>false
 |.k9 _ _ n x v=>
  match op with
  |.store t y u=>T.size t==some n&&cH x y&&cH v u
  |_=>false
 |.nilCheck x=>
  match op with
  |.nilCheck y=>cH x y
  |_=>false
 |.bin o x y=>
  match op with
  |.binOp o' _ kI uq _=>yl o o'&&cH x kI&&cH y uq
  |_=>false
 |.eq neg e x y=>
  match op with
  |.binOp o t kI uq _=>
   match T.d8 t with
   |some d=>yl o (if neg then .neq else .eql)&&(qa e d||Za T e t d)&&cH x kI&&cH y uq
   |none=>false
  |_=>false
 |.un o x=>
  match op with
  |.unOp o' _ y=>decide (o=o')&&cH x y
  |_=>false
 |.lj k x=>
  match op with
  |.convert src dst y=>
   match T.d8 src,T.d8 dst with
   |some _,some (.int lN)=>decide (k=lN)&&cH x y
   |_,_=>false
  |_=>false
 |.n3 x=>
  match op with
  |.convert src dst y=>
   match T.d8 src,T.d8 dst with
   |some _,some .string=>cH x y
   |_,_=>false
  |_=>false
 |.gN x=>
  match op with
  |.convert src dst y=>
   match T.d8 src,T.d8 dst with
   |some (.slice el),some .string=>
    match T.d8 el with
    |some (.int .u8)=>cH x y
    |_=>false
   |_,_=>false
  |_=>false
 |.ja x=>
  match op with
  |.convert src dst y=>
   match T.d8 src,T.d8 dst with
   |some .string,some (.slice el)=>
    match T.d8 el with
    |some (.int .u8)=>cH x y
    |_=>false
   |_,_=>false
  |_=>false
 |.jL t x=>
  match op with
  |.makeInterface Sg y=>
   match T.d8 t with
   |some (.interface _)=>false
   |some _=>Nat.beq t Sg&&cH x y
   |none=>false
  |_=>false
 |.ks f dI=>
  match op with
  |.makeFunc (.func xt) first J=>Nat.beq f xt&&Nat.beq first.size 0&&dz dI J.toList
  |_=>false
 |.makeSlice z bytes l c=>
  match op with
  |.makeSlice t l' n2=>
   match T.d8 t with
   |some (.slice el)=>T.zero el z&&T.size el==some z.length&&T.bytes el==some bytes&&Nat.blt 0 bytes&&cH l l'&&cH c n2
   |_=>false
  |_=>false
 |.kt x gg bL=>
  match op with
  |.slice t y r A none=>
   match T.d8 t with
   |some .string=>cH x y&&fy gg r&&fy bL A
   |_=>false
  |_=>false
 |.slice sz x gg bL iK=>
  match op with
  |.slice t y r A B=>
   match T.d8 t with
   |some (.slice el)=>T.size el==some sz&&cH x y&&fy gg r&&fy bL A&&fy iK B&&(!iK.isSome||bL.isSome)
   |_=>false
  |_=>false
 |.iV sz len x gg bL iK=>
  match op with
  |.slice t y r A B=>
   match T.d8 t with
   |some (.array n el)=>Nat.beq n len&&T.size el==some sz&&cH x y&&fy gg r&&fy bL A&&fy iK B&&(!iK.isSome||bL.isSome)
   |_=>false
  |_=>false
 |.jM sz bytes _ x y=>
  match op with
  |.call {callee:=.builtin .append,args:=⟨[kI,uq]⟩,argTypes:=⟨[t,t2]⟩}=>
   match T.d8 t with
   |some (.slice el)=>
    match T.info el with
    |some (n,b,z)=>
     (match T.d8 t2 with
      |some (.slice _)|some .string=>true
      |_=>false)&&Nat.beq n sz&&Nat.beq b bytes&&Nat.beq z.cells.size sz&&Nat.blt 0 bytes&&Nat.ble bytes 1048576&&cH x kI&&cH y uq
    |none=>false
   |_=>false
  |_=>false
 |.jN sz bytes _ x y=>
  match op with
  |.call {callee:=.builtin .append,args:=⟨[kI,uq]⟩,argTypes:=⟨[t,t2]⟩}=>
   match T.d8 t with
   |some (.slice el)=>
    match T.info el with
    |some (n,b,z)=>
     (match T.d8 t2 with
      |some (.slice _)|some .string=>true
      |_=>false)&&Nat.beq n sz&&Nat.beq b bytes&&Nat.beq z.cells.size sz&&Nat.blt 0 bytes&&Nat.ble bytes 1048576&&cH x kI&&cH y uq
    |none=>false
   |_=>false
  |_=>false
 |.jO sz bytes x y=>
  match op with
  |.call {callee:=.builtin .append,args:=⟨[kI,uq]⟩,argTypes:=⟨[t,t2]⟩}=>
   match T.d8 t with
   |some (.slice el)=>
    match T.info el with
    |some (n,b,z)=>
     (match T.d8 t2 with
      |some (.slice _)|some .string=>true
      |_=>false)&&Nat.beq n sz&&Nat.beq b bytes&&Nat.beq z.cells.size sz&&Nat.blt 0 bytes&&Nat.ble bytes 1048576&&cH x kI&&cH y uq
    |none=>false
   |_=>false
  |_=>false
 |.gD sz eb=>
  match op with
  |.buildSlice t len h=>
   match T.d8 t with
   |some (.slice el)=>T.size el==some sz&&T.zero el (T.Zu el)&&Nat.beq (T.Zu el).length sz&&Nat.beq len eb.length&&Nat.ble (len*sz) 16777216&&kg 0 eb h.toList
   |_=>false
  |_=>false
 |.gE sz eb=>
  match op with
  |.buildSlice t len h=>
   match T.d8 t with
   |some (.slice el)=>T.size el==some sz&&T.zero el (T.Zu el)&&Nat.beq (T.Zu el).length sz&&Nat.beq len eb.length&&Nat.ble (len*sz) 16777216&&kg 0 eb h.toList
   |_=>false
  |_=>false
 |.fieldAddr off x=>
  match op with
  |.fieldAddr t y i=>
   match T.d8 t with
   |some (.struct jJ)=>
    match jJ[i]? with
    |some f=>
     match T.size f.type with
     |some n=>Nat.beq f.offset off&&Nat.blt 0 n&&cH x y
     |none=>false
    |none=>false
   |_=>false
  |_=>false
 |.field off n x=>
  match op with
  |.field t y i=>
   match T.d8 t with
   |some (.struct jJ)=>
    match jJ[i]? with
    |some f=>Nat.beq f.offset off&&T.load f.type n&&cH x y
    |none=>false
   |_=>false
  |_=>false
 |.jb sz x i=>
  match op with
  |.indexAddr t y j=>
   match T.d8 t with
   |some (.slice el)=>T.size el==some sz&&cH x y&&cH i j
   |_=>false
  |_=>false
 |.fv sz len x i=>
  match op with
  |.indexAddr t y j=>
   match T.d8 t with
   |some (.array n el)=>Nat.beq n len&&T.size el==some sz&&cH x y&&cH i j
   |_=>false
  |_=>false
 |.mY x i=>
  match op with
  |.index t y j=>
   match T.d8 t with
   |some .string=>cH x y&&cH i j
   |_=>false
  |_=>false
 |.n4 sz len n x i=>
  match op with
  |.index t y j=>
   match T.d8 t with
   |some (.array m el)=>Nat.beq m len&&T.size el==some sz&&T.load el n&&cH x y&&cH i j
   |_=>false
  |_=>false
 |.extract x i=>
  match op with
  |.extract y j=>Nat.beq i j&&cH x y
  |_=>false
 |.call f xs|.hl f xs=>
  match op with
  |.call c=>
   match c.callee with
   |.value (.func xt)=>Nat.beq f xt&&dz xs c.args.toList
   |_=>false
  |_=>false
 |.eA f xs|.lM f xs=>
  match op with
  |.call c=>
   match c.callee with
   |.value g=>cH f g&&dz xs c.args.toList
   |_=>false
  |_=>false
 |.len b x=>
  match op with
  |.call {callee:=.builtin .len,args:=⟨[y]⟩,argTypes:=⟨[t]⟩}=>
   match T.d8 t with
   |some .string=>b&&cH x y
   |some (.slice _)=> !b&&cH x y
   |_=>false
  |_=>false
 |.append sz bytes _ x y=>
  match op with
  |.call {callee:=.builtin .append,args:=⟨[kI,uq]⟩,argTypes:=⟨[t,t2]⟩}=>
   match T.d8 t with
   |some (.slice el)=>
    match T.info el with
    |some (n,b,z)=>
     (match T.d8 t2 with
      |some (.slice _)|some .string=>true
      |_=>false)&&Nat.beq n sz&&Nat.beq b bytes&&Nat.beq z.cells.size sz&&Nat.blt 0 bytes&&Nat.ble bytes 1048576&&cH x kI&&cH y uq
    |none=>false
   |_=>false
  |_=>false
 |.copy sz x y=>
  match op with
  |.call {callee:=.builtin .copy,args:=⟨[kI,uq]⟩,argTypes:=⟨[t,_]⟩}=>
   match T.d8 t with
   |some (.slice el)=>T.size el==some sz&&cH x kI&&cH y uq
   |_=>false
  |_=>false
 |.min xs=>
  match op with
  |.call c=>
   match c.callee with
   |.builtin .min=>dz xs c.args.toList
   |_=>false
  |_=>false
 |.max xs=>
  match op with
  |.call c=>
   match c.callee with
   |.builtin .max=>dz xs c.args.toList
   |_=>false
  |_=>false
 |.makeMap _=>
  match op with
  |.makeMap _ none=>true
  |_=>false
 |.mZ kJ m x v=>
  match op with
  |.mapUpdate t jv kI fL|.insert t jv kI fL=>
   match T.d8 t with
   |some (.map F _)=>
    match T.d8 F with
    |some d=>kM kJ d&&cH m jv&&cH x kI&&cH v fL
    |none=>false
   |_=>false
  |_=>false
 |.lookup kJ z ok m x=>
  match op with
  |.lookup t jv kI K=>
   match T.d8 t with
   |some (.map F M)=>
    match T.d8 F,T.info M with
    |some d,some (_,_,Z)=>kM kJ d&&hp z Z&&(ok==K)&&cH m jv&&cH x kI
    |_,_=>false
   |_=>false
  |_=>false
 |.lA _ f xs=>
  match op with
  |.call c=>
   match c.callee with
   |.value (.func xt)=>Nat.beq f xt&&dz xs c.args.toList
   |_=>false
  |_=>false
 |.j2 _ f xs=>
  match op with
  |.call c=>
   match c.callee with
   |.value g=>cH f g&&dz xs c.args.toList
   |_=>false
  |_=>false
 |.uS neg x=>
  match op with
  |.binOp o t kI (.const .nilIface) _=>
   match T.d8 t with
   |some (.interface _)=>yl o (if neg then .neq else .eql)&&cH x kI
   |_=>false
  |_=>false
 |.no=>true
theorem dC.lc{κ:bj}{D:Nat}{v:ae}{x:Value}(h:dC κ D v x)(d:Nat):v.ap d=v:=by
 cases h<;> try rfl
 rename_i sz es g a cap dt cb ar av bV dD e r;cases g<;> try rfl
 rename_i l;cases l with
 |l i=>exact absurd cb (by simp [iF])
 |g d i=>rfl
theorem ym{P:Program}{w:World}{κ:bj}{D:Nat}(f:ae→ae→Option ae)(g:Value→Value→Sem Value)
  (A:∀x y z X Y,f x y=some z→dC κ D x X→dC κ D y Y→∃Z,(g X Y).run P w=.ok Z w∧dC κ D z Z):∀(u:List ae) (e:List Value) (x v:ae) (X:Value),uT f x u=some v→dC κ D x X→eu κ D u e→
   ∃V,(e.foldlM g X).run P w=.ok V w∧dC κ D v V
 |[],e,x,v,X,h,a5,r=>by
  simp only[uT,bm] at h
  have:e=[]:=jE r.1;subst this;subst h;exact⟨X,by simp,a5⟩
 |y::u,e,x,v,X,h,a5,r=>by
  cases e with
  |nil=>exact absurd r.1 (by simp)
  |cons Y e=>
   simp only[uT] at h;cases g8:f x y with
   |none=>rw[g8] at h;cases h
   |some z=>rw[g8] at h;simp only[fF] at h;obtain⟨Z,ar,av⟩:=A x y z X Y g8 a5 (r.2 0 y Y rfl rfl);obtain⟨V,bV,dD⟩:=ym f g A u e z v Z h av ⟨by have:=r.1;simpa using this,fun j c y aY eM=>r.2 (j+1) c y (by simpa using aY) (by simpa using eM)⟩;exact⟨V,by simp [List.foldlM_cons,ar,bV],dD⟩
section
variable{P:Program}{ty:TypeId}{κ:bj}{s:ag}{w:World}
theorem KZ(x y z:ae)(X Y:Value)(h:min2 x y=some z)(a5:dC κ (s.aa+1) x X)(eM:dC κ (s.aa+1) y Y):∃Z,(Builtin.min2 X Y).run P w=.ok Z w∧dC κ (s.aa+1) z Z:=by cases x<;> cases y<;> simp [min2] at h;subst h;rw[a5.eD,eM.eD];exact⟨_,by simp only[Builtin.min2];rfl,.int _ _⟩
theorem K0(x y z:ae)(X Y:Value)(h:max2 x y=some z)(a5:dC κ (s.aa+1) x X)(eM:dC κ (s.aa+1) y Y):∃Z,(Builtin.max2 X Y).run P w=.ok Z w∧dC κ (s.aa+1) z Z:=by cases x<;> cases y<;> simp [max2] at h;subst h;rw[a5.eD,eM.eD];exact⟨_,by simp only[Builtin.max2];rfl,.int _ _⟩
theorem iv{ao:Nat→ae}{a:Act}{G:Nat→ae}(br:xo κ s ao a)(dV:ko κ G):∀(xs:List bF) (e:List Operand),dz xs e=true→eu κ (s.aa+1) (xs.map fun x=>(aq G ao x).ap s.aa) (e.map a.eval)
 |[],[],_=>.nil _ _
 |[],_::_,h=>by simp [dz] at h
 |_::_,[],h=>by simp [dz] at h
 |x::xs,y::e,h=>by simp only[dz,bl] at h;exact .cons (bu br dV h.1) (iv br dV xs e h.2)
def mD(κ:bj)(s:ag)(w:World)(v:ae)(s':ag)(x:Value)(w':World):Prop:=∃κ',fx κ s w κ' s' w'∧c5 κ' s' w'∧dC κ' (s.aa+1) (v.ap s.aa) x
def oO(P:Program)(o:Op)(ty:TypeId)(ρ:Operand→Value)(κ:bj)(s:ag)(w:World)(v:ae)(s':ag):Prop:=
 dN P o ty ρ κ s w v s'∨∃f xs,(∀dst pos after guard,(execOp ρ ⟨dst,o,ty,pos,after,guard⟩).run P w=.ok (.enter f xs) w)∧Calls P f xs w fun e w'=>∃x,e=.returned x∧mD κ s w v s' x w'
structure m4 (P:Program) (E:Env):Prop where
 loop:∃n,∀step bU ao s k,E.loop step bU ao s k=dS step bU n ao s k
 nM:∀f args s v s',E.call f args s≠.panic v s'
 ok:∀f args s v s' κ w xs,E.call f args s=.ok v s'→c5 κ s w→ko κ E.au→eu κ (s.aa+1) args xs→
  (∃x w',(callFunc f xs.toArray).run P w=.ok (.value x) w'∧mD κ s w v s' x w')∨
  ((callFunc f xs.toArray).run P w=.ok (.enter f xs.toArray) w∧Calls P f xs.toArray w fun e w'=>∃x,e=.returned x∧mD κ s w v s' x w')
theorem xN{E:Env}(hY:m4 P E)(a7:c5 κ s w)(dV:ko κ E.au){f:Nat}{args:List ae}{v:ae}{s':ag}{xs:List Value}{o:Op}{ρ:Operand→Value}(h:E.call f args s=.ok v s')(a5:eu κ (s.aa+1) args xs)
  (e:∀dst pos after guard,execOp ρ ⟨dst,o,ty,pos,after,guard⟩=callFunc f xs.toArray):oO P o ty ρ κ s w v s':=by
 rcases hY.ok f args s v s' κ w xs h a7 dV a5 with⟨x,w',ar,κ',av,bV,dD⟩|⟨ar,av⟩
 ·exact .inl ⟨x,κ',w',.inl (fun dst pos after guard=>by rw[e];exact ar),av,bV,dD⟩
 ·exact .inr ⟨f,xs.toArray,fun dst pos after guard=>by rw[e];exact ar,av⟩
theorem mD.pure(a7:c5 κ s w){v:ae}{u:ag}{x:Value}{w':World}(h:mD {κ with n:=fun _=>0} {own:=[],up:=[],ro:=[]} w v u x w')(bM:v.bc=true):mD κ s w v s x w':=by
 obtain⟨κ',ar,av,bV⟩:=h;have r:∀b,¬Live {κ with n:=fun _=>0} {own:=[],up:=[],ro:=[]} b:=fun b ⟨d,i,o,cb,_⟩=>by simp [ag.get] at cb
 have cZ:gV κ {κ with F:=κ'.F} (s.aa+1):=⟨fun a v h=>ar.k.F a v h,fun _ _=>aD _,fun _ _ _ _=>rfl,fun _ _ _ _ _ _ h=>h⟩;refine⟨{κ with F:=κ'.F},⟨cZ,rfl,ar.size,ar.os,ar.tape,ar.output,fun b e _=>ar.kS b e (r b),fun b e bN=>?_,fun a y=>?_⟩,?_,?_⟩
 ·obtain⟨d,i,o,cb,A⟩:=bN;exact⟨d,i,o,cb,A⟩
 ·rcases ar.o4 a y with q|q|q
  ·exact .inl q
  ·exact .inr (.inl q)
  ·exact absurd q (r _)
 ·refine a7.world cZ rfl rfl (fun a v h=>av.iG a v h) (fun b e=>⟨ar.kS b (a7.jV e) (r b),fun o=>?_⟩);show κ'.F ⟨b,o,none⟩=κ.F ⟨b,o,none⟩;cases fE:κ.F ⟨b,o,none⟩ with
  |some v=>exact ar.k.F _ _ fE
  |none=>
   cases B:κ'.F ⟨b,o,none⟩ with
   |none=>rfl
   |some v=>
    rcases ar.o4 ⟨b,o,none⟩ (by rw[B];simp) with q|q|q
    ·exact absurd fE q
    ·exact absurd (a7.jV e) (Nat.not_lt.2 q)
    ·exact absurd q (r _)
 ·have H:dC κ' (({own:=[],up:=[],ro:=[]}:ag).aa+1) v x:=by rw[ju bM] at bV;exact bV
  rw[ju bM];exact H.bc bM _ (fun _ _ h=>h)
theorem vn{E:Env}(hY:m4 P E)(a7:c5 κ s w)(dV:ko κ E.au){f:Nat}{args:List ae}{v:ae}{r:ag}{xs:List Value}{o:Op}{ρ:Operand→Value}(h:E.call f args {own:=[],up:=[],ro:=[]}=.ok v r)(bM:v.bc=true)(a5:eu κ (s.aa+1) args xs)(aU:ae.aZ args=true)
  (u:∀dst pos after guard,execOp ρ ⟨dst,o,ty,pos,after,guard⟩=callFunc f xs.toArray):oO P o ty ρ κ s w v s:=by
 have y:eu {κ with n:=fun _=>0} (({own:=[],up:=[],ro:=[]}:ag).aa+1) args xs:=⟨a5.1,fun j c x aY A=>(a5.2 j c x aY A).bc (iL aU aY) _ (fun _ _ h=>h)⟩;have B:ko {κ with n:=fun _=>0} E.au:=fun n=>⟨(dV n).1.bc (dV n).2 _ (fun _ _ h=>h),(dV n).2⟩
 rcases hY.ok f args _ v r _ w xs h a7.empty B y with⟨x,w',ar,av⟩|⟨ar,av⟩
 ·obtain⟨κ',F,H,I⟩:=av.pure a7 bM;exact .inl ⟨x,κ',w',.inl (fun dst pos after guard=>by rw[u];exact ar),F,H,I⟩
 ·exact .inr ⟨f,xs.toArray,fun dst pos after guard=>by rw[u];exact ar,av.mono fun e w' ⟨x,he,J⟩=>⟨x,he,J.pure a7 bM⟩⟩
theorem kW{ρ:Operand→Value}{c:Call}{f:Nat}{xs:Array Value}(aY:∃y,c.callee=.value y∧ρ y=.func (.func f) #[] xs):∀dst pos after guard,execOp ρ ⟨dst,.call c,ty,pos,after,guard⟩=callFunc f (c.args.toList.map ρ++xs.toList).toArray:=by
 intro dst pos after guard;obtain⟨y,eM,e⟩:=aY;have ar:resolve ρ c ty=(Pure.pure {target:=.fn (.func f) xs,args:= #[]++c.args.map ρ}:Sem Deferred):=by simp only[resolve,eM,e,Deferred.ofValue]
 have av:(#[]++c.args.map ρ)++xs=(c.args.toList.map ρ++xs.toList).toArray:=by apply Array.ext';simp
 show(do let d←resolve ρ c ty;invoke d.target d.args)=_;rw[ar];show invoke (.fn (.func f) xs) (#[]++c.args.map ρ)=_;simp only[invoke,av]
end
theorem c5.Ey{κ κ':bj}{s:ag}{w:World}(a7:c5 κ s w)(o:cU)(cZ:gV κ κ' (s.aa+1))(dm:∀d,κ'.n d=if d=s.aa then κ.n d+1 else κ.n d)(H:∀d i m,i<κ.n d→κ'.lC d i m=κ.lC d i m)(h7:κ'.F=κ.F)
  (I:AP κ' s.aa s.own.length w o)(B:∀b,bi κ' s.aa s.own.length o=some b→¬Live κ s b):c5 κ' (s.new o) w:=by
 have A:=iu.new s o;have key:∀d i o,s.get (.g d i)=some o→AP κ' d i w o∧bi κ' d i o=bi κ d i o:=fun d i o h=>(a7.obj d i o h).bU (a7.nH h) (cZ.low (by have:=ag.gy h;omega)) (fun m=>H d i m (a7.nH h)) (fun b J=>⟨rfl,fun x=>by rw[h7]⟩)
 refine⟨fun a v h=>a7.iG a v (h7 ▸ h),fun d l h=>?_,fun d i o' h=>?_,fun d i u fQ hF y b h r e hX=>?_⟩
 ·rw[A.ao] at h;rw[dm];split at h
  ·rename_i cP;cases br:s.ao d with
   |none=>rw[br] at h;cases h
   |some l'=>rw[br] at h;simp only[ej,bm] at h;rw[←h,if_pos cP,←a7.len d l' br];simp
  ·rename_i cP;rw[if_neg cP];exact a7.len d l h
 ·rw[A.get] at h;split at h
  ·rename_i aY;obtain⟨rfl,rfl⟩:=aY;simp only[bm] at h;exact h ▸ I
  ·exact(key d i o' h).1
 ·rw[A.get] at h r;split at h
  ·rename_i aY;obtain⟨rfl,rfl⟩:=aY;simp only[bm] at h;subst h;split at r
   ·rename_i kT;exact⟨kT.1.symm,kT.2.symm⟩
   ·rw[(key fQ hF y r).2] at hX;exact absurd ⟨fQ,hF,y,r,hX⟩ (B b e)
  ·split at r
   ·rename_i kT;obtain⟨rfl,rfl⟩:=kT;simp only[bm] at r;subst r;rw[(key d i u h).2] at e;exact absurd ⟨d,i,u,h,e⟩ (B b hX)
   ·rw[(key d i u h).2] at e;rw[(key fQ hF y r).2] at hX;exact a7.inj d i u fQ hF y b h r e hX
theorem c5.Bh{κ:bj}{s:ag}{w:World}(a7:c5 κ s w){i:Nat}{o:cU}(cb:s.own[i]? =some o):c5 κ {s with own:=s.own.set i .gone} w∧fx κ s w κ {s with own:=s.own.set i .gone} w:=by
 have r:s.get (.g s.aa i)=some o:=by simp [ag.get,cb]
 exact a7.setObj r (o':=.gone) (by simp [ag.set]) (.refl _ _) rfl (fun _ _ _ _=>rfl) (fun a v h=>a7.iG a v h) (fun b e eR=>⟨rfl,fun _=>rfl⟩) (aD _) rfl rfl rfl trivial (fun b e=>by simp [bi] at e)
def bj.row(κ:bj)(D I b n cap sz:Nat):bj:=
 {κ with n:=fun d=>if d=D then κ.n d+1 else κ.n d,loc:=fun d i=>if d=D∧i=I then b else κ.loc d i,lC:=fun d i m=>if d=D∧i=I then(if m=n then some (⟨b,0,none⟩,cap,sz) else none) else κ.lC d i m}
theorem gV.row{κ:bj}{D I b n cap sz:Nat}(e:I=κ.n D)(E:Nat):gV κ (κ.row D I b n cap sz) E:=by
 have eR:∀d i,i<κ.n d→¬(d=D∧i=I):=by
  rintro d i bL ⟨rfl,rfl⟩
  omega
 refine⟨fun _ _ h=>h,fun d _=>?_,fun d i _ bL=>?_,fun d i n x _ bL h=>?_⟩
 ·simp only[bj.row];split<;> omega
 ·simp only[bj.row];rw[if_neg (eR d i bL)]
 ·simp only[bj.row];rw[if_neg (eR d i bL)];exact h
theorem c5.newRow{κ:bj}{s:ag}{w w':World}(a7:c5 κ s w)(cs:List ae)(xs:List Value)(C:Array Value)(e:TypeId)(n sz cap:Nat)(a5:eu κ (s.aa+1) cs xs)(hY:C.size=cap*sz)(hle:cs.length≤C.size)(cX:∀j,j<cs.length→C[j]? =xs[j]?)
  (hw:w'.heap=w.heap.push (.cells C e (0,0)))(u:w'.os=w.os)(ed:w'.tape=w.tape)(hu:w'.output=w.output):
  c5 (κ.row s.aa s.own.length w.heap.size n cap sz) (s.new (.cells cs)) w'∧fx κ s w (κ.row s.aa s.own.length w.heap.size n cap sz) (s.new (.cells cs)) w':=by
 have y:s.own.length=κ.n s.aa:=a7.len s.aa s.own (by simp [ag.ao]);have cZ:gV κ (κ.row s.aa s.own.length w.heap.size n cap sz) (s.aa+1):=gV.row y _;have A:w'.heap[w.heap.size]? =some (.cells C e (0,0)):=by rw[hw];simp
 have B:C.toList.take cs.length=xs:=by
  apply List.ext_getElem?;intro j;rw[List.getElem?_take];split
  ·rename_i F;rw[←cX j F];simp
  ·rw[List.getElem?_eq_none (by rw[a5.1];omega)]
 exact a7.newObj (w':=w') (.cells cs) cZ (iu.new s _) (fun d=>rfl) (fun d i m bL=>if_neg (by rintro ⟨rfl,rfl⟩;omega)) (.inl rfl) (fun b r=>by rw[hw,Array.getElem?_push];simp [Nat.ne_of_lt r]) (by rw[hw];simp) u ed hu
  ⟨⟨C,e,(0,0),by simp [bj.row,A],fun j _=>by simp,by rw[B];exact a5.mono cZ,fun m b c z h=>by
   simp only[bj.row,and_self,if_true] at h;split at h
   ·simp only[bm,e0] at h;obtain⟨_,rfl,rfl⟩:=h;omega
   ·cases h⟩,fun o=>a7.qA (by simp [bj.row])⟩ (fun b r=>by simp [bi,bj.row] at r;omega)
theorem c5.rename{κ:bj}{s:ag}{w:World}(a7:c5 κ s w){i n m cap sz:Nat}{cs:List ae}(cb:s.own[i]? =some (.cells cs))(H:κ.lC s.aa i m=some (⟨κ.loc s.aa i,0,none⟩,cap,sz)):
  c5 (κ.row s.aa s.own.length (κ.loc s.aa i) n cap sz) {s with own:=s.own.set i .gone++[.cells cs]} w∧fx κ s w (κ.row s.aa s.own.length (κ.loc s.aa i) n cap sz) {s with own:=s.own.set i .gone++[.cells cs]} w:=by
 have I:s.own.length=κ.n s.aa:=a7.len s.aa s.own (by simp [ag.ao]);have cZ:gV κ (κ.row s.aa s.own.length (κ.loc s.aa i) n cap sz) (s.aa+1):=gV.row I _;have bL:i<s.own.length:=(ec.1 cb).1;have u:s.get (.g s.aa i)=some (.cells cs):=by simp [ag.get,cb]
 obtain⟨ar,av⟩:=a7.Bh cb;obtain⟨⟨C,e,jG,J,K,lz,M⟩,N⟩:=a7.obj _ _ _ u;have y:(κ.row s.aa s.own.length (κ.loc s.aa i) n cap sz).loc s.aa s.own.length=κ.loc s.aa i:=by simp [bj.row]
 have O:AP (κ.row s.aa s.own.length (κ.loc s.aa i) n cap sz) s.aa s.own.length w (.cells cs):=by
  refine⟨⟨C,e,jG,by rw[y];exact J,K,lz.mono cZ,fun jv b c z h=>?_⟩,fun o=>by rw[y];exact N o⟩;simp only[bj.row,and_self,if_true] at h;split at h
  ·simp only[bm,e0] at h;obtain⟨_,rfl,rfl⟩:=h;exact M m _ _ _ H
  ·cases h
 have key:=ar.Ey (κ':=κ.row s.aa s.own.length (κ.loc s.aa i) n cap sz) (.cells cs) cZ (fun d=>rfl) (fun d hF jv ah=>if_neg (by rintro ⟨bV,dD⟩;have r:d=s.aa:=bV;subst r;have ai:hF=s.own.length:=dD;omega)) rfl (by
   show AP _ s.aa (s.own.set i .gone).length w _;rw[List.length_set];exact O) (fun b A=>by
   have U:b=κ.loc s.aa i:=by have:bi (κ.row s.aa s.own.length (κ.loc s.aa i) n cap sz) s.aa (s.own.set i .gone).length (.cells cs)=some b:=A;rw[List.length_set] at this;simp only[bi,y,bm] at this;exact this.symm
   subst U
   rintro ⟨fQ,hF,o',bV,dD⟩
   have V:=ag.u0 (s:=s) (s':={s with own:=s.own.set i .gone}) (d:=s.aa) (i:=i) (o:=.gone) (by simp [ag.set]) u fQ hF;rw[V] at bV;split at bV
   ·simp only[bm] at bV;subst bV;simp [bi] at dD
   ·rename_i eR;obtain⟨B,F⟩:=a7.inj fQ hF o' s.aa i _ _ bV u dD rfl;exact eR ⟨B,F⟩)
 refine⟨key,⟨cZ,rfl,aD _,rfl,rfl,rfl,fun _ _ _=>rfl,fun b A bN=>?_,fun a Y=>.inl Y⟩⟩;obtain⟨fQ,hF,o',bV,dD⟩:=bN;have Z:=(iu.new {s with own:=s.own.set i .gone} (.cells cs)).get fQ hF;have r:(({s with own:=s.own.set i .gone}:ag).new (.cells cs)).get (.g fQ hF)=some o':=bV;rw[Z] at r;split at r
 ·rename_i aY;simp only[bm] at r;subst r;obtain⟨B,F⟩:=aY;have ab:hF=s.own.length:=by rw[F];simp
  have ac:fQ=s.aa:=B;subst ab ac;simp only[bi,y,bm] at dD;exact⟨s.aa,i,_,u,by simp [bi,dD]⟩
 ·rename_i aY;have aj:=ar.nH r;have ak:=ag.gy r;have ad:bi κ fQ hF o'=some b:=by
   have eR:¬(fQ=s.aa∧hF=s.own.length):=by rintro ⟨af,al⟩;subst af;omega
   cases o' with
   |cells am=>simp only[bi,bj.row,if_neg eR] at dD ⊢;exact dD
   |map es=>simp only[bi,bj.row,if_neg eR] at dD ⊢;exact dD
   |tok k=>simp only[bi,bj.row,if_neg eR] at dD ⊢;exact dD
   |gone=>simp [bi] at dD
  exact av.live b A ⟨fQ,hF,o',r,ad⟩
section
variable{P:Program}{ty:TypeId}{ρ:Operand→Value}{κ:bj}{s:ag}{w:World}(a7:c5 κ s w)
include a7
theorem vo{E:Env}(bs:E.F=.not){k:ae→ag→ah}{r:ah}(br:r≠.fail){t t2 el:TypeId}{sz bytes:Nat}{z:Value}(h:nu P t t2 el sz bytes z){x y:Operand}{X Y:ae}
  (kL:dC κ (s.aa+1) (X.ap s.aa) (ρ x))(aR:dC κ (s.aa+1) (Y.ap s.aa) (ρ y))(aU:kc E s k sz bytes X Y=r):∃fL s',k fL s'=r∧dN P (.call {callee:=.builtin .append,args:= #[x,y],argTypes:= #[t,t2]}) ty ρ κ s w fL s':=by
 unfold kc at aU;cases iH:dv s Y with
 |none=>rw[iH] at aU;exact absurd aU.symm br
 |some p=>
  obtain⟨u,new⟩:=p;rw[iH] at aU;obtain⟨N,be,J⟩:=kA a7 aR iH;cases new with
  |nil=>exact absurd aU.symm br
  |cons aS aT=>
   simp only[bs,aX.not] at aU;generalize aV:aS::aT=new at *;have lo:0<new.length:=by rw[←aV];simp
   have aF:s.own.length=κ.n s.aa:=a7.len s.aa s.own (by simp [ag.ao]);split at aU
   ·
    rename_i aW;obtain⟨B,ab⟩:=c2 aU br;simp only[bl] at B;obtain⟨⟨⟨ak,al⟩,am⟩,an⟩:=B;have dH:=dh ak;have aq:=(dh al).symm;subst dH;subst aq;have bV:=dW am;simp only[ae.ap] at kL;have ac:ρ x=.slice none 0 0:=by
     rcases kL.hE with⟨_,_,e⟩|⟨A,cap,dt,e,cb,_⟩
     ·exact e
     ·cases cb
    obtain⟨hlen,xs,aY,f7⟩:=fo (P:=P) N J new.length (aD _) w.drew (fun _=>rfl);have au:=(fo (P:=P) N J new.length (aD _) w (fun _=>rfl)).1;simp only[List.take_length] at f7;have H:=e6 new u J;have O:xs.length=new.length*u:=by rw[f7.1,H]
    have K:(Builtin.firstCells u 0 (.slice none 0 0)).run P w.drew=.ok (#[]:Array Value) w.drew:=by
     obtain⟨_,os,K,U⟩:=fo (P:=P) (s:=s) (κ:=κ) (w:=w) (X:=Value.slice none 0 0) (v:=.dead) (sz:=u) (es:=[]) (.inr ⟨none,0,rfl,fun _=>rfl,fun a V=>(by cases V)⟩) (fun e he=>(by cases he)) 0 (aD _) w.drew (fun _=>rfl)
     have:os=[]:=jE (by simpa using U.1);rw[this] at K;exact K
    obtain⟨cap,C,M,Z,ad,af⟩:=iW (ty:=ty) h (base:=none) (fM:=0) (jj:=0) (os:=[]) au aY K O (by simp) (by omega) (by rw[bf];exact bV);simp only[bf,List.nil_append] at M ad af;obtain⟨hj,g2⟩:=a7.newRow (w':=w.drew.alloc (.cells C el)) (new.flatMap ae.cells) xs C el new.length u cap f7 Z (by rw[H,Z];exact fZ _ M) (fun j cX=>ad j (by rw[←H];exact cX)) rfl rfl rfl rfl;refine⟨_,_,ab,_,_,_,.inl (hP (by rw[ac];exact af)),g2,hj,?_⟩;simp only[ae.ap,Loc.ap];have bN:(κ.row s.aa s.own.length w.heap.size new.length cap u).loc s.aa s.own.length=w.heap.size:=by simp [bj.row]
    have key:=dC.cO (κ:=κ.row s.aa s.own.length w.heap.size new.length cap u) (D:=s.aa+1) s.aa s.own.length 0 new.length 0 cap u (Nat.lt_succ_self _) (by simp [bj.row,aF]) M (.inr ⟨rfl,lo,rfl,by rw[bN];simp [bj.row]⟩);rw[bN] at key;exact key
   ·
    rename_i i len aW;split at aU
    rotate_left
    ·exact absurd aU.symm br
    rename_i cs av;obtain⟨B,ab⟩:=c2 aU br;simp only[bl,Bool.not_eq_true'] at B;obtain⟨⟨⟨⟨⟨⟨ak,al⟩,am⟩,an⟩,aZ⟩,a0⟩,aG⟩:=B;have dH:=dh ak;have aq:=(dh al).symm;subst dH;subst aq;have ai:=dh am;have bg:len≠0:=fun eS=>by rw[eS] at an;cases an
    have aw:=dW aZ;simp only[ae.ap,Loc.ap] at kL;have cb:s.get (.g s.aa i)=some (.cells cs):=by simp [ag.get,av]
    obtain⟨lU,ac,cP,bL,bh,vj⟩:=kL.jW;obtain⟨_,_,_,aH⟩:(0:Nat)=0∧0<len∧(0:Nat)=0∧κ.lC s.aa i len=some (⟨κ.loc s.aa i,0,none⟩,lU,u):=by
     rcases vj with ar|ar
     ·omega
     ·exact ar
    obtain⟨⟨I,ma,ax,ay,aI,lz,aJ⟩,aK⟩:=a7.obj _ _ _ cb;have a1:=aJ len _ _ _ aH;have H:=e6 new u J;have az:i<s.own.length:=(ec.1 av).1;have hmul:(len+new.length)*u=len*u+new.length*u:=e9 _ _ _;have aL:=ob a7 cb 0;rw[b9] at aL;by_cases aA:len+new.length≤lU
    ·
     obtain⟨hlen,xs,aY,f7⟩:=fo (P:=P) N J new.length (aD _) w (fun _=>rfl);simp only[List.take_length] at f7;have O:xs.length=new.length*u:=by rw[f7.1,H]
     have bk:(len+new.length)*u≤I.size:=Nat.le_trans (fZ _ aA) a1;have ar:=nL a0 f7;have a2:=run_storeCells_cells (P:=P) (κ.loc s.aa i) (len*u) xs 0 w (fun j cX=>by rw[fS ay];simp;omega) (fun j cX=>by
      have hu:=aI (len*u+0+j) (by omega);simp only[World.frozen?,ay];rw[Bool.and_eq_false_iff];by_cases aM:ax.1≤len*u+0+j
      ·right;simp only[decide_eq_false_iff_not];exact fun h=>hu ⟨aM,h⟩
      ·left;simpa using aM) ar
     have a3:=run_append_fits (ty:=ty) h (base:=some ⟨κ.loc s.aa i,0,none⟩) (fM:=len) (jj:=lU) hlen aY aA (w':=w.setCells (κ.loc s.aa i) (len*u) xs) (by
      have a4:(⟨κ.loc s.aa i,0,none⟩:Addr).add (len*u)=⟨κ.loc s.aa i,len*u,none⟩:=by rw[f6 rfl];simp
      simp only[a4];simpa using a2)
     have aB:=my xs w (κ.loc s.aa i) (len*u) I ma ax ay (by omega);obtain⟨pY,q6,Ep⟩:=mA xs w (κ.loc s.aa i) (len*u);have ub:cs.length≤I.size:=by have:=lz.1;simp at this;omega
     have a5:(dL I.toList (len*u) xs).take (cs++new.flatMap ae.cells).length=I.toList.take cs.length++xs:=by
      rw[gL,H,ai,←O];apply List.ext_getElem?;intro j;rw[List.getElem?_take];by_cases cX:j<len*u
      ·rw[if_pos (by omega),gQ _ _ _ (by simp;omega),if_neg (by omega),gm (by simp;omega),List.getElem?_take,if_pos (by omega)]
      ·rw[i7 (by simp;omega)];have xJ:(I.toList.take (len*u)).length=len*u:=by simp;omega
       rw[xJ];by_cases aN:j<len*u+xs.length
       ·rw[if_pos aN,gQ _ _ _ (by simp;omega),if_pos (by omega)]
       ·rw[if_neg aN,List.getElem?_eq_none (by omega)]
     let s1:ag:={s with own:=s.own.set i (.cells (cs++new.flatMap ae.cells))}
     have aO:c5 κ s1 (w.setCells (κ.loc s.aa i) (len*u) xs)∧fx κ s w κ s1 (w.setCells (κ.loc s.aa i) (len*u) xs):=by
      refine a7.setObj cb (o':=.cells (cs++new.flatMap ae.cells)) (by simp [ag.set,s1]) (.refl _ _) rfl (fun _ _ _ _=>rfl) (fun a v h=>?_) (fun b _ B=>⟨?_,fun _=>rfl⟩) (by rw[mz];exact aD _) pY q6 Ep ⟨⟨(dL I.toList (len*u) xs).toArray,ma,ax,by rw[aB];simp,by simpa [fR] using aI,?_,fun m b cap sz hm=>by simpa [fR] using aJ m b cap sz hm⟩,aK⟩ (fun b B=>.inl B)
      ·obtain⟨aw,a6⟩:=a7.iG a v h;refine⟨aw,?_⟩;rw[gG (w:=w) ?_]
       ·exact a6
       ·rw[aB,if_neg];intro dH;have a8:a=⟨κ.loc s.aa i,a.off,none⟩:=by cases a;simp_all
        rw[a8,aK] at h;cases h
      ·rw[aB,if_neg (fun dH=>B (by simp [bi,dH]))]
      ·show eu κ _ _ ((dL I.toList (len*u) xs).take _);rw[a5];exact lz.append f7
     have a9:s1.own[i]? =some (.cells (cs++new.flatMap ae.cells)):=by simp [s1,az]
     obtain⟨hj,g2⟩:=aO.1.rename (n:=len+new.length) a9 aH;have aC:({s1 with own:=s1.own.set i .gone++[.cells (cs++new.flatMap ae.cells)]}:ag)= {s with own:=s.own.set i .gone++[.cells (cs++new.flatMap ae.cells)]}:=by simp [s1]
     rw[aC] at hj g2;refine⟨_,_,ab,_,_,_,.inl (hP (by rw[ac];exact a3)),aO.2.trans g2,hj,?_⟩;simp only[ae.ap,Loc.ap];have aE:s1.own.length=s.own.length:=by simp [s1]
     have bN:(κ.row s1.aa s1.own.length (κ.loc s1.aa i) (len+new.length) lU u).loc s.aa s.own.length=κ.loc s.aa i:=by rw[aE];show(if s.aa=s.aa∧s.own.length=s.own.length then κ.loc s.aa i else κ.loc s.aa s.own.length)=_;simp
     have key:=dC.cO (κ:=κ.row s1.aa s1.own.length (κ.loc s1.aa i) (len+new.length) lU u) (D:=s.aa+1) s.aa s.own.length 0 (len+new.length) 0 lU u (Nat.lt_succ_self _) (by
      rw[aE];show s.own.length<if s.aa=s.aa then κ.n s.aa+1 else κ.n s.aa
      rw[if_pos rfl];omega) aA (.inr ⟨rfl,by omega,rfl,by
      rw[bN,aE];show(if s.aa=s.aa∧s.own.length=s.own.length then(if len+new.length=len+new.length then some ((⟨κ.loc s.aa i,0,none⟩:Addr),lU,u) else none) else κ.lC s.aa s.own.length (len+new.length))=_;simp⟩)
     rw[bN] at key;exact key
    ·
     obtain⟨hlen,xs,aY,f7⟩:=fo (P:=P) N J new.length (aD _) w.drew (fun _=>rfl);have au:=(fo (P:=P) N J new.length (aD _) w (fun _=>rfl)).1;simp only[List.take_length] at f7;have O:xs.length=new.length*u:=by rw[f7.1,H]
     have ba:u≠0:=fun eS=>by rw[eS] at aG;cases aG
     obtain⟨aP,bb⟩:=kz u ba len cs (by omega);obtain⟨_,os,K,U⟩:=fo (P:=P) (s:=s) (κ:=κ) (w:=w) (X:=Value.slice (some ⟨κ.loc s.aa i,0,none⟩) len lU) (v:=.dead) (sz:=u) (es:=chunk u len cs) (.inr ⟨some ⟨κ.loc s.aa i,0,none⟩,lU,by rw[fs],fun V=>(by cases V),fun fY V=>(by cases V;rw[aP,i6 (by omega)];exact aL)⟩) bb len (by rw[fs];exact aD _) w.drew (fun _=>rfl);rw[show(chunk u len cs).take len=chunk u len cs from i6 (by rw[fs];exact aD _),aP,i6 (by omega)] at U;have bc:os.length=len*u:=by rw[U.1,ai]
     obtain⟨aj,C,M,Z,ad,af⟩:=iW (ty:=ty) h (base:=some ⟨κ.loc s.aa i,0,none⟩) (fM:=len) (jj:=lU) au aY K O bc (by omega) aw;obtain⟨hj,g2⟩:=a7.newRow (w':=w.drew.alloc (.cells C el)) (cs++new.flatMap ae.cells) (os++xs) C el (len+new.length) u aj (U.append f7) Z (by rw[gL,H,ai,Z,←e9];exact fZ _ M) (fun j cX=>ad j (by rw[gL,H,ai] at cX;omega)) rfl rfl rfl rfl;have bd:(s.new (.cells (cs++new.flatMap ae.cells))).own[i]? =some (.cells cs):=by simp only[ag.new];rw[gm az];exact av
     obtain⟨aQ,ns⟩:=hj.Bh bd;have aC:({s.new (.cells (cs++new.flatMap ae.cells)) with own:=(s.new (.cells (cs++new.flatMap ae.cells))).own.set i .gone}:ag)= {s with own:=s.own.set i .gone++[.cells (cs++new.flatMap ae.cells)]}:=by simp only[ag.new];congr 1;exact List.set_append_left _ _ az
     rw[aC] at aQ ns;refine⟨_,_,ab,_,_,_,.inl (hP (by rw[ac];exact af)),g2.trans ns,aQ,?_⟩;simp only[ae.ap,Loc.ap];have bN:(κ.row s.aa s.own.length w.heap.size (len+new.length) aj u).loc s.aa s.own.length=w.heap.size:=by simp [bj.row]
     have key:=dC.cO (κ:=κ.row s.aa s.own.length w.heap.size (len+new.length) aj u) (D:=s.aa+1) s.aa s.own.length 0 (len+new.length) 0 aj u (Nat.lt_succ_self _) (by simp [bj.row,aF]) M (.inr ⟨rfl,by omega,rfl,by rw[bN];simp [bj.row]⟩);rw[bN] at key;exact key
   ·exact absurd aU.symm br
end
section
variable{P:Program}{ty:TypeId}{ρ:Operand→Value}{κ:bj}{s:ag}{w:World}
theorem xO{T:kN}(eN:T.pQ P){D:Nat}:∀(jJ:List Field) (iq:List xr) (j:Nat) (cs h9:List ae) (xs A:List Value) (b:Bool),jk T j iq jJ=true→fc iq (cs.drop j)=true→fc iq (h9.drop j)=true→eu κ D cs xs→eu κ D h9 A→jd (cs.drop j) (h9.drop j)=some b→
  ∀d,(Op.eqFields (d+1) xs.toArray A.toArray jJ).run P w=.ok b w:=by
 intro jJ
 induction jJ with
 |nil=>
  intro iq j cs h9 xs A b ar av bV a5 eM h d;cases iq with
  |cons k iq=>simp [jk] at ar
  |nil=>
   cases aY:cs.drop j with
   |cons c F=>rw[aY] at av;simp [fc] at av
   |nil=>
    cases cP:h9.drop j with
    |cons c F=>rw[cP] at bV;simp [fc] at bV
    |nil=>rw[aY,cP] at h;simp only[jd,bm] at h;subst h;simp [Op.eqFields]
 |cons f jJ Y=>
  intro iq j cs h9 xs A b ar av bV a5 eM h d;cases iq with
  |nil=>simp [jk] at ar
  |cons k iq=>
   simp only[jk,bl,b8] at ar;obtain⟨⟨⟨dH,dm⟩,ed⟩,aU⟩:=ar;have N:=dh dH;cases aY:cs.drop j with
   |nil=>rw[aY] at av;cases k<;> simp [fc] at av
   |cons c F=>
    cases cP:h9.drop j with
    |nil=>rw[cP] at bV;cases k<;> simp [fc] at bV
    |cons n2 J=>
     have O:cs.drop (j+1)=F:=by rw[←List.drop_drop,aY];rfl
     have U:h9.drop (j+1)=J:=by rw[←List.drop_drop,cP];rfl
     have Z:cs[j]? =some c:=by have:=congrArg (fun l:List ae=>l[0]?) aY;simpa using this
     have aa:h9[j]? =some n2:=by have:=congrArg (fun l:List ae=>l[0]?) cP;simpa using this
     obtain⟨x,ab,K⟩:=a5.get Z;obtain⟨y,ac,M⟩:=eM.get aa;rw[aY] at av;rw[cP] at bV;rw[aY,cP] at h;cases hu:T.d8 f.type with
     |none=>rw[hu] at ed;cases ed
     |some H=>
      rw[hu] at ed;have I:=eN.d8 _ _ hu;have V:kU P f.type=some false:=by cases k<;> cases H<;> simp [kM] at ed<;> simp [kU,I,AX]
      have ad:(part f.type xs.toArray f.offset).run P w=.ok x w:=by rw[N];simp [part,jg V,ab]
      have af:(part f.type A.toArray f.offset).run P w=.ok y w:=by rw[N];simp [part,jg V,ac]
      have key:∀(e:Bool),(Op.equalIn (d+1) f.type x y).run P w=.ok e w→∀r,jd F J=some r→b=(e&&r)→fc iq F=true→fc iq J=true→(Op.eqFields (d+1) xs.toArray A.toArray (f::jJ)).run P w=.ok b w:=by
       intro e he r B u k1 qb;simp only[Op.eqFields,dm,ne_eq,not_false_eq_true,↓reduceIte,Sem.run_bind,ad,af,Result.andThen_ok,he];cases e with
       |false=>simp [u]
       |true=>simp only[hk,b4,↓reduceIte];rw[u,eI];exact Y iq (j+1) cs h9 xs A r aU (by rw[O];exact k1) (by rw[U];exact qb) a5 eM (by rw[O,U];exact B) d
      cases k with
      |int ev=>cases c<;> simp [fc] at av;cases n2<;> simp [fc] at bV;rename_i k1 a qb fY;obtain⟨rfl,av⟩:=av;obtain⟨rfl,bV⟩:=bV;cases H<;> simp [kM] at ed;simp only[jd,↓reduceIte] at h;obtain⟨r,B,u⟩:=Option.map_eq_some_iff.1 h;rw[K.eD,M.eD] at key;exact key _ (run_equalIn_int w d f.type _ _ a fY I) r B u.symm av bV
      |str=>
       cases c<;> simp [fc] at av;cases n2<;> simp [fc] at bV;rename_i a fY;cases H<;> simp [kM] at ed;simp only[jd] at h;obtain⟨r,B,u⟩:=Option.map_eq_some_iff.1 h;obtain⟨z,rfl,g8⟩:=K.ia;obtain⟨Zt,rfl,ag⟩:=M.ia;have ah:(a==fY)=(z.toList==Zt.toList):=by
        rw[←g8,←ag,ByteArray.toList_eq,ByteArray.toList_eq];rw[Bool.eq_iff_iff];simp only[beq_iff_eq];constructor
        ·intro e;exact(List.map_inj_right (f:=UInt8.toNat) (fun a b h=>UInt8.toNat_inj.1 h)).1 e
        ·intro e;rw[e]
       rw[ah] at u;exact key _ (run_equalIn_string w d f.type z Zt I) r B u.symm av bV
      |bool=>cases c<;> simp [fc] at av;cases n2<;> simp [fc] at bV;rename_i a fY;cases H<;> simp [kM] at ed;simp only[jd] at h;obtain⟨r,B,u⟩:=Option.map_eq_some_iff.1 h;rw[K.gY,M.gY] at key;exact key _ (run_equalIn_bool' w d f.type a fY I) r B u.symm av bV
theorem zp{T:kN}(eN:T.pQ P)(a7:c5 κ s w){iq:List xr}{b neg:Bool}{v u:ae}{t yt:TypeId}{x y:Operand}{jJ:Array Field}{op:BinOp}(F:op=if neg then .neq else .eql)(ed:P.underlying t=some (.struct jJ))(he:T.eqs t=true)(br:jk T 0 iq jJ.toList=true)
  (a5:dC κ (s.aa+1) (v.ap s.aa) (ρ x))(eM:dC κ (s.aa+1) (u.ap s.aa) (ρ y))(h:o1 (.agg iq) v u=some b):dN P (.binOp op t x y yt) ty ρ κ s w (.bool (bif neg then !b else b)) s:=by
 obtain⟨ar,av⟩:=eN.eqs t he;have A:P.fieldsOf t=jJ:=by simp [Program.fieldsOf,ed]
 rw[←vh (d:=s.aa)] at h;generalize I:v.ap s.aa=fL at *;generalize J:u.ap s.aa=K at *;simp only[o1] at h;split at h
 ·rename_i cs h9;cases e:fc iq cs&&fc iq h9 with
  |false=>rw[e] at h;cases h
  |true=>
   rw[e] at h;rw[bl] at e;obtain⟨xs,ex,f7⟩:=a5.mB;obtain⟨r,B,H⟩:=eM.mB;have run:=xO (w:=w) eN jJ.toList iq 0 cs h9 xs r b br (by simpa using e.1) (by simpa using e.2) f7 H (by simpa using h) 9998;have dH:=run_equalIn_agg (P:=P) w 9999 t xs.toArray r.toArray (by rw[A];exact ed) ar;rw[A,run] at dH;have g:=fun op=>run_eqGuard_agg (P:=P) w op t x y xs.toArray r.toArray av
   refine bG a7 _ (fun dst pos after guard=>?_) (.bool _);subst F;cases neg
   ·have xI:=run_eql_struct (P:=P) w t xs.toArray r.toArray;rw[dH] at xI;simp only[execOp,b4,↓reduceIte,ex,B,Sem.run_bind,g,Result.andThen_ok,xI,Sem.run_pure,cond_false]
   ·have xI:=run_neq_struct (P:=P) w t xs.toArray r.toArray;rw[dH] at xI;simp only[execOp,↓reduceIte,ex,B,Sem.run_bind,g,Result.andThen_ok,xI,Sem.run_pure,bH]
 ·cases h
end
theorem ri{P:Program}{w:World}(d:Nat){t e:TypeId}{k:IntKind}(ed:P.underlying t=some (.array 2 e))(he:P.underlying e=some (.int k))(a7:fg P e=some 1){k0 k1:IntKind}(u y Mt xI:Int):
  (Op.equalIn (d+2) t (.agg #[.int k0 u,.int k1 y]) (.agg #[.int k0 Mt,.int k1 xI])).run P w=.ok (u==Mt&&y==xI) w:=by
 have e3:(sizeOf e).run P w=.ok 1 w:=eE a7 w;have A:kU P e=some false:=by simp [kU,he,AX]
 have p:∀(xs:Array Value) (i:Nat) (v:Value),xs[i]? =some v→(part e xs i).run P w=.ok v w:=fun xs i v h=>by simp [part,jg A,h]
 obtain⟨fQ,cP⟩:∃fQ,fQ=d+1:=⟨_,rfl⟩;have r:∀(k0:IntKind) (a b:Int),(Op.equalIn fQ e (.int k0 a) (.int k0 b)).run P w=.ok (a==b) w:=fun k0 a b=>by rw[cP];exact run_equalIn_int w d e k0 k a b he
 rw[show d+2=fQ+1 by omega];simp only[Op.equalIn,Sem.run_bind,run_underlying ed,Result.andThen_ok,e3];simp only[Std.Legacy.Range.forIn_eq_forIn_range',Std.Legacy.Range.size,List.range',Nat.sub_zero,Nat.add_sub_cancel,Nat.div_one,List.forIn_cons,List.forIn_nil,Sem.run_bind,Nat.mul_one,bf,Nat.reduceAdd,Nat.reduceSub,Nat.reduceDiv];rw[p _ 0 (.int k0 u) rfl];simp only[Result.andThen_ok];rw[p _ 0 (.int k0 Mt) rfl];simp only[Result.andThen_ok];rw[r];cases eS:u==Mt with
 |false=>simp
 |true=>simp only[Result.andThen_ok,hk,b4,↓reduceIte,Sem.run_pure,Sem.run_bind];rw[p _ 1 (.int k1 y) rfl];simp only[Result.andThen_ok];rw[p _ 1 (.int k1 xI) rfl];simp only[Result.andThen_ok];rw[r];cases ar:y==xI<;> simp
section
variable{P:Program}{ty:TypeId}{ρ:Operand→Value}{κ:bj}{s:ag}{w:World}
theorem zq{T:kN}(eN:T.pQ P)(a7:c5 κ s w){k0 k1:IntKind}{b neg:Bool}{v u:ae}{t yt:TypeId}{x y:Operand}{e:TypeId}{k:IntKind}{op:BinOp}(J:op=if neg then .neq else .eql)(ed:P.underlying t=some (.array 2 e))(he:T.eqs t=true)(hu:P.underlying e=some (.int k))(g8:fg P e=some 1)
  (a5:dC κ (s.aa+1) (v.ap s.aa) (ρ x))(eM:dC κ (s.aa+1) (u.ap s.aa) (ρ y))(h:o1 (.agg [.int k0,.int k1]) v u=some b):dN P (.binOp op t x y yt) ty ρ κ s w (.bool (bif neg then !b else b)) s:=by
 obtain⟨ar,av⟩:=eN.eqs t he;rw[←vh (d:=s.aa)] at h;generalize M:v.ap s.aa=fL at *;generalize N:u.ap s.aa=O at *;simp only[o1] at h;split at h
 ·rename_i cs h9;cases B:fc [.int k0,.int k1] cs&&fc [.int k0,.int k1] h9 with
  |false=>rw[B] at h;cases h
  |true=>
   rw[B] at h;rw[bl] at B;have I:∀cs,fc [.int k0,.int k1] cs=true→∃r A,cs=[.int k0 r,.int k1 A]:=fun cs h=>by
    match cs with
    |[]=>simp [fc] at h
    |[c]=>cases c<;> simp [fc] at h
    |c::n2::l=>
     cases c<;> simp [fc] at h;cases n2<;> simp [fc] at h;obtain⟨rfl,rfl,bV⟩:=h;cases l with
     |nil=>exact⟨_,_,rfl⟩
     |cons _ _=>simp [fc] at bV
   obtain⟨r,A,rfl⟩:=I cs B.1;obtain⟨Mt,xI,rfl⟩:=I h9 B.2;obtain⟨xs,ex,f7⟩:=a5.mB;obtain⟨U,H,K⟩:=eM.mB;have two:∀(r A:Int) (xs:List Value),eu κ (s.aa+1) [.int k0 r,.int k1 A] xs→xs=[.int k0 r,.int k1 A]:=fun r A xs h=>by
    match xs,h with
    |[iC,bT],h=>rw[(h.2 0 _ _ rfl rfl).eD,(h.2 1 _ _ rfl rfl).eD]
   rw[two _ _ _ f7] at ex;rw[two _ _ _ K] at H;simp only[jd,↓reduceIte,ej,Bool.and_true,bH,bm] at h;have run:=ri (P:=P) (w:=w) 9998 ed hu g8 (k0:=k0) (k1:=k1) r A Mt xI;have g:=fun op=>run_eqGuard_agg (P:=P) w op t x y #[.int k0 r,.int k1 A] #[.int k0 Mt,.int k1 xI] av
   refine bG a7 _ (fun dst pos after guard=>?_) (.bool _);subst J;cases neg
   ·have F:=run_eql_struct (P:=P) w t #[.int k0 r,.int k1 A] #[.int k0 Mt,.int k1 xI];rw[run] at F;simp only[execOp,b4,↓reduceIte,ex,H,Sem.run_bind,g,Result.andThen_ok,F,Sem.run_pure,cond_false,←h]
   ·have F:=run_neq_struct (P:=P) w t #[.int k0 r,.int k1 A] #[.int k0 Mt,.int k1 xI];rw[run] at F;simp only[execOp,↓reduceIte,ex,H,Sem.run_bind,g,Result.andThen_ok,F,Sem.run_pure,bH,←h]
 ·cases h
end
theorem Bi{κ:bj}{D d:Nat}{v:ae}{x:Value}(bM:dC κ D (v.ap d) x):dC κ D ((n5 v).ap d) x:=by
 unfold n5;split
 ·rename_i sz es a;cases aU:ae.aZ es with
  |false=>exact bM
  |true=>
   simp only[bH];simp only[ae.ap] at bM ⊢;rcases bM.hE with⟨_,av,_⟩|⟨fY,cap,dt,rfl,cb,dm,h,dD,y,r,u⟩
   ·simp [eZ.ap] at av
   ·exact .bW _ _ _ _ _ dt trivial dm h dD (.inl fun e he=>ef.1 aU e he) r u
 ·exact bM
theorem Ez(s:ag)(v:ae):(zb s v).ap s.aa=v.ap s.aa:=by
 unfold zb;split
 ·rename_i d i o l c z;cases e:Nat.beq d s.aa with
  |false=>rfl
  |true=>have:=dh e;subst this;rfl
 ·rfl
section
variable{P:Program}{T:kN}(eN:T.pQ P){ty:TypeId}{κ:bj}{s:ag}{w:World}(a7:c5 κ s w){E:Env}(bs:E.F=.not)(hY:m4 P E){ao:Nat→ae}{a:Act}(b2:xo κ s ao a)(dV:ko κ E.au){k kp:ae→ag→ah}{r:ah}(br:r≠.fail)
include a7 bs b2 dV br
theorem oc{v:Option ae}(h:qV E s k v=r):∃fL,v=some fL∧k fL s=r:=by
 cases v with
 |none=>exact absurd h.symm br
 |some fL=>simp only[qV,bs,aX.not] at h;exact⟨fL,rfl,h⟩
theorem EA{o:BinOp}{x y:bF}{kI uq:Operand}{t yt:TypeId}(a5:cH x kI=true)(eM:cH y uq=true)(aU:qV E s k (al o (aq E.au ao x) (aq E.au ao y))=r):∃v s',k v s'=r∧oO P (.binOp o t kI uq yt) ty a.eval κ s w v s':=by
 obtain⟨v,bM,cZ⟩:=oc a7 bs b2 dV br aU;refine⟨v,s,cZ,.inl ?_⟩;have ar:=bu b2 dV a5;have av:=bu b2 dV eM;generalize aq E.au ao x=X at ar bM;generalize aq E.au ao y=Y at av bM;unfold al at bM;split at bM
 ·exact q9 a7 ar.eD av.eD (.inl rfl) bM
 ·exact q9 a7 ar.eD av.eD (.inr rfl) bM
 ·rename_i k1 h qb u _ _;split at bM
  ·rename_i e;subst e;exact u9 a7 ar.eD av.eD bM
  ·cases bM
 ·exact va a7 ar av bM
 ·cases bM
theorem K1{o:UnOp}{x:bF}{kI:Operand}{t:TypeId}(a5:cH x kI=true)(aU:qV E s k (kn o (aq E.au ao x))=r):∃v s',k v s'=r∧oO P (.unOp o t kI) ty a.eval κ s w v s':=by
 obtain⟨v,bM,cZ⟩:=oc a7 bs b2 dV br aU;refine⟨v,s,cZ,.inl ?_⟩;have ar:=bu b2 dV a5;generalize aq E.au ao x=X at ar bM;unfold kn at bM;split at bM
 ·simp only[bm] at bM;subst bM;exact xw a7 ar.eD
 ·simp only[bm] at bM;subst bM;exact xx a7 ar.eD
 ·simp only[bm] at bM;subst bM;exact xy a7 ar.gY
 ·cases bM
theorem to{f:ae→ae→Option ae}{g:Value→Value→Sem Value}(u:∀x y z X Y,f x y=some z→dC κ (s.aa+1) x X→dC κ (s.aa+1) y Y→∃Z,(g X Y).run P w=.ok Z w∧dC κ (s.aa+1) z Z){xs:List bF}{e:List Operand}(f7:dz xs e=true)
  {o:Op}(A:∀x rest,e.map a.eval=x::rest→∀dst pos after guard,execOp a.eval ⟨dst,o,ty,pos,after,guard⟩=(do pure (.value (←rest.foldlM g x)):Sem Next))
  (aU:lb E s k f (xs.map fun x=>(aq E.au ao x).ap s.aa)=r):∃v s',k v s'=r∧oO P o ty a.eval κ s w v s':=by
 have bM:=iv b2 dV xs e f7;cases kL:xs.map (fun x=>(aq E.au ao x).ap s.aa) with
 |nil=>rw[kL] at aU;exact absurd aU.symm br
 |cons x l=>
  rw[kL] at aU bM;cases h:e.map a.eval with
  |nil=>rw[h] at bM;exact absurd bM.1 (by simp)
  |cons Y L=>rw[h] at bM;simp only[lb] at aU;obtain⟨v,ar,cZ⟩:=oc a7 bs b2 dV br aU;obtain⟨V,av,bV⟩:=ym f g u l L x v Y ar (bM.2 0 x Y rfl rfl) ⟨by have:=bM.1;simpa using this,fun j c y aY eM=>bM.2 (j+1) c y (by simpa using aY) (by simpa using eM)⟩;refine⟨v,s,cZ,.inl (bG a7 V (fun dst pos after guard=>?_) (by rw[bV.lc];exact bV))⟩;rw[A Y L h];simp [av]
theorem vp{o:Op}{ρ:Operand→Value}{v:ae}{s':ag}(cZ:k v s'=r)(h:dN P o ty ρ κ s w v s'):∃v s',k v s'=r∧oO P o ty ρ κ s w v s':=⟨v,s',cZ,.inl h⟩
theorem mW{o:Op}{ρ:Operand→Value}(h:∃v,k v s=r∧dN P o ty ρ κ s w v s):∃v s',k v s'=r∧oO P o ty ρ κ s w v s':=by obtain⟨v,ar,av⟩:=h;exact⟨v,s,ar,.inl av⟩
theorem ue{o:Op}{ρ:Operand→Value}(h:∃v s',k v s'=r∧dN P o ty ρ κ s w v s'):∃v s',k v s'=r∧oO P o ty ρ κ s w v s':=by obtain⟨v,s',ar,av⟩:=h;exact⟨v,s',ar,.inl av⟩
include hY in
theorem lX{f:Nat}{args:List ae}{xs:List Value}{o:Op}{ρ:Operand→Value}(a5:eu κ (s.aa+1) args xs)(e:∀dst pos after guard,execOp ρ ⟨dst,o,ty,pos,after,guard⟩=callFunc f xs.toArray)(aU:eA E s k kp f args=r):∃v s',k v s'=r∧oO P o ty ρ κ s w v s':=by
 unfold eA at aU;cases aY:E.call f args s with
 |fail=>rw[aY] at aU;exact absurd aU.symm br
 |panic v s'=>exact absurd aY (hY.nM _ _ _ _ _)
 |ok v s'=>rw[aY] at aU;obtain⟨_,h⟩:=c2 aU br;exact⟨v,s',h,xN hY a7 dV aY a5 e⟩
include hY in
theorem qf{f:Nat}{args:List ae}{xs:List Value}{o:Op}{ρ:Operand→Value}(a5:eu κ (s.aa+1) args xs)(h:∀dst pos after guard,execOp ρ ⟨dst,o,ty,pos,after,guard⟩=callFunc f xs.toArray)(aU:hD E s k f args=r):∃v s',k v s'=r∧oO P o ty ρ κ s w v s':=by
 unfold hD at aU;obtain⟨u,e⟩:=c2 aU br;cases aY:E.call f args {own:=[],up:=[],ro:=[]} with
 |fail=>rw[aY] at e;exact absurd e.symm br
 |panic v s'=>exact absurd aY (hY.nM _ _ _ _ _)
 |ok v s'=>rw[aY] at e;obtain⟨y,A⟩:=c2 e br;exact⟨v,s,A,vn hY a7 dV aY y a5 u h⟩
include eN hY in
theorem Bj{ac:gk}{op:Op}(h:eH T ac op=true)(aU:aM E ao s k kp ac=r):∃v s',k v s'=r∧oO P op ty a.eval κ s w v s':=by
 have h7:E.F=.not:=bs;cases ac with
 |move x=>
  simp only[aM,bs,aX.not] at aU;simp only[eH] at h;split at h
  ·exact vp a7 bs b2 dV br aU (th a7 (bu b2 dV h))
  ·exact vp a7 bs b2 dV br aU (p7 a7 (bu b2 dV h))
  ·cases h
 |nl x=>
  simp only[aM,bs,aX.not] at aU;simp only[eH] at h;split at h
  ·exact vp a7 bs b2 dV br aU (th a7 (Bi (bu b2 dV h)))
  ·exact vp a7 bs b2 dV br aU (p7 a7 (Bi (bu b2 dV h)))
  ·cases h
 |oY x=>
  simp only[aM] at aU;simp only[eH] at h;split at h
  ·exact ue a7 bs b2 dV br (re a7 bs br (fun _ _ _ _=>by simp [execOp]) (bu b2 dV h) aU)
  ·exact ue a7 bs b2 dV br (re a7 bs br (fun _ _ _ _=>by simp [execOp]) (bu b2 dV h) aU)
  ·cases h
 |pick c x y=>
  simp only[aM] at aU;simp only[eH] at h;split at h
  ·simp only[bl] at h;have aY:=bu b2 dV h.1.1;generalize aq E.au ao c=X at aY aU;cases X<;> simp only[np,bs,aX.not] at aU<;> try exact absurd aU.symm br
   exact vp a7 bs b2 dV br aU (AW a7 aY.gY (bu b2 dV h.1.2) (bu b2 dV h.2))
  ·cases h
 |alloc z=>
  simp only[aM,bs,aX.not] at aU;simp only[eH] at h;split at h
  ·exact vp a7 bs b2 dV br aU (zl a7 (eN.zero h))
  ·cases h
 |fu x=>
  simp only[aM,bs,aX.not] at aU;simp only[eH] at h;obtain⟨H,K⟩:=c2 aU br;split at h
  ·exact vp a7 bs b2 dV br K (zm a7 (bu b2 dV h) H)
  ·cases h
 |j1 x=>
  simp only[aM,bs,aX.not] at aU;simp only[eH] at h;obtain⟨H,K⟩:=c2 aU br;split at h
  ·exact vp a7 bs b2 dV br K (xF a7 (bu b2 dV h) H)
  ·cases h
 |build z eb=>
  simp only[aM] at aU;simp only[eH] at h;obtain⟨v,ar,cZ⟩:=oc a7 bs b2 dV br aU;cases ab:fj E.au s.aa ao z eb with
  |none=>rw[ab] at ar;cases ar
  |some cs=>
   rw[ab] at ar;simp only[ej,bm] at ar;subst ar;split at h
   ·rename_i t u;split at h
    ·rename_i jJ ed;split at h
     ·rename_i pl ai;simp only[bl] at h
      have:=pZ (ty:=ty) a7 b2 dV (eN.d8 _ _ ed) (eN.zero h.1) (pl:=pl.toArray) (by simpa using oN eN _ _ ai) h.2 ab;exact vp a7 bs b2 dV br cZ (by simpa using this)
     ·cases h
    ·rename_i n el ed;split at h
     ·rename_i sz e3;simp only[bl] at h
      have:=qC (ty:=ty) a7 b2 dV (eN.d8 _ _ ed) (eN.size e3) (eN.zero h.1) h.2 ab;exact vp a7 bs b2 dV br cZ (by simpa using this)
     ·cases h
    ·cases h
   ·cases h
 |buildSlice sz eb=>
  simp only[aM,hN,bs,aX.not] at aU;simp only[eH] at h;obtain⟨H,K⟩:=c2 aU br;split at h
  ·rename_i t len u;split at h
   ·rename_i el ed;simp only[bl,beq_iff_eq] at h;obtain⟨⟨⟨⟨⟨ar,av⟩,bV⟩,dD⟩,B⟩,A⟩:=h;obtain⟨J,e,dk⟩:=j6 0 eb u.toList A;have hlen:eb.length=J.length:=by
     have:∀(eb:List bF) (u:List Operand),dz eb u=true→eb.length=u.length:=by
      intro eb
      induction eb with
      |nil=>intro u h;cases u<;> simp [dz] at h ⊢
      |cons p eb V=>intro u h;cases u with
       |nil=>simp [dz] at h
       |cons q u=>simp only[dz,bl] at h;simp [V u h.2]
     exact this eb J dk
    have bN:len=J.length:=by rw[←hlen];exact dh dD
    simp only[bl,List.all_eq_true,Nat.beq_eq_true_eq] at H;have ah:=dW B
    have:=ra (ty:=ty) a7 b2 dV (eN.d8 _ _ ed) (eN.size ar) (eN.zero av) (dh bV) (by rw[←bN];omega) dk H.1 (fun e he=>⟨(H.2 e he).1,dh (H.2 e he).2⟩);rw[←e] at this;rw[bN];exact vp a7 bs b2 dV br K (by simpa using this)
   ·cases h
  ·cases h
 |load n x=>
  simp only[aM] at aU;simp only[eH] at h;split at h
  ·simp only[bl] at h;exact mW a7 bs b2 dV br (AZ a7 bs br (eN.load h.1) (bu b2 dV h.2) aU)
  ·cases h
 |store n x v=>
  simp only[aM] at aU;simp only[eH] at h;split at h
  ·simp only[bl,beq_iff_eq] at h;exact ue a7 bs b2 dV br (rb a7 bs br (eN.size h.1.1) (bu b2 dV h.1.2) (bu b2 dV h.2) aU)
  ·cases h
 |k9 m y n x v=>
  simp only[aM,lk] at aU;simp only[eH] at h;split at h
  ·simp only[bl,beq_iff_eq] at h;obtain⟨v,s',dH,I⟩:=ue a7 bs b2 dV br (rb a7 bs br (eN.size h.1.1) (bu b2 dV h.1.2) (bu b2 dV h.2) aU);exact⟨v,s',(c2 dH br).2,I⟩
  ·cases h
 |nilCheck x=>
  simp only[aM] at aU;simp only[eH] at h;split at h
  ·have a5:=bu b2 dV h;generalize aq E.au ao x=X at a5 aU;unfold je at aU;split at aU
   ·simp only[bs,aX.not] at aU;exact vp a7 bs b2 dV br aU (uc a7 a5 (by assumption))
   ·exact absurd aU.symm br
  ·cases h
 |bin o x y=>
  simp only[aM] at aU;simp only[eH] at h;split at h
  ·simp only[bl,yl,b8] at h;obtain⟨⟨rfl,av⟩,bV⟩:=h;exact EA a7 bs b2 dV br av bV aU
  ·cases h
 |eq neg e x y=>
  simp only[aM] at aU;simp only[eH] at h;obtain⟨v,ar,cZ⟩:=oc a7 bs b2 dV br aU;split at h
  ·split at h
   ·rename_i d ed;simp only[bl,yl,b8] at h;obtain⟨⟨⟨dH,av⟩,bV⟩,dD⟩:=h;cases he:o1 e (aq E.au ao x) (aq E.au ao y) with
    |none=>rw[he] at ar;cases ar
    |some b=>
     rw[he] at ar;simp only[ej,bm] at ar;subst ar;rcases(Bool.or_eq_true _ _).mp av with av|av
     ·exact vp a7 bs b2 dV br cZ (KY a7 dH (eN.d8 _ _ ed) av (bu b2 dV bV) (bu b2 dV dD) he)
     ·unfold Za at av;split at av
      ·simp only[bl] at av;exact vp a7 bs b2 dV br cZ (zp eN a7 dH (eN.d8 _ _ ed) av.1 av.2 (bu b2 dV bV) (bu b2 dV dD) he)
      ·simp only[bl,beq_iff_eq] at av;obtain⟨⟨B,A⟩,M⟩:=av;split at A
       ·rename_i hu;exact vp a7 bs b2 dV br cZ (zq eN a7 dH (eN.d8 _ _ ed) B (eN.d8 _ _ hu) (eN.size M) (bu b2 dV bV) (bu b2 dV dD) he)
       ·cases A
      ·cases av
   ·cases h
  ·cases h
 |un o x=>
  simp only[aM] at aU;simp only[eH] at h;split at h
  ·simp only[bl,b8] at h;obtain⟨rfl,av⟩:=h;exact K1 a7 bs b2 dV br av aU
  ·cases h
 |lj d x=>
  simp only[aM] at aU;simp only[eH] at h;split at h
  ·split at h
   ·rename_i N O;simp only[bl,b8] at h;obtain⟨rfl,av⟩:=h;have a5:=bu b2 dV av;generalize aq E.au ao x=X at a5 aU;cases X<;> simp only[ke,bs,aX.not] at aU<;> try exact absurd aU.symm br
    exact vp a7 bs b2 dV br aU (vb a7 (eN.d8 _ _ N) (eN.d8 _ _ O) a5.eD)
   ·cases h
  ·cases h
 |n3 x=>
  simp only[aM] at aU;simp only[eH] at h;split at h
  ·split at h
   ·rename_i N O;have a5:=bu b2 dV h;generalize aq E.au ao x=X at a5 aU;cases X<;> simp only[mo] at aU<;> try exact absurd aU.symm br
    exact vp a7 bs b2 dV br aU (xz a7 (eN.d8 _ _ N) (eN.d8 _ _ O) a5)
   ·cases h
  ·cases h
 |gN x=>
  simp only[aM] at aU;simp only[eH] at h;split at h
  ·split at h
   ·rename_i N O;split at h
    ·rename_i iH;exact mW a7 bs b2 dV br (rh a7 bs br (eN.d8 _ _ N) (eN.d8 _ _ iH) (eN.d8 _ _ O) (bu b2 dV h) aU)
    ·cases h
   ·cases h
  ·cases h
 |ja x=>
  simp only[aM] at aU;simp only[eH] at h;split at h
  ·split at h
   ·rename_i N O;split at h
    ·rename_i iH;exact mW a7 bs b2 dV br (rf a7 bs br (eN.d8 _ _ N) (eN.d8 _ _ O) (eN.d8 _ _ iH) (bu b2 dV h) aU)
    ·cases h
   ·cases h
  ·cases h
 |jL t x=>
  simp only[aM,bs,aX.not] at aU;simp only[eH] at h;split at h
  ·split at h
   ·cases h
   ·rename_i d cP ed;simp only[bl] at h
    have:=dh h.1;subst this;exact vp a7 bs b2 dV br aU (vc a7 (eN.d8 _ _ ed) (by cases d<;> first|rfl |exact absurd rfl (cP _)) (bu b2 dV h.2))
   ·cases h
  ·cases h
 |ks f dI=>
  simp only[aM,bs,aX.not] at aU;simp only[eH] at h;split at h
  ·rename_i xt first am
   simp only[bl] at h;have dH:=dh h.1.1;have I:first= #[]:=Array.eq_empty_of_size_eq_zero (dh h.1.2)
   subst dH;subst I
   have:=xG (P:=P) (ty:=ty) a7 (f:=f) b2 dV h.2;exact vp a7 bs b2 dV br aU (by simpa using this)
  ·cases h
 |makeSlice z bytes l c=>
  simp only[aM] at aU;simp only[eH] at h;split at h
  ·split at h
   ·rename_i ed;simp only[bl,beq_iff_eq] at h;obtain⟨⟨⟨⟨⟨ar,av⟩,bV⟩,dD⟩,B⟩,A⟩:=h;exact ue a7 bs b2 dV br (sS a7 bs br (eN.d8 _ _ ed) (eN.zero ar) (eN.size av) (eN.bytes bV) (by simpa [Nat.blt_eq] using dD) (bu b2 dV B) (bu b2 dV A) aU)
   ·cases h
  ·cases h
 |kt x gg bL=>
  simp only[aM] at aU;simp only[eH] at h;split at h
  ·split at h
   ·rename_i ed;simp only[bl] at h;exact mW a7 bs b2 dV br (xD a7 bs br b2 dV (eN.d8 _ _ ed) h.1.1 h.1.2 h.2 aU)
   ·cases h
  ·cases h
 |slice sz x gg bL iK=>
  simp only[aM] at aU;simp only[eH] at h;split at h
  ·split at h
   ·rename_i ed;simp only[bl,beq_iff_eq] at h;obtain⟨⟨⟨⟨⟨ar,av⟩,bV⟩,dD⟩,B⟩,A⟩:=h;exact mW a7 bs b2 dV br (zj a7 bs br b2 dV (eN.d8 _ _ ed) (eN.size ar) av bV dD B (by intro hm;rw[hm] at A;simpa using A) aU)
   ·cases h
  ·cases h
 |fieldAddr off x=>
  simp only[aM] at aU;simp only[eH] at h;split at h
  ·split at h
   ·rename_i ed;split at h
    ·rename_i ad;split at h
     ·rename_i g8;simp only[bl] at h;exact mW a7 bs b2 dV br (sP a7 bs br (eN.d8 _ _ ed) ad (dh h.1.1) (eN.size g8) (by have:=h.1.2;rw[Nat.blt_eq] at this;omega) (bu b2 dV h.2) aU)
     ·cases h
    ·cases h
   ·cases h
  ·cases h
 |field off n x=>
  simp only[aM] at aU;simp only[eH] at h;split at h
  ·split at h
   ·rename_i ed;split at h
    ·rename_i ad;simp only[bl] at h;exact mW a7 bs b2 dV br (zh a7 bs br (eN.d8 _ _ ed) ad (dh h.1.1) (eN.load h.1.2) (bu b2 dV h.2) aU)
    ·cases h
   ·cases h
  ·cases h
 |jb sz x i=>
  simp only[aM] at aU;simp only[eH] at h;split at h
  ·split at h
   ·rename_i ed;simp only[bl,beq_iff_eq] at h;exact mW a7 bs b2 dV br (zi a7 bs br (eN.d8 _ _ ed) (eN.size h.1.1) (bu b2 dV h.1.2) (bu b2 dV h.2) aU)
   ·cases h
  ·cases h
 |fv sz len x i=>
  simp only[aM] at aU;simp only[eH] at h;split at h
  ·split at h
   ·rename_i ed;simp only[bl,beq_iff_eq] at h
    have:=dh h.1.1.1;subst this;exact mW a7 bs b2 dV br (xC a7 bs br (eN.d8 _ _ ed) (eN.size h.1.1.2) (bu b2 dV h.1.2) (bu b2 dV h.2) aU)
   ·cases h
  ·cases h
 |mY x i=>
  simp only[aM] at aU;simp only[eH] at h;split at h
  ·split at h
   ·rename_i ed;simp only[bl] at h;exact mW a7 bs b2 dV br (xB a7 bs br (eN.d8 _ _ ed) (bu b2 dV h.1) (bu b2 dV h.2) aU)
   ·cases h
  ·cases h
 |n4 sz len n x i=>
  simp only[aM] at aU;simp only[eH] at h;split at h
  ·split at h
   ·rename_i ed;simp only[bl,beq_iff_eq] at h
    have:=dh h.1.1.1.1;subst this;exact mW a7 bs b2 dV br (xA a7 bs br (eN.d8 _ _ ed) (eN.size h.1.1.1.2) (eN.load h.1.1.2) (bu b2 dV h.1.2) (bu b2 dV h.2) aU)
   ·cases h
  ·cases h
 |extract x i=>
  simp only[aM] at aU;simp only[eH] at h;split at h
  ·simp only[bl] at h
   have:=dh h.1;subst this;have a5:=bu b2 dV h.2;generalize aq E.au ao x=X at a5 aU;cases X<;> simp only[kd] at aU<;> try exact absurd aU.symm br
   rename_i vs;obtain⟨v,ar,cZ⟩:=oc a7 bs b2 dV br aU;obtain⟨xs,ex,bN,bM⟩:=dC.u6 (x:=a.eval _) a5;have bL:=(ec.1 ar).1;exact vp a7 bs b2 dV br cZ (vd a7 a5 ar ((bM i v _ ar (ei (by omega:i<xs.length))).lc _))
  ·cases h
 |call f xs=>
  simp only[aM,bs,aX.not] at aU;simp only[eH] at h;split at h
  ·rename_i c;split at h
   ·rename_i xt aY;simp only[bl] at h
    have:=dh h.1;subst this;exact lX a7 bs hY b2 dV br (iv b2 dV _ _ h.2) (fun dst pos after guard=>by rw[kW ⟨_,aY,rfl⟩];simp) aU
   ·cases h
  ·cases h
 |hl f xs=>
  simp only[aM,bs,aX.not] at aU;simp only[eH] at h;split at h
  ·rename_i c;split at h
   ·rename_i xt aY;simp only[bl] at h
    have:=dh h.1;subst this;exact qf a7 bs hY b2 dV br (iv b2 dV _ _ h.2) (fun dst pos after guard=>by rw[kW ⟨_,aY,rfl⟩];simp) aU
   ·cases h
  ·cases h
 |eA g xs=>
  simp only[aM] at aU;simp only[eH] at h;split at h
  ·rename_i c;split at h
   ·rename_i g' aY;simp only[bl] at h;have a5:=bu b2 dV h.1;generalize aq E.au ao g=X at a5 aU;cases X<;> simp only[la,bs,aX.not] at aU<;> try exact absurd aU.symm br
    obtain⟨J,Y,bM⟩:=dC.uu (x:=a.eval _) a5;exact lX a7 bs hY b2 dV br ((iv b2 dV _ _ h.2).append bM) (fun dst pos after guard=>by rw[kW ⟨_,aY,Y⟩]) aU
   ·cases h
  ·cases h
 |lM g xs=>
  simp only[aM] at aU;simp only[eH] at h;split at h
  ·rename_i c;split at h
   ·rename_i g' aY;simp only[bl] at h;have a5:=bu b2 dV h.1;generalize aq E.au ao g=X at a5 aU;cases X<;> simp only[jT,bs,aX.not] at aU<;> try exact absurd aU.symm br
    obtain⟨J,Y,bM⟩:=dC.uu (x:=a.eval _) a5;exact qf a7 bs hY b2 dV br ((iv b2 dV _ _ h.2).append bM) (fun dst pos after guard=>by rw[kW ⟨_,aY,Y⟩]) aU
   ·cases h
  ·cases h
 |len b x=>
  simp only[aM] at aU;simp only[eH] at h;split at h
  ·split at h
   ·rename_i ed;simp only[bl] at h;exact mW a7 bs b2 dV br (ve a7 bs br (eN.d8 _ _ ed) (.inl ⟨h.1,rfl⟩) (bu b2 dV h.2) aU)
   ·rename_i el ed;simp only[bl,Bool.not_eq_true'] at h;exact mW a7 bs b2 dV br (ve a7 bs br (eN.d8 _ _ ed) (.inr ⟨h.1,el,rfl⟩) (bu b2 dV h.2) aU)
   ·cases h
  ·cases h
 |append sz bytes at_ x y=>
  simp only[aM,gj] at aU;simp only[eH] at h;split at aU
  rotate_left
  ·exact absurd aU.symm br
  split at h
  ·rename_i kI uq t t2;split at h
   ·rename_i el ed;split at h
    ·rename_i n b z bL;simp only[bl] at h;obtain⟨⟨⟨⟨⟨⟨⟨ar,av⟩,bV⟩,dD⟩,B⟩,A⟩,M⟩,U⟩:=h;have dH:=dh av;have I:=dh bV;subst dH;subst I;refine ue a7 bs b2 dV br (qc a7 bs br (z:=z) ⟨eN.d8 _ _ ed,?_,eN.info _ _ _ _ bL,dh dD,by simpa [Nat.blt_eq] using B,dW A⟩ (bu b2 dV M) (bu b2 dV U) aU);split at ar
     ·rename_i lW;exact .inl ⟨_,eN.d8 _ _ lW⟩
     ·rename_i lW;exact .inr (eN.d8 _ _ lW)
     ·cases ar
    ·cases h
   ·cases h
  ·cases h
 |jM sz bytes at_ x y=>
  simp only[aM,kP] at aU;split at aU
  rotate_left
  ·exact absurd aU.symm br
  rename_i aj;rw[←aj] at aU;simp only[gj] at aU;simp only[eH] at h;split at aU
  rotate_left
  ·exact absurd aU.symm br
  split at h
  ·rename_i kI uq t t2;split at h
   ·rename_i el ed;split at h
    ·rename_i n b z bL;simp only[bl] at h;obtain⟨⟨⟨⟨⟨⟨⟨ar,av⟩,bV⟩,dD⟩,B⟩,A⟩,M⟩,U⟩:=h;have dH:=dh av;have I:=dh bV;subst dH;subst I;refine ue a7 bs b2 dV br (qc a7 bs br (z:=z) ⟨eN.d8 _ _ ed,?_,eN.info _ _ _ _ bL,dh dD,by simpa [Nat.blt_eq] using B,dW A⟩ (bu b2 dV M) (bu b2 dV U) aU);split at ar
     ·rename_i lW;exact .inl ⟨_,eN.d8 _ _ lW⟩
     ·rename_i lW;exact .inr (eN.d8 _ _ lW)
     ·cases ar
    ·cases h
   ·cases h
  ·cases h
 |jN sz bytes at_ x y=>
  simp only[aM,mq] at aU;simp only[eH] at h;split at aU
  rotate_left
  ·exact absurd aU.symm br
  split at h
  ·rename_i kI uq t t2;split at h
   ·rename_i el ed;split at h
    ·rename_i n b z bL;simp only[bl] at h;obtain⟨⟨⟨⟨⟨⟨⟨ar,av⟩,bV⟩,dD⟩,B⟩,A⟩,M⟩,U⟩:=h;have dH:=dh av;have I:=dh bV;subst dH;subst I;refine ue a7 bs b2 dV br (vk a7 bs br (z:=z) ⟨eN.d8 _ _ ed,?_,eN.info _ _ _ _ bL,dh dD,by simpa [Nat.blt_eq] using B,dW A⟩ (bu b2 dV M) (bu b2 dV U) aU);split at ar
     ·rename_i lW;exact .inl ⟨_,eN.d8 _ _ lW⟩
     ·rename_i lW;exact .inr (eN.d8 _ _ lW)
     ·cases ar
    ·cases h
   ·cases h
  ·cases h
 |jO sz bytes x y=>
  simp only[aM] at aU;simp only[eH] at h;split at h
  ·rename_i kI uq t t2;split at h
   ·rename_i el ed;split at h
    ·rename_i n b z bL;simp only[bl] at h;obtain⟨⟨⟨⟨⟨⟨⟨ar,av⟩,bV⟩,dD⟩,B⟩,A⟩,M⟩,U⟩:=h;have dH:=dh av;have I:=dh bV;subst dH;subst I;refine ue a7 bs b2 dV br (vo a7 bs br (z:=z) ⟨eN.d8 _ _ ed,?_,eN.info _ _ _ _ bL,dh dD,by simpa [Nat.blt_eq] using B,dW A⟩ (by rw[Ez];exact bu b2 dV M) (bu b2 dV U) aU);split at ar
     ·rename_i lW;exact .inl ⟨_,eN.d8 _ _ lW⟩
     ·rename_i lW;exact .inr (eN.d8 _ _ lW)
     ·cases ar
    ·cases h
   ·cases h
  ·cases h
 |gD sz eb=>
  simp only[aM,jR,bs,aX.not] at aU;simp only[eH] at h;obtain⟨H,K⟩:=c2 aU br;split at h
  ·rename_i t len u;split at h
   ·rename_i el ed;simp only[bl,beq_iff_eq] at h;obtain⟨⟨⟨⟨⟨ar,av⟩,bV⟩,dD⟩,B⟩,A⟩:=h;obtain⟨J,e,dk⟩:=j6 0 eb u.toList A;have hlen:eb.length=J.length:=by
     have:∀(eb:List bF) (u:List Operand),dz eb u=true→eb.length=u.length:=by
      intro eb
      induction eb with
      |nil=>intro u h;cases u<;> simp [dz] at h ⊢
      |cons p eb V=>intro u h;cases u with
       |nil=>simp [dz] at h
       |cons q u=>simp only[dz,bl] at h;simp [V u h.2]
     exact this eb J dk
    have bN:len=J.length:=by rw[←hlen];exact dh dD
    simp only[bl,List.all_eq_true,Nat.beq_eq_true_eq] at H;have ah:=dW B
    have:=qD (ty:=ty) a7 b2 dV (eN.d8 _ _ ed) (eN.size ar) (eN.zero av) (dh bV) (by rw[←bN];omega) dk rfl H.1 (fun e he=>⟨(H.2 e he).1,dh (H.2 e he).2⟩);rw[←e] at this;rw[bN];exact vp a7 bs b2 dV br K (by simpa using this)
   ·cases h
  ·cases h
 |gE sz eb=>
  simp only[aM,jS,bs,aX.not] at aU;simp only[eH] at h;obtain⟨H,K⟩:=c2 aU br;split at h
  ·rename_i t len u;split at h
   ·rename_i el ed;simp only[bl,beq_iff_eq] at h;obtain⟨⟨⟨⟨⟨ar,av⟩,bV⟩,dD⟩,B⟩,A⟩:=h;obtain⟨J,e,dk⟩:=j6 0 eb u.toList A;have hlen:eb.length=J.length:=by
     have:∀(eb:List bF) (u:List Operand),dz eb u=true→eb.length=u.length:=by
      intro eb
      induction eb with
      |nil=>intro u h;cases u<;> simp [dz] at h ⊢
      |cons p eb V=>intro u h;cases u with
       |nil=>simp [dz] at h
       |cons q u=>simp only[dz,bl] at h;simp [V u h.2]
     exact this eb J dk
    have bN:len=J.length:=by rw[←hlen];exact dh dD
    simp only[bl,List.all_eq_true,Nat.beq_eq_true_eq] at H;have ah:=dW B
    have:=qE (ty:=ty) a7 b2 dV (eN.d8 _ _ ed) (eN.size ar) (eN.zero av) (dh bV) (by rw[←bN];omega) dk rfl (fun e he=>⟨(H e he).1,dh (H e he).2⟩);rw[←e] at this;rw[bN];exact vp a7 bs b2 dV br K (by simpa using this)
   ·cases h
  ·cases h
 |iV sz len x gg bL iK=>
  simp only[aM] at aU;simp only[eH] at h;split at h
  ·split at h
   ·rename_i ed;simp only[bl,beq_iff_eq] at h;obtain⟨⟨⟨⟨⟨⟨eS,ar⟩,av⟩,bV⟩,dD⟩,B⟩,A⟩:=h
    have:=dh eS;subst this;exact mW a7 bs b2 dV br (xE a7 bs br b2 dV (eN.d8 _ _ ed) (eN.size ar) av bV dD B (by intro hm;rw[hm] at A;simpa using A) aU)
   ·cases h
  ·cases h
 |copy sz x y=>
  simp only[aM] at aU;simp only[eH] at h;split at h
  ·rename_i kI uq t t2;split at h
   ·rename_i el ed;simp only[bl,beq_iff_eq] at h;have a5:=bu b2 dV h.1.2;generalize aq E.au ao x=X at a5 aU;cases X<;> simp only[lQ] at aU<;> try exact absurd aU.symm br
    rename_i Sh off len cap q;obtain⟨fE,K⟩:=c2 aU br
    have:=dh fE;subst this;exact ue a7 bs b2 dV br (Be a7 bs br (eN.d8 _ _ ed) (eN.size h.1.1) (fun fY an ap aw qx e=>by cases e;rfl) a5 (bu b2 dV h.2) K)
   ·cases h
  ·cases h
 |min xs=>
  simp only[aM] at aU;simp only[eH] at h;split at h
  ·rename_i c;split at h
   ·rename_i aY;refine to a7 bs b2 dV br (g:=Builtin.min2) KZ h (fun x rest ae dst pos after guard=>?_) aU;have af:(c.args.map a.eval).toList=x::rest:=by rw[Array.toList_map];exact ae
    simp only[execOp,resolve,aY,pure_bind,invoke,builtin,Builtin.min_,af]
   ·cases h
  ·cases h
 |max xs=>
  simp only[aM] at aU;simp only[eH] at h;split at h
  ·rename_i c;split at h
   ·rename_i aY;refine to a7 bs b2 dV br (g:=Builtin.max2) K0 h (fun x rest ae dst pos after guard=>?_) aU;have af:(c.args.map a.eval).toList=x::rest:=by rw[Array.toList_map];exact ae
    simp only[execOp,resolve,aY,pure_bind,invoke,builtin,Builtin.max_,af]
   ·cases h
  ·cases h
 |makeMap at_=>
  simp only[aM] at aU;simp only[eH] at h;split at h
  ·exact ue a7 bs b2 dV br (vm a7 bs br aU)
  ·cases h
 |mZ kJ m x v=>
  simp only[aM] at aU;simp only[eH] at h;have key:∀{t:TypeId} {jv kI fL:Operand} {o:Op},(match T.d8 t with
   |some (.map ag _)=>
    match T.d8 ag with
    |some d=>kM kJ d&&cH m jv&&cH x kI&&cH v fL
    |none=>false
   |_=>false)=true→(∀dst pos after guard,execOp a.eval ⟨dst,o,ty,pos,after,guard⟩=(do Instr.mapUpdate t (a.eval jv) (a.eval kI) (a.eval fL);pure .skip:Sem Next))→∃v s',k v s'=r∧oO P o ty a.eval κ s w v s':=by
   intro t jv kI fL o h ak;split at h
   ·rename_i ag al ed;split at h
    ·rename_i d cP;simp only[bl] at h;exact ue a7 bs b2 dV br (xK a7 bs br (eN.d8 _ _ ed) (eN.d8 _ _ cP) h.1.1.1 (bu b2 dV h.1.1.2) (bu b2 dV h.1.2) (bu b2 dV h.2) ak aU)
    ·cases h
   ·cases h
  split at h
  ·exact key h (fun _ _ _ _=>rfl)
  ·exact key h (fun _ _ _ _=>rfl)
  ·cases h
 |lookup kJ z ok m x=>
  simp only[aM] at aU;simp only[eH] at h;split at h
  ·split at h
   ·rename_i ag al ed;split at h
    ·rename_i d n b Z cP bL;simp only[bl,beq_iff_eq] at h;obtain⟨⟨⟨⟨ar,av⟩,bV⟩,dD⟩,B⟩:=h;subst bV;obtain⟨i,i1,_,_,i2⟩:=eN.info _ _ _ _ bL;exact mW a7 bs b2 dV br (xL a7 bs br (eN.d8 _ _ ed) (eN.d8 _ _ cP) ar i1 i2 av (bu b2 dV dD) (bu b2 dV B) aU)
    ·cases h
   ·cases h
  ·cases h
 |lA iq f xs=>
  simp only[aM,bs,aX.not] at aU;simp only[eH] at h;split at h
  ·rename_i c;split at h
   ·rename_i xt aY;simp only[bl] at h
    have:=dh h.1;subst this;obtain⟨v,s',dH,I⟩:=lX (ty:=ty) (ρ:=a.eval) (o:=.call c) a7 bs hY b2 dV br (iv b2 dV _ _ h.2) (fun dst pos after guard=>by rw[kW ⟨_,aY,rfl⟩];simp) aU;exact⟨v,s',c2 dH br |>.2,I⟩
   ·cases h
  ·cases h
 |j2 iq g xs=>
  simp only[aM] at aU;simp only[eH] at h;split at h
  ·rename_i c;split at h
   ·rename_i g' aY;simp only[bl] at h;have a5:=bu b2 dV h.1;generalize aq E.au ao g=X at a5 aU;cases X<;> simp only[kw,bs,aX.not] at aU<;> try exact absurd aU.symm br
    obtain⟨J,Y,bM⟩:=dC.uu (x:=a.eval _) a5;obtain⟨v,s',dH,I⟩:=lX (ty:=ty) (ρ:=a.eval) (o:=.call c) a7 bs hY b2 dV br ((iv b2 dV _ _ h.2).append bM) (fun dst pos after guard=>by rw[kW ⟨_,aY,Y⟩]) aU;exact⟨v,s',c2 dH br |>.2,I⟩
   ·cases h
  ·cases h
 |uS neg x=>
  simp only[aM] at aU;simp only[eH] at h;obtain⟨v,ar,cZ⟩:=oc a7 bs b2 dV br aU;split at h
  ·split at h
   ·rename_i ed;simp only[bl,yl,b8] at h;exact vp a7 bs b2 dV br cZ (Bd a7 h.1 (eN.d8 _ _ ed) (bu b2 dV h.2) rfl ar)
   ·cases h
  ·cases h
 |no=>exact absurd aU.symm br
end
def ah.bind(r:ah)(k kp:ae→ag→ah):ah:=
 match r with
 |.ok v s=>k v s
 |.panic v s=>kp v s
 |.fail=>.fail
section
variable{E:Env}(bs:E.F=.not)(ao:Nat→ae)(s:ag)(k kp:ae→ag→ah)
include bs
theorem lp(v:Option ae):qV E s k v=ah.bind (qV E s .ok v) k kp:=by cases v<;> simp [qV,bs,aX.not,ah.bind]
theorem m5(m:Option Nat)(cs:List ae):eU E s k m cs=ah.bind (eU E s .ok m cs) k kp:=by
 cases m<;> simp only[eU,bs,aX.not]
 ·cases cs<;> rfl
 ·cases Nat.ble _ _<;> rfl
theorem zr(a:Loc)(off:Nat)(vs:List ae):h1 E s k a off vs=ah.bind (h1 E s .ok a off vs) k kp:=by
 simp only[h1,bs,aX.not];cases s.get a with
 |none=>rfl
 |some o=>
  cases o<;> try rfl
  simp only;cases(_&&_:Bool)<;> try rfl
  simp only[bH];cases s.set a _<;> rfl
theorem xP(x:ae)(gg bL:Option bF):jQ E ao s k x gg bL=ah.bind (jQ E ao s .ok x gg bL) k kp:=by
 cases x<;> simp only[jQ,bs,aX.not]<;> try rfl
 cases dG E.au ao gg 0<;> try rfl
 cases dG E.au ao bL _<;> try rfl
 simp only;cases(_&&_:Bool)<;> rfl
theorem zs(z:Nat)(x:ae)(gg bL iK:Option bF):j3 E ao s k z x gg bL iK=ah.bind (j3 E ao s .ok z x gg bL iK) k kp:=by
 cases x<;> simp only[j3,bs,aX.not]<;> try rfl
 ·cases dG E.au ao gg 0<;> try rfl
  cases dG E.au ao bL _<;> try rfl
  cases iK with
  |none=>simp only;cases(_&&_:Bool)<;> rfl
  |some x=>
   simp only;rename_i g _ _;cases e1 (aq E.au ao x)<;> cases g<;> try rfl
   all_goals simp only;cases(_&&_:Bool)<;> rfl
 ·cases dG E.au ao gg 0<;> try rfl
  cases dG E.au ao bL _<;> try rfl
  cases dG E.au ao iK _<;> try rfl
  simp only;cases(_&&_:Bool)<;> rfl
theorem vq(q bytes:Nat)(b:Loc)(x y:ae):kb E s k q bytes b x y=ah.bind (kb E s .ok q bytes b x y) k kp:=by
 simp only[kb,bs,aX.not];cases y<;> try rfl
 rename_i z new _;cases x<;> try rfl
 rename_i sz es g;simp only;cases(_&&_:Bool)<;> try rfl
 simp only[bH];cases new<;> try rfl
 cases g<;> try rfl
 ·simp only;cases sH s b _<;> try rfl
  simp only[bH];cases s.hn b _<;> rfl
 ·simp only;rename_i a;cases s.get a<;> try rfl
  rename_i o;cases o<;> try rfl
  simp only;cases(_&&_:Bool)<;> try rfl
  simp only[bH];cases s.set a _<;> rfl
theorem xQ(z n:Nat)(x:ae)(gg bL iK:Option bF):iD E ao s k z n x gg bL iK=ah.bind (iD E ao s .ok z n x gg bL iK) k kp:=by
 cases x<;> simp only[iD,bs,aX.not]<;> try rfl
 cases dG E.au ao gg 0<;> try rfl
 cases dG E.au ao bL _<;> try rfl
 cases dG E.au ao iK _<;> try rfl
 simp only;cases(_&&_:Bool)<;> rfl
theorem qg(q bytes:Nat)(b:Loc)(x y:ae):hL E s k q bytes b x y=ah.bind (hL E s .ok q bytes b x y) k kp:=by
 simp only[hL,bs,aX.not];cases dv s y with
 |none=>rfl
 |some p=>
  obtain⟨z,new⟩:=p;cases x<;> try rfl
  ·rename_i sz es g;simp only;cases(_&&_:Bool)<;> try rfl
   simp only[bH];cases new<;> try rfl
   cases g<;> try rfl
   ·simp only;cases s.hn b _<;> rfl
   ·simp only;cases s.hn b _<;> rfl
   rename_i a;simp only;cases s.get a<;> try rfl
   rename_i o;cases o<;> try rfl
   simp only;cases(_&&_:Bool)<;> try rfl
   simp only[bH];cases s.set a _<;> rfl
  ·rename_i a off len cap sz;simp only;cases s.get a<;> try rfl
   rename_i o;cases o<;> try rfl
   simp only;cases(_&&_:Bool)<;> try rfl
   simp only[bH];cases s.set a _<;> rfl
theorem xR(kJ:xr)(m x v:ae):ll E s k kJ m x v=ah.bind (ll E s .ok kJ m x v) k kp:=by
 cases m<;> simp only[ll,bs,aX.not]<;> try rfl
 cases s.get _<;> try rfl
 rename_i o;cases o<;> try rfl
 simp only;cases(_&&_:Bool)<;> try rfl
 simp only[bH];cases putKey x v _<;> try rfl
 simp only;cases s.set _ _<;> rfl
theorem xS(kJ:xr)(z:ae)(ok:Bool)(m x:ae):lm E s k kJ z ok m x=ah.bind (lm E s .ok kJ z ok m x) k kp:=by
 simp only[lm,bs,aX.not];cases isKey kJ x<;> try rfl
 simp only[bH];cases entriesOf s m<;> try rfl
 simp only;cases findKey x _<;> try rfl
 rename_i o;cases o<;> rfl
theorem EB(sz:Nat)(x i:ae):kK E s k sz x i=ah.bind (kK E s .ok sz x i) k kp:=by
 simp only[kK,bs,aX.not];cases e1 i<;> try rfl
 cases x<;> try rfl
 ·simp only;cases Nat.beq _ _<;> try rfl
  simp only[bH];rename_i es _;split<;> rfl
 ·simp only;cases(_&&_:Bool)<;> rfl
theorem xT(sz len:Nat)(x i:ae):hM E s k sz len x i=ah.bind (hM E s .ok sz len x i) k kp:=by
 simp only[hM,bs,aX.not];cases e1 i<;> try rfl
 simp only;cases Nat.blt _ _<;> try rfl
 cases x<;> rfl
theorem tp(f:Nat)(args:List ae):eA E s k kp f args=ah.bind (eA E s .ok .panic f args) k kp:=by
 simp only[eA];cases E.call f args s<;> try rfl
 simp only;cases Nat.beq _ _<;> rfl
theorem rj(xs:List (Option Nat×ae))(f:Nat)(args:List ae):h2 E s k kp xs f args=ah.bind (h2 E s .ok .panic xs f args) k kp:=by
 simp only[h2,eA];cases E.call f args s<;> try rfl
 simp only;cases Nat.beq _ _<;> try rfl
 simp only[bH];cases xs.all _<;> rfl
theorem rk(f:Nat)(args:List ae):hD E s k f args=ah.bind (hD E s .ok f args) k kp:=by
 simp only[hD];cases ae.aZ args<;> try rfl
 simp only[bH];cases E.call f args _<;> try rfl
 rename_i v _;simp only;cases v.bc<;> rfl
theorem zt(n:Option Nat)(v:ae):dY E s k n v=ah.bind (dY E s .ok n v) k kp:=by
 cases v<;> simp only[dY]<;> try rfl
 ·rename_i a off;cases s.get a<;> try rfl
  rename_i o;cases o<;> try rfl
  exact m5 bs s k kp _ _
 ·exact m5 bs s k kp _ _
theorem sT(off:Nat)(v:ae):gP E s k off v=ah.bind (gP E s .ok off v) k kp:=by cases v<;> simp only[gP,bs,aX.not]<;> rfl
theorem zu(off:Nat)(n:Option Nat)(v:ae):lP E s k off n v=ah.bind (lP E s .ok off n v) k kp:=by
 cases v<;> simp only[lP]<;> try rfl
 exact m5 bs s k kp _ _
theorem xU(v i:ae):h6 E s k v i=ah.bind (h6 E s .ok v i) k kp:=by
 cases v<;> simp only[h6,bs,aX.not]<;> try rfl
 cases e1 i<;> try rfl
 simp only;split<;> rfl
theorem xV(sz len:Nat)(n:Option Nat)(v i:ae):kv E s k sz len n v i=ah.bind (kv E s .ok sz len n v i) k kp:=by
 cases v<;> simp only[kv]<;> try rfl
 cases e1 i<;> try rfl
 simp only;cases Nat.blt _ _<;> try rfl
 exact m5 bs s k kp _ _
theorem vr(i:Nat)(v:ae):kd E s k i v=ah.bind (kd E s .ok i v) k kp:=by
 cases v<;> simp only[kd]<;> try rfl
 exact lp bs s k kp _
theorem EC(b:Bool)(v:ae):p5 E s k b v=ah.bind (p5 E s .ok b v) k kp:=by cases b<;> cases v<;> simp only[p5,bs,aX.not]<;> rfl
theorem Bk(d x:ae):copyV E s k d x=ah.bind (copyV E s .ok d x) k kp:=by
 cases d<;> simp only[copyV,bs,aX.not]<;> try rfl
 rename_i a off len cap sz;cases dv s x<;> try rfl
 simp only;cases s.get a<;> try rfl
 rename_i o;cases o<;> try rfl
 simp only;cases(_&&_:Bool)<;> try rfl
 simp only[bH];cases s.set a _<;> rfl
theorem zv(q:Nat)(d x:ae):lQ E s k q d x=ah.bind (lQ E s .ok q d x) k kp:=by
 cases d<;> simp only[lQ]<;> try rfl
 cases Nat.beq _ _<;> first|rfl |skip
 simp only[bH];exact Bk bs s k kp _ _
theorem Bl(zero:List ae)(bytes:Nat)(l c:ae):nn E s k zero bytes l c=ah.bind (nn E s .ok zero bytes l c) k kp:=by
 simp only[nn,bs,aX.not];cases e1 l<;> try rfl
 cases e1 c<;> try rfl
 simp only;cases(_&&_:Bool)<;> rfl
theorem ld(n:Nat)(a v:ae):fe E s k n a v=ah.bind (fe E s .ok n a v) k kp:=by
 cases a<;> simp only[fe]<;> try rfl
 cases(_&&_:Bool)<;> try rfl
 exact zr bs s k kp _ _ _
theorem xW(m:Option Nat)(y:ae)(n:Nat)(a v:ae):lk E s k m y n a v=ah.bind (lk E s .ok m y n a v) k kp:=by
 unfold lk;rw[ld bs s _ kp n a v,ld bs s (fun u t=>bif n6 (e2 s m y) (e2 t m y) then .ok u t else .fail) .panic n a v];cases fe E s .ok n a v<;> try rfl
 simp only[ah.bind];cases n6 _ _<;> rfl
theorem vt(d:IntKind)(v:ae):ke E s k d v=ah.bind (ke E s .ok d v) k kp:=by cases v<;> simp only[ke,bs,aX.not]<;> rfl
theorem xX(v:ae):mo s k v=ah.bind (mo s .ok v) k kp:=by cases v<;> rfl
theorem rl(v:ae):ho E s k v=ah.bind (ho E s .ok v) k kp:=by cases v<;> simp only[ho,bs,aX.not]<;> rfl
theorem rm(v:ae):gF E s k v=ah.bind (gF E s .ok v) k kp:=by cases v<;> first|rfl |(simp only[gF];cases dv s _<;> first|rfl |exact lp bs s k kp _)
theorem Bm(c a b:ae):np E s k c a b=ah.bind (np E s .ok c a b) k kp:=by cases c<;> simp only[np,bs,aX.not]<;> rfl
theorem uf(v:ae):je E s k v=ah.bind (je E s .ok v) k kp:=by
 simp only[je,bs,aX.not];cases isNil v<;> try rfl
 rename_i b;cases b<;> rfl
theorem zw(v:ae):m0 E s k v=ah.bind (m0 E s .ok v) k kp:=by
 cases v<;> simp only[m0,bs,aX.not]<;> try rfl
 rename_i a off len cap sz;cases a<;> try rfl
 simp only;rename_i i;cases s.own[i]? <;> try rfl
 rename_i o;cases o<;> try rfl
 simp only;cases(_&&_:Bool)<;> rfl
theorem rn(sz:Nat)(es:List ae):hN E s k sz es=ah.bind (hN E s .ok sz es) k kp:=by simp only[hN,bs,aX.not];cases(_&&_:Bool)<;> rfl
theorem zx(f:ae)(args:List ae):la E s k kp f args=ah.bind (la E s .ok .panic f args) k kp:=by
 cases f<;> simp only[la,bs,aX.not]<;> try rfl
 exact tp bs s k kp _ _
theorem xY(f:ae)(args:List ae):jT E s k f args=ah.bind (jT E s .ok f args) k kp:=by
 cases f<;> simp only[jT,bs,aX.not]<;> try rfl
 exact rk bs s k kp _ _
theorem rp(f:ae→ae→Option ae)(xs:List ae):lb E s k f xs=ah.bind (lb E s .ok f xs) k kp:=by
 cases xs<;> simp only[lb]<;> try rfl
 exact lp bs s k kp _
theorem jw(op:gk):aM E ao s k kp op=ah.bind (aM E ao s .ok .panic op) k kp:=by
 cases op<;> simp only[aM]
 case move=>simp only[bs,aX.not];rfl
 case nl=>simp only[bs,aX.not];rfl
 case oY=>exact zw bs s k kp _
 case pick=>exact Bm bs s k kp _ _ _
 case alloc=>simp only[bs,aX.not];rfl
 case fu x=>simp only[bs,aX.not];cases(aq E.au ao x).fa<;> rfl
 case j1 x=>simp only[bs,aX.not];cases(aq E.au ao x).fa<;> rfl
 case build=>exact lp bs s k kp _
 case buildSlice=>exact rn bs s k kp _ _
 case load=>exact zt bs s k kp _ _
 case store=>exact ld bs s k kp _ _ _
 case k9=>exact xW bs s k kp _ _ _ _ _
 case nilCheck=>exact uf bs s k kp _
 case bin=>exact lp bs s k kp _
 case eq=>exact lp bs s k kp _
 case un=>exact lp bs s k kp _
 case lj=>exact vt bs s k kp _ _
 case n3=>exact xX bs s k kp _
 case gN=>exact rm bs s k kp _
 case ja=>exact rl bs s k kp _
 case jL=>simp only[bs,aX.not];rfl
 case ks=>simp only[bs,aX.not];rfl
 case makeSlice=>exact Bl bs s k kp _ _ _ _
 case kt=>exact xP bs ao s k kp _ _ _
 case slice=>exact zs bs ao s k kp _ _ _ _ _
 case fieldAddr=>exact sT bs s k kp _ _
 case field=>exact zu bs s k kp _ _ _
 case jb=>exact EB bs s k kp _ _ _
 case fv=>exact xT bs s k kp _ _ _ _
 case mY=>exact xU bs s k kp _ _
 case n4=>exact xV bs s k kp _ _ _ _ _
 case extract=>exact vr bs s k kp _ _
 case call=>simp only[bs,aX.not];exact tp bs s k kp _ _
 case eA=>exact zx bs s k kp _ _
 case hl=>simp only[bs,aX.not];exact rk bs s k kp _ _
 case lM=>exact xY bs s k kp _ _
 case len=>exact EC bs s k kp _ _
 case append=>
  simp only[gj];cases h5 E.au ao _<;> try rfl
  exact qg bs s k kp _ _ _ _ _
 case jN=>
  simp only[mq];cases h5 E.au ao _<;> try rfl
  exact vq bs s k kp _ _ _ _ _
 case gD=>simp only[jR,bs,aX.not];cases(_&&_:Bool)<;> rfl
 case gE=>simp only[jS,bs,aX.not];cases List.all _ _<;> rfl
 case jO=>
  simp only[kc,bs,aX.not];cases dv s _ with
  |none=>rfl
  |some p=>
   obtain⟨z,new⟩:=p;cases new with
   |nil=>rfl
   |cons c new=>
    simp only;split
    ·cases(_&&_:Bool)<;> rfl
    ·split
     ·cases(_&&_:Bool)<;> rfl
     ·rfl
    ·rfl
 case iV=>exact xQ bs ao s k kp _ _ _ _ _ _
 case jM=>
  simp only[kP];cases aq E.au ao _<;> try rfl
  simp only[gj];cases h5 E.au ao _<;> try rfl
  exact qg bs s k kp _ _ _ _ _
 case makeMap=>
  simp only[l8,bs,aX.not];cases h5 E.au ao _<;> try rfl
  simp only;cases s.hn _ _<;> rfl
 case mZ=>exact xR bs s k kp _ _ _ _
 case lookup=>exact xS bs s k kp _ _ _ _ _
 case no=>rfl
 case uS=>exact lp bs s k kp _
 case lA=>simp only[bs,aX.not];exact rj bs s k kp _ _ _
 case j2=>
  simp only[kw,bs,aX.not];cases aq E.au ao _<;> try rfl
  exact rj bs s k kp _ _ _
 case copy=>exact zv bs s k kp _ _ _
 case min=>exact rp bs s k kp _ _
 case max=>exact rp bs s k kp _ _
end
def gn(o:Option ae)(k:ae→ag→ah)(s:ag):ah:=
 match o with
 |some v=>k v s
 |none=>.fail
def gk.p0:gk→Nat
 |.load .. |.gN _|.lookup ..=>1
 |.oY _|.alloc _|.j1 _|.store .. |.k9 .. |.makeSlice .. |.append .. |.jM .. |.jN .. |.gD .. |.gE .. |.jO .. |.copy .. |.call .. |.eA .. |.makeMap _|.mZ .. |.lA .. |.j2 ..=>2
 |_=>0
def gk.Mu:gk→List bF
 |.move x|.oY x|.fu x|.j1 x|.load _ x|.nilCheck x|.un _ x|.lj _ x|.n3 x|.gN x|.ja x|.jL _ x|.fieldAddr _ x|.field _ _ x|.extract x _|.len _ x=>[x]
 |.pick a b c=>[a,b,c]
 |.uS _ x=>[x]
 |.nl x=>[x]
 |.alloc _=>[]
 |.build _ eb=>eb.map (·.2.2)
 |.buildSlice _ xs|.ks _ xs|.call _ xs|.hl _ xs|.min xs|.max xs=>xs
 |.store _ a b|.bin _ a b|.eq _ _ a b|.makeSlice _ _ a b|.jb _ a b|.fv _ _ a b|.mY a b|.n4 _ _ _ a b|.copy _ a b|.lookup _ _ _ a b=>[a,b]
 |.append _ _ c a b=>c.toList++[a,b]
 |.jM _ _ c a b=>c.toList++[a,b]
 |.jN _ _ c a b=>c.toList++[a,b]
 |.gD _ xs=>xs
 |.gE _ xs=>xs
 |.jO _ _ a b=>[a,b]
 |.makeMap c=>c.toList
 |.k9 _ y _ a v=>[y,a,v]
 |.mZ _ a b c=>[a,b,c]
 |.no=>[]
 |.eA f xs|.lM f xs=>f::xs
 |.lA iq _ xs=>iq.map (·.2)++xs
 |.j2 iq f xs=>f::(iq.map (·.2)++xs)
 |.kt x gg bL=>x::(gg.toList++bL.toList)
 |.slice _ x gg bL iK=>x::(gg.toList++bL.toList++iK.toList)
 |.iV _ _ x gg bL iK=>x::(gg.toList++bL.toList++iK.toList)
section
variable{E:Env}(bs:E.F=.not)(ao:Nat→ae)
include bs
theorem nN(v:Option ae):∃o,∀s k,qV E s k v=gn o k s:=⟨v,fun s k=>by cases v<;> simp only[qV,bs,aX.not,gn]⟩
theorem pa(m:Option Nat)(cs:List ae):∃o,∀s k,eU E s k m cs=gn o k s:=by
 cases m<;> simp only[eU,bs,aX.not]
 ·cases cs
  ·exact⟨none,fun _ _=>rfl⟩
  ·exact⟨some _,fun _ _=>rfl⟩
 ·cases Nat.ble _ _
  ·exact⟨none,fun _ _=>rfl⟩
  ·exact⟨some _,fun _ _=>rfl⟩
theorem xZ(x:ae)(gg bL:Option bF):∃o,∀s k,jQ E ao s k x gg bL=gn o k s:=by
 cases x<;> simp only[jQ,bs,aX.not]<;> try exact⟨none,fun _ _=>rfl⟩
 cases dG E.au ao gg 0<;> try exact⟨none,fun _ _=>rfl⟩
 cases dG E.au ao bL _<;> try exact⟨none,fun _ _=>rfl⟩
 simp only;cases(_&&_:Bool)
 ·exact⟨none,fun _ _=>rfl⟩
 ·exact⟨some _,fun _ _=>rfl⟩
theorem x0(z n:Nat)(x:ae)(gg bL iK:Option bF):∃o,∀s k,iD E ao s k z n x gg bL iK=gn o k s:=by
 cases x<;> simp only[iD,bs,aX.not]<;> try exact⟨none,fun _ _=>rfl⟩
 cases dG E.au ao gg 0<;> try exact⟨none,fun _ _=>rfl⟩
 cases dG E.au ao bL _<;> try exact⟨none,fun _ _=>rfl⟩
 cases dG E.au ao iK _<;> try exact⟨none,fun _ _=>rfl⟩
 simp only;cases(_&&_:Bool)
 ·exact⟨none,fun _ _=>rfl⟩
 ·exact⟨some _,fun _ _=>rfl⟩
theorem zy(z:Nat)(x:ae)(gg bL iK:Option bF):∃o,∀s k,j3 E ao s k z x gg bL iK=gn o k s:=by
 cases x<;> simp only[j3,bs,aX.not]<;> try exact⟨none,fun _ _=>rfl⟩
 ·cases dG E.au ao gg 0<;> try exact⟨none,fun _ _=>rfl⟩
  cases dG E.au ao bL _<;> try exact⟨none,fun _ _=>rfl⟩
  cases iK with
  |none=>
   simp only;cases(_&&_:Bool)
   ·exact⟨none,fun _ _=>rfl⟩
   ·exact⟨some _,fun _ _=>rfl⟩
  |some x=>
   simp only;rename_i g _ _;cases e1 (aq E.au ao x)<;> cases g<;> try exact⟨none,fun _ _=>rfl⟩
   all_goals
    simp only;cases(_&&_:Bool)
    ·exact⟨none,fun _ _=>rfl⟩
    ·exact⟨some _,fun _ _=>rfl⟩
 ·cases dG E.au ao gg 0<;> try exact⟨none,fun _ _=>rfl⟩
  cases dG E.au ao bL _<;> try exact⟨none,fun _ _=>rfl⟩
  cases dG E.au ao iK _<;> try exact⟨none,fun _ _=>rfl⟩
  simp only;cases(_&&_:Bool)
  ·exact⟨none,fun _ _=>rfl⟩
  ·exact⟨some _,fun _ _=>rfl⟩
theorem ED(sz:Nat)(x i:ae):∃o,∀s k,kK E s k sz x i=gn o k s:=by
 simp only[kK,bs,aX.not];cases e1 i<;> try exact⟨none,fun _ _=>rfl⟩
 rename_i i;cases x<;> try exact⟨none,fun _ _=>rfl⟩
 ·simp only;cases Nat.beq _ _
  ·exact⟨none,fun _ _=>rfl⟩
  rename_i es _;simp only[bH];cases es[i]?
  ·exact⟨none,fun _ _=>rfl⟩
  ·exact⟨some _,fun _ _=>rfl⟩
 ·simp only;cases(_&&_:Bool)
  ·exact⟨none,fun _ _=>rfl⟩
  ·exact⟨some _,fun _ _=>rfl⟩
theorem x1(sz len:Nat)(x i:ae):∃o,∀s k,hM E s k sz len x i=gn o k s:=by
 simp only[hM,bs,aX.not];cases e1 i<;> try exact⟨none,fun _ _=>rfl⟩
 simp only;cases Nat.blt _ _<;> try exact⟨none,fun _ _=>rfl⟩
 cases x<;> first|exact⟨none,fun _ _=>rfl⟩|exact⟨some _,fun _ _=>rfl⟩
theorem rq(f:Nat)(args:List ae):∃o,∀s k,hD E s k f args=gn o k s:=by
 simp only[hD];cases ae.aZ args<;> try exact⟨none,fun _ _=>rfl⟩
 simp only[bH];cases E.call f args _<;> try exact⟨none,fun _ _=>rfl⟩
 rename_i v _;simp only;cases v.bc
 ·exact⟨none,fun _ _=>rfl⟩
 ·exact⟨some _,fun _ _=>rfl⟩
theorem sU(off:Nat)(v:ae):∃o,∀s k,gP E s k off v=gn o k s:=by cases v<;> simp only[gP,bs,aX.not]<;> first|exact⟨none,fun _ _=>rfl⟩|exact⟨some _,fun _ _=>rfl⟩
theorem zz(off:Nat)(n:Option Nat)(v:ae):∃o,∀s k,lP E s k off n v=gn o k s:=by
 cases v<;> simp only[lP]<;> try exact⟨none,fun _ _=>rfl⟩
 exact pa bs _ _
theorem x2(v i:ae):∃o,∀s k,h6 E s k v i=gn o k s:=by
 cases v<;> simp only[h6,bs,aX.not]<;> try exact⟨none,fun _ _=>rfl⟩
 cases e1 i<;> try exact⟨none,fun _ _=>rfl⟩
 rename_i e8 i;simp only;cases e8[i]?
 ·exact⟨none,fun _ _=>rfl⟩
 ·exact⟨some _,fun _ _=>rfl⟩
theorem x3(sz len:Nat)(n:Option Nat)(v i:ae):∃o,∀s k,kv E s k sz len n v i=gn o k s:=by
 cases v<;> simp only[kv]<;> try exact⟨none,fun _ _=>rfl⟩
 cases e1 i<;> try exact⟨none,fun _ _=>rfl⟩
 simp only;cases Nat.blt _ _<;> try exact⟨none,fun _ _=>rfl⟩
 exact pa bs _ _
theorem vu(i:Nat)(v:ae):∃o,∀s k,kd E s k i v=gn o k s:=by
 cases v<;> simp only[kd]<;> try exact⟨none,fun _ _=>rfl⟩
 exact nN bs _
theorem EE(b:Bool)(v:ae):∃o,∀s k,p5 E s k b v=gn o k s:=by cases b<;> cases v<;> simp only[p5,bs,aX.not]<;> first|exact⟨none,fun _ _=>rfl⟩|exact⟨some _,fun _ _=>rfl⟩
theorem vv(d:IntKind)(v:ae):∃o,∀s k,ke E s k d v=gn o k s:=by cases v<;> simp only[ke,bs,aX.not]<;> first|exact⟨none,fun _ _=>rfl⟩|exact⟨some _,fun _ _=>rfl⟩
omit bs in
theorem x4(v:ae):∃o,∀s k,mo s k v=gn o k s:=by cases v<;> simp only[mo]<;> first|exact⟨none,fun _ _=>rfl⟩|exact⟨some _,fun _ _=>rfl⟩
theorem rr(v:ae):∃o,∀s k,ho E s k v=gn o k s:=by cases v<;> simp only[ho,bs,aX.not]<;> first|exact⟨none,fun _ _=>rfl⟩|exact⟨some _,fun _ _=>rfl⟩
theorem Bn(c a b:ae):∃o,∀s k,np E s k c a b=gn o k s:=by cases c<;> simp only[np,bs,aX.not]<;> first|exact⟨none,fun _ _=>rfl⟩|exact⟨some _,fun _ _=>rfl⟩
theorem ug(v:ae):∃o,∀s k,je E s k v=gn o k s:=by
 simp only[je,bs,aX.not];cases isNil v<;> try exact⟨none,fun _ _=>rfl⟩
 rename_i b;cases b
 ·exact⟨some _,fun _ _=>rfl⟩
 ·exact⟨none,fun _ _=>rfl⟩
theorem rs(sz:Nat)(es:List ae):∃o,∀s k,hN E s k sz es=gn o k s:=by
 simp only[hN,bs,aX.not];cases(_&&_:Bool)
 ·exact⟨none,fun _ _=>rfl⟩
 ·exact⟨some _,fun _ _=>rfl⟩
theorem x5(f:ae)(args:List ae):∃o,∀s k,jT E s k f args=gn o k s:=by
 cases f<;> simp only[jT,bs,aX.not]<;> try exact⟨none,fun _ _=>rfl⟩
 exact rq bs _ _
theorem ru(f:ae→ae→Option ae)(xs:List ae):∃o,∀s k,lb E s k f xs=gn o k s:=by
 cases xs<;> simp only[lb]<;> try exact⟨none,fun _ _=>rfl⟩
 exact nN bs _
theorem vw{op:gk}(aY:op.p0=0)(d:Nat):∃o,∀(s:ag) k kp,s.aa=d→aM E ao s k kp op=gn o k s:=by
 have key:∀{f:ag→(ae→ag→ah)→ah},(∃o,∀s k,f s k=gn o k s)→∃o,∀(s:ag) (k kp:ae→ag→ah),s.aa=d→f s k=gn o k s:=fun⟨o,h⟩=>⟨o,fun s k kp _=>h s k⟩
 cases op<;> simp only[gk.p0] at aY<;> first|exact absurd aY (by decide)|skip
 all_goals simp only[aM]
 case nl x=>exact⟨some (n5 (aq E.au ao x)),fun s k kp _=>by simp only[bs,aX.not,gn]⟩
 case move x=>exact⟨some (aq E.au ao x),fun s k kp _=>by simp only[bs,aX.not,gn]⟩
 case pick c a b=>exact key (Bn bs _ _ _)
 case fu x=>
  cases bM:(aq E.au ao x).fa
  ·exact⟨none,fun s k kp _=>by simp only[bs,aX.not,gn,cond_false]⟩
  ·exact⟨some (.bh ((aq E.au ao x).ap d).cells),fun s k kp h=>by simp only[bs,aX.not,gn,bH,h]⟩
 case build zero parts=>exact⟨(fj E.au d ao zero parts).map .agg,fun s k kp h=>by rw[h];cases fj E.au d ao zero parts<;> simp only[qV,bs,aX.not,gn,ej,Option.map_none]⟩
 case buildSlice=>exact key (rs bs _ _)
 case nilCheck=>exact key (ug bs _)
 case bin=>exact key (nN bs _)
 case eq=>exact key (nN bs _)
 case un=>exact key (nN bs _)
 case lj=>exact key (vv bs _ _)
 case n3=>exact key (x4 _)
 case ja=>exact key (rr bs _)
 case jL t x=>exact⟨some (.iface t ((aq E.au ao x).ap d)),fun s k kp h=>by simp only[bs,aX.not,gn,h]⟩
 case ks f dI=>exact⟨some (.fn f (dI.map fun x=>(aq E.au ao x).ap d)),fun s k kp h=>by simp only[bs,aX.not,gn,h]⟩
 case kt=>exact key (xZ bs ao _ _ _)
 case slice=>exact key (zy bs ao _ _ _ _ _)
 case iV=>exact key (x0 bs ao _ _ _ _ _ _)
 case fieldAddr=>exact key (sU bs _ _)
 case field=>exact key (zz bs _ _ _)
 case jb=>exact key (ED bs _ _ _)
 case fv=>exact key (x1 bs _ _ _ _)
 case mY=>exact key (x2 bs _ _)
 case n4=>exact key (x3 bs _ _ _ _ _)
 case extract=>exact key (vu bs _ _)
 case hl f args=>obtain⟨o,h⟩:=rq bs f (args.map fun x=>(aq E.au ao x).ap d);exact⟨o,fun s k kp cP=>by simp only[bs,aX.not,cP];exact h s k⟩
 case lM f args=>obtain⟨o,h⟩:=x5 bs (aq E.au ao f) (args.map fun x=>(aq E.au ao x).ap d);exact⟨o,fun s k kp cP=>by simp only[cP];exact h s k⟩
 case no=>exact⟨none,fun s k kp _=>rfl⟩
 case uS=>exact key (nN bs _)
 case len=>exact key (EE bs _ _)
 case min xs=>obtain⟨o,h⟩:=ru bs min2 (xs.map fun x=>(aq E.au ao x).ap d);exact⟨o,fun s k kp cP=>by simp only[cP];exact h s k⟩
 case max xs=>obtain⟨o,h⟩:=ru bs max2 (xs.map fun x=>(aq E.au ao x).ap d);exact⟨o,fun s k kp cP=>by simp only[cP];exact h s k⟩
theorem tq{op:gk}(aY:op.p0=1){s s':ag}{v:ae}(h:aM E ao s .ok .panic op=.ok v s'):s'=s:=by
 have lE:∀{m:Option ae},qV E s .ok m=.ok v s'→s'=s:=fun {m} h=>by cases m<;> simp [qV,bs,aX.not] at h;exact h.2.symm
 have hG:∀{n:Option Nat} {cs:List ae},eU E s .ok n cs=.ok v s'→s'=s:=fun {n cs} h=>by obtain⟨o,e⟩:=pa bs n cs;rw[e] at h;cases o<;> simp [gn] at h;exact h.2.symm
 cases op<;> simp only[gk.p0] at aY<;> first|exact absurd aY (by decide)|skip
 all_goals simp only[aM] at h
 case load n a=>
  unfold dY at h;split at h
  ·exact hG h
  ·split at h
   ·exact hG h
   ·cases h
  ·cases h
 case gN x=>
  unfold gF at h;split at h
  ·cases h
  ·split at h
   ·exact lE h
   ·cases h
 case lookup kJ z ok m x=>
  unfold lm at h;simp only[bs,aX.not] at h;cases cZ:isKey kJ (ae.ap s.aa (aq E.au ao x)) with
  |false=>rw[cZ] at h;cases h
  |true=>
   rw[cZ,bH] at h;split at h
   ·split at h
    ·simp only[ah.ok.injEq] at h;exact h.2.symm
    ·simp only[ah.ok.injEq] at h;exact h.2.symm
    ·cases h
   ·cases h
end
theorem ag.j8{s s':ag}{a:Loc}{o:cU}(h:s.set a o=some s'):s'.aa=s.aa:=by
 unfold ag.set at h;split at h
 ·simp only[bm] at h;subst h;rfl
 ·split at h
  ·simp only[bm] at h;subst h;rfl
  ·split at h
   ·simp only[bm] at h;subst h;simp [ag.aa]
   ·cases h
theorem ag.lY{s s':ag}{a l:Loc}{o:cU}(h:s.hn a o=some (l,s')):s'.aa=s.aa:=by
 unfold ag.hn at h;split at h
 ·simp only[bm,e0] at h;rw[←h.2];rfl
 ·split at h
  ·simp only[bm,e0] at h;rw[←h.2];rfl
  ·split at h
   ·split at h
    ·simp only[bm,e0] at h;rw[←h.2];simp [ag.aa]
    ·cases h
   ·cases h
section
variable{E:Env}(bs:E.F=.not)(ao:Nat→ae)
include bs
theorem qh{s s':ag}{v:ae}{a:Loc}{off:Nat}{vs:List ae}(h:h1 E s .ok a off vs=.ok v s'):s'.aa=s.aa:=by
 simp only[h1,bs,aX.not] at h;split at h
 ·cases e:(Nat.ble (off+vs.length) _&&s.gO a vs&&vs.all ae.eB) with
  |false=>rw[e] at h;cases h
  |true=>
   rw[e,bH] at h;split at h
   ·rename_i r;simp only[ah.ok.injEq] at h;rw[←h.2];exact ag.j8 r
   ·cases h
 ·cases h
theorem lZ{s s':ag}{v:ae}{f:Nat}{args:List ae}(h:eA E s .ok .panic f args=.ok v s'):s'.aa=s.aa:=by
 simp only[eA] at h;split at h
 ·rename_i fL r aY;cases e:Nat.beq r.aa s.aa with
  |false=>rw[e] at h;cases h
  |true=>rw[e,bH] at h;simp only[ah.ok.injEq] at h;rw[←h.2];exact dh e
 ·cases h
 ·cases h
theorem od{s s':ag}{v:ae}{xs:List (Option Nat×ae)}{f:Nat}{args:List ae}(h:h2 E s .ok .panic xs f args=.ok v s'):eA E s .ok .panic f args=.ok v s'∧∀x,x∈xs→∃l,e2 s x.1 x.2=some l∧e2 s' x.1 x.2=some l:=by
 simp only[h2,eA] at h ⊢;cases aY:E.call f args s<;> rw[aY] at h<;> try cases h
 rename_i fL r;simp only at h ⊢;cases u:Nat.beq r.aa s.aa with
 |false=>rw[u] at h;cases h
 |true=>
  rw[u,bH] at h;cases e:xs.all fun x=>n6 (e2 s x.1 x.2) (e2 r x.1 x.2) with
  |false=>rw[e] at h;cases h
  |true=>rw[e,bH] at h;simp only[ah.ok.injEq] at h;obtain⟨rfl,rfl⟩:=h;refine⟨by simp,fun x a5=>?_⟩;exact yh.1 (List.all_eq_true.1 e x a5)
theorem tr{s s':ag}{v:ae}{m:Option Nat}{y:ae}{n:Nat}{a u:ae}(h:lk E s .ok m y n a u=.ok v s'):fe E s .ok n a u=.ok v s'∧∃l,e2 s m y=some l∧e2 s' m y=some l:=by
 unfold lk at h;rw[ld bs s _ .panic n a u] at h;cases a7:fe E s .ok n a u with
 |fail=>rw[a7] at h;cases h
 |panic fL t=>rw[a7] at h;cases h
 |ok fL t=>
  rw[a7] at h;simp only[ah.bind] at h;cases e:n6 (e2 s m y) (e2 t m y) with
  |false=>rw[e] at h;cases h
  |true=>rw[e] at h;simp only[bH,ah.ok.injEq] at h;obtain⟨rfl,rfl⟩:=h;exact⟨rfl,yh.1 e⟩
theorem g1{b:Bool}{x:ah}{v:ae}{s':ag}(h:(bif b then x else .fail)=.ok v s'):x=.ok v s':=by
 cases b with
 |true=>exact h
 |false=>cases h
theorem zA{s s':ag}{v:ae}{d x:ae}(h:copyV E s .ok d x=.ok v s'):s'.aa=s.aa:=by
 simp only[copyV,bs,aX.not] at h;split at h
 ·split at h
  ·split at h
   ·have h:=g1 bs h;split at h
    ·rename_i e;simp only[ah.ok.injEq] at h;rw[←h.2];exact ag.j8 e
    ·cases h
   ·cases h
  ·cases h
 ·cases h
theorem uh{s s':ag}{v:ae}{q b:Nat}{l:Loc}{x y:ae}(h:kb E s .ok q b l x y=.ok v s'):s'.aa=s.aa:=by
 simp only[kb,bs,aX.not] at h;split at h
 ·split at h
  ·have h:=g1 bs h;split at h
   ·cases h
   ·split at h
    ·have h:=g1 bs h;split at h
     ·rename_i e;simp only[ah.ok.injEq] at h;rw[←h.2];exact ag.lY e
     ·cases h
    ·split at h
     ·have h:=g1 bs h;split at h
      ·rename_i r;simp only[ah.ok.injEq] at h;rw[←h.2];exact ag.j8 r
      ·cases h
     ·cases h
    ·cases h
  ·cases h
 ·cases h
theorem pb{s s':ag}{v:ae}{q b:Nat}{l:Loc}{x y:ae}(h:hL E s .ok q b l x y=.ok v s'):s'.aa=s.aa:=by
 simp only[hL,bs,aX.not] at h;split at h
 ·cases h
 ·split at h
  ·have h:=g1 bs h;split at h
   ·simp only[ah.ok.injEq] at h;rw[←h.2]
   ·split at h
    ·split at h
     ·rename_i e;simp only[ah.ok.injEq] at h;rw[←h.2];exact ag.lY e
     ·cases h
    ·split at h
     ·rename_i e;simp only[ah.ok.injEq] at h;rw[←h.2];exact ag.lY e
     ·cases h
    ·split at h
     ·have h:=g1 bs h;split at h
      ·rename_i r;simp only[ah.ok.injEq] at h;rw[←h.2];exact ag.j8 r
      ·cases h
     ·cases h
    ·cases h
  ·split at h
   ·have h:=g1 bs h;split at h
    ·rename_i r;simp only[ah.ok.injEq] at h;rw[←h.2];exact ag.j8 r
    ·cases h
   ·cases h
  ·cases h
theorem Bo{op:gk}{s s':ag}{v:ae}(h:aM E ao s .ok .panic op=.ok v s'):s'.aa=s.aa:=by
 by_cases eS:op.p0=0
 ·obtain⟨o,e⟩:=vw bs ao eS s.aa;rw[e s _ _ rfl] at h;cases o<;> simp [gn] at h;rw[h.2]
 by_cases ar:op.p0=1
 ·rw[tq bs ao ar h]
 cases op<;> simp only[gk.p0] at eS ar<;> first|exact absurd trivial eS|exact absurd trivial ar|skip
 all_goals simp only[aM] at h
 case oY x=>
  unfold m0 at h;split at h
  ·split at h
   ·simp only[bs,aX.not] at h;have h:=g1 bs h;simp only[ah.ok.injEq] at h;rw[←h.2];rfl
   ·cases h
  ·cases h
 case alloc z=>simp only[bs,aX.not,ah.ok.injEq] at h;rw[←h.2];rfl
 case j1 x=>simp only[bs,aX.not] at h;have h:=g1 bs h;simp only[ah.ok.injEq] at h;rw[←h.2];rfl
 case store n a u=>
  unfold fe at h;split at h
  ·exact qh bs (g1 bs h)
  ·cases h
 case k9 m y n a u=>
  have h:=(tr bs h).1;unfold fe at h;split at h
  ·exact qh bs (g1 bs h)
  ·cases h
 case makeSlice z b l c=>
  unfold nn at h;split at h
  ·split at h
   ·simp only[bs,aX.not] at h;have h:=g1 bs h;simp only[ah.ok.injEq] at h;rw[←h.2];rfl
   ·cases h
  ·cases h
 case call f xs=>simp only[bs,aX.not] at h;exact lZ bs h
 case eA f xs=>
  unfold la at h;split at h
  ·simp only[bs,aX.not] at h;exact lZ bs h
  ·cases h
 case lA iq f xs=>simp only[bs,aX.not] at h;exact lZ bs (od bs h).1
 case j2 iq f xs=>
  unfold kw at h;split at h
  ·simp only[bs,aX.not] at h;exact lZ bs (od bs h).1
  ·cases h
 case append=>
  unfold gj at h;split at h
  ·exact pb bs h
  ·cases h
 case jN=>
  unfold mq at h;split at h
  ·exact uh bs h
  ·cases h
 case gD=>unfold jR at h;simp only[bs,aX.not] at h;have h:=g1 bs h;simp only[ah.ok.injEq] at h;rw[←h.2];rfl
 case gE=>unfold jS at h;simp only[bs,aX.not] at h;have h:=g1 bs h;simp only[ah.ok.injEq] at h;rw[←h.2];rfl
 case jO=>
  unfold kc at h;simp only[bs,aX.not] at h;split at h
  ·cases h
  split at h
  ·cases h
  split at h
  ·have h:=g1 bs h;simp only[ah.ok.injEq] at h;rw[←h.2];rfl
  ·split at h
   ·have h:=g1 bs h;simp only[ah.ok.injEq] at h;rw[←h.2];rfl
   ·cases h
  ·cases h
 case jM=>
  unfold kP at h;split at h
  ·unfold gj at h;split at h
   ·exact pb bs h
   ·cases h
  ·cases h
 case makeMap=>
  unfold l8 at h;split at h
  ·split at h
   ·rename_i r;simp only[bs,aX.not,ah.ok.injEq] at h;rw[←h.2];exact ag.lY r
   ·cases h
  ·cases h
 case mZ kJ m x u=>
  unfold ll at h;split at h
  ·split at h
   ·have h:=g1 bs h;split at h
    ·split at h
     ·rename_i A;simp only[bs,aX.not,ah.ok.injEq] at h;rw[←h.2];exact ag.j8 A
     ·cases h
    ·cases h
   ·cases h
  ·cases h
 case copy q d x=>
  unfold lQ at h;split at h
  ·exact zA bs (g1 bs h)
  ·cases h
end
end Go.Ab
