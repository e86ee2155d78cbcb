/- A part of the proof: no condition. -/
import Derived.Test.YtgdnbfijkagodaaGreatDoorA0
import Derived.Laws.IdiomStrings
import Derived.MapKept
import Derived.RangeFuncRecord
import Derived.RangeFuncSeq
import Derived.RangeFuncLeaves
import Derived.RangeFuncCalls
import Derived.OrdersIn
import Derived.Laws.StructEq
set_option linter.unusedSectionVars false
set_option linter.unusedSimpArgs false
set_option linter.unusedVariables false
namespace Go.Ab
theorem tE(z:List af)(v:Array Value)(hC:∀κ D,er κ D z v.toList)(n:Nat):∀κ D,er κ D (List.replicate n z).flatten (madeCells v (n*z.length)).toList:=by
 intro κ D;have bK:v.size=z.length:=by simpa using (hC κ D).1
 refine⟨by simp [madeCells],fun j c x a3 a8=>?_⟩;simp only[madeCells,Array.toList_map,hy] at a8;by_cases eZ:z.length=0
 ·have:z=[]:=kQ eZ;subst this;simp at a3
 ·have df:j<n*z.length:=by
   have:=(ey.1 a3).1;simpa using this
  have aT:(Array.range (n*z.length)).toList[j]? =some j:=by simp [df]
  rw[aT] at a8;simp only[ew,bj] at a8;have hm:j%z.length<z.length:=Nat.mod_lt _ (by omega);have kV:z[j%z.length]? =some c:=by
   have:∀(n j:Nat),j<n*z.length→(List.replicate n z).flatten[j]? =z[j%z.length]?:=by
    intro n
    induction n with
    |zero=>intro j df;simp at df
    |succ n e=>
     intro j df;rw[List.replicate_succ,List.flatten_cons];by_cases au:j<z.length
     ·rw[hn au,hz au]
     ·rw[j5 (by omega),e _ (by rw[Nat.succ_mul] at df;omega),←Nat.mod_eq_sub_mod (by omega)]
   rw[←this n j df];exact a3
  have h:v.toList[j%z.length]? =some x:=by
   have q:j%v.size<v.size:=by rw[bK];exact hm
   rw[←a8];simp only[bK] at q ⊢;simp [bK,hm]
  exact(hC κ D).2 _ c x kV h
section
variable{P:Program}{ty:TypeId}{ρ:Operand→Value}{κ:bi}{s:ag}{w:World}(a6:c3 κ s w)
include a6
theorem st{E:Env}(bq:E.F=.not){k:af→ag→ah}{r:ah}(bB:r≠.fail){t el:TypeId}{z:List af}{bytes:Nat}{l c:af}{x y:Operand}(eh:P.underlying t=some (.slice el))(hC:j1 P el z=true)(e4:ff P el=some z.length)(q:(P.info? el).map (·.bytes)=some bytes)(u:0<bytes)
  (a8:dF κ (s.aa+1) (l.ap s.aa) (ρ x))(eT:dF κ (s.aa+1) (c.ap s.aa) (ρ y))(aT:nd E s k z bytes l c=r):∃fG s',k fG s'=r∧dQ P (.makeSlice t x y) ty ρ κ s w fG s':=by
 unfold nd at aT;cases bK:e2 l with
 |none=>rw[bK] at aT;exact absurd aT.symm bB
 |some m=>
  cases a3:e2 c with
  |none=>rw[bK,a3] at aT;exact absurd aT.symm bB
  |some n=>
   rw[bK,a3] at aT;simp only[bq,aW.not] at aT;obtain⟨h,A⟩:=cY aT bB;rw[bn] at h;have au:=d0 h.1;have az:=d0 h.2;obtain⟨B,rfl⟩:=jb bK;obtain⟨H,rfl⟩:=jb a3;obtain⟨v,e,bO,_,i,bX,I⟩:=kX hC w;have J:i.size=z.length:=by simpa [ff,bX] using e4
   have K:i.bytes=bytes:=by simpa [bX] using q
   have L:(n:Int)≤9223372036854775807:=by have:n*1≤n*bytes:=Nat.mul_le_mul_left _ u;omega
   have hmul:(i.bytes:Int)*(n:Int)≤281474976710656:=by
    have:(i.bytes:Int)*(n:Int)=((n*bytes:Nat):Int):=by rw[K,ez];simp
    omega
   have run:=run_make w t el i v eh bX I B H m n (by omega) (by omega) hmul L;simp only[Int.toNat_natCast,J] at run;obtain⟨κ',ho,gF,M,ni⟩:=a6.oP (List.replicate n z).flatten (madeCells v.cells (n*z.length)) el (tE z v.cells bO n _ _) (w':=w.alloc (.cells (madeCells v.cells (n*z.length)) el)) rfl rfl rfl rfl;refine⟨_,_,A,.slice (some ⟨w.heap.size,0,none⟩) m n,κ',_,.inl (fun _ _ _ _=>?_),gF,ho,?_⟩
   ·simp [execOp,a8.eB,eT.eB,run]
   ·simp only[af.ap,Loc.ap];rw[←M];exact .cZ _ _ _ _ _ _ _ (Nat.lt_succ_self _) ni au (.inl rfl)
omit a6 in
theorem nA{vs:List af}(h:vs.all af.eO=true){D:Nat}{xs:List Value}(bO:er κ D vs xs):∀x∈xs,x.oneCell'=true:=by
 intro x a8;obtain⟨j,df⟩:=List.mem_iff_getElem?.1 a8;have e:=(ey.1 df).1;have q:j<vs.length:=by rw[←bO.1];exact e
 have a3:vs[j]? =some vs[j]:=eP q;exact(bO.2 j _ x a3 df).Kg (List.all_eq_true.1 h _ (List.mem_of_getElem? a3))
theorem nj{d i off:Nat}{cs:List af}{xs:List Value}(cC:s.get (.g d i)=some (.cells cs))(A:off+xs.length≤cs.length)(au:∀x∈xs,x.oneCell'=true):
  (storeCells ⟨κ.loc d i,off,none⟩ xs).run P w=.ok () (w.setCells (κ.loc d i) off xs):=by
 obtain⟨⟨C,e,i7,q,u,y,_⟩,B⟩:=a6.obj d i _ cC;have F:cs.length≤C.size:=by have:=y.1;simp at this;omega
 have:=run_storeCells_cells (P:=P) (κ.loc d i) off xs 0 w (fun j df=>by rw[fN q];simp;omega) (fun j df=>?_) au
 ·simpa using this
 ·have hu:=u (off+0+j) (by omega);simp only[World.frozen?,q];rw[Bool.and_eq_false_iff];by_cases r:i7.1≤off+0+j
  ·right;simp only[decide_eq_false_iff_not];exact fun h=>hu ⟨r,h⟩
  ·left;simpa using r
omit a6 in
theorem mV{a:Loc}{d i:Nat}(q:a.ap s.aa=.g d i){vs:List af}{xs:List Value}(bO:er κ (s.aa+1) vs xs)(h:s.hB a vs=true):er κ (d+1) vs xs:=by
 unfold ag.hB at h;rcases Bool.or_eq_true _ _ ▸ h with h|az
 rcases Bool.or_eq_true _ _ ▸ h with au|au
 ·have:d=s.aa:=by
   cases a with
   |l j=>simp [Loc.ap] at q;exact q.1.symm
   |g fL j=>simp [Loc.ap] at q;simp [ag.oL] at au;omega
  subst this;exact bO
 ·exact bO.bd au _ (fun _ _ h=>h)
 ·cases a with
  |l j=>cases az
  |g e j=>simp only[Loc.ap,Loc.g.injEq] at q;obtain⟨rfl,rfl⟩:=q;exact⟨bO.1,fun j c x a3 a8=>(bO.2 j c x a3 a8).lower (nv az a3)⟩
theorem qT{E:Env}(bq:E.F=.not){k:af→ag→ah}{r:ah}(bB:r≠.fail){t:TypeId}{n:Nat}{x y:Operand}{v u:af}(dp:ff P t=some n)(a8:dF κ (s.aa+1) (v.ap s.aa) (ρ x))(eT:dF κ (s.aa+1) u (ρ y))
  (aT:fl E s k n v u=r):∃fG s',k fG s'=r∧dQ P (.store t x y) ty ρ κ s w fG s':=by
 cases v<;> simp only[af.ap] at a8<;> simp only[fl] at aT<;> try exact absurd aT.symm bB
 rename_i a off;obtain⟨H,h⟩:=cY aT bB;rw[bn] at H;have hlen:=dk H.2;have I:=eT.cells H.1;unfold iu at h;rw[←ag.hT] at h;cases A:a.ap s.aa with
 |l i=>cases a<;> simp [Loc.ap] at A
 |g d i=>
  rw[A] at h a8;obtain⟨e,cS,bX⟩:=a8.mz;cases cC:s.get (.g d i) with
  |none=>rw[cC] at h;exact absurd h.symm bB
  |some o=>
   rw[cC] at h;cases o<;> try exact absurd h.symm bB
   rename_i cs;obtain⟨B,q⟩:=cY h bB;rw[bn,bn] at B;have au:=d0 B.1.1;simp only[bq,aW.not] at q;rw[←ag.ln,A] at q;cases J:s.set (.g d i) (.cells (dS cs off u.cells)) with
   |none=>rw[J] at q;exact absurd q.symm bB
   |some s'=>
    rw[J] at q;have K:(ρ y).cells.toList.length=u.cells.length:=I.1;have L:=mV A I B.1.2;obtain⟨ho,gF⟩:=a6.store cC J L au;have M:=nj (P:=P) a6 cC (off:=off) (xs:=(ρ y).cells.toList) (by omega) (nA B.2 I);have e4:(ρ y).cells.size=n:=by rw[←Array.length_toList,K,hlen]
    refine⟨_,_,q,undef,κ,_,.inr ⟨fun _ _ _ _=>?_,rfl⟩,gF,ho,.dead _⟩;simp [execOp,Instr.storeAt,e,Instr.sureAddr,storeVar,eC dp,e4,M]
theorem kw{v:af}{X:Value}{sz:Nat}{es:List af}(bO:dF κ (s.aa+1) (v.ap s.aa) X)(h:dL s v=some (sz,es)):
  ((∃fc a,v=.str fc∧X=.string a∧a.data.toList.map UInt8.toNat=fc∧sz=1∧es=fc.map fun b=>.int .u8 (b:Nat))∨
   (∃A c,X=.slice A es.length c∧(A=none→es=[])∧∀a,A=some a→Reads κ (s.aa+1) w a (es.flatMap af.cells)))∧
  af.aY es=true∧∀e,e∈es→e.cells.length=sz:=by
 cases v
 all_goals first|(simp [dL] at h;done)|skip
 case str fc=>
  simp only[dL,bj,e0] at h;obtain⟨rfl,rfl⟩:=h;obtain⟨a,rfl,q⟩:=bO.ic;refine⟨.inl ⟨fc,a,rfl,rfl,q,rfl,rfl⟩,ej.2 (fun c a3=>?_),fun e he=>?_⟩
  ·obtain⟨b,_,rfl⟩:=List.mem_map.1 a3;rfl
  ·obtain⟨b,_,rfl⟩:=List.mem_map.1 he;rfl
 case bG z l g=>
  have key:(z=sz∧l=es)∧(af.aY es=true∨∀a,g≠.dB a):=by
   cases g with
   |dB a=>
    simp only[dL] at h;split at h
    ·rename_i aT;simp only[bj,e0] at h;exact⟨h,.inl (h.2 ▸ aT)⟩
    ·cases h
   |nil=>simp only[dL,bj,e0] at h;exact⟨h,.inr fun a e=>by cases e⟩
   |exact=>simp only[dL,bj,e0] at h;exact⟨h,.inr fun a e=>by cases e⟩
   |any=>simp only[dL,bj,e0] at h;exact⟨h,.inr fun a e=>by cases e⟩
  obtain⟨⟨rfl,rfl⟩,r⟩:=key;rcases bO.hG with⟨rfl,_,rfl⟩|⟨a,cap,dw,rfl,_,_,_,dJ,u,y,B⟩
  ·exact⟨.inr ⟨none,0,rfl,fun _=>rfl,fun a q=>(by cases q)⟩,rfl,fun e he=>(by simp at he)⟩
  ·refine⟨.inr ⟨some a,cap,rfl,fun q=>(by cases q),fun fT q=>?_⟩,?_,dJ⟩
   rotate_left
   ·rcases r with dl|dl
    ·exact dl
    ·exact ej.2 (u.left fun d j e=>by cases g<;> first|exact dl _ rfl |cases e)
   cases q;exact⟨dw,fun j df=>(a6.iG _ _ (y j df)).2,B⟩
 case cZ a off len cap z=>
  simp only[dL] at h;rw[←ag.hT] at h;cases q:a.ap s.aa with
  |l i=>cases a<;> simp [Loc.ap] at q
  |g d i=>
   rw[q] at h;simp only[af.ap,q] at bO;obtain⟨lS,rfl,cS,bX,_⟩:=bO.jU;cases cC:s.get (.g d i) with
   |none=>rw[cC] at h;cases h
   |some o=>
    rw[cC] at h;cases o<;> first|(simp at h;done)|skip
    rename_i cs;simp only at h;split at h
    ·rename_i a3;simp only[bj,e0] at h;obtain⟨rfl,rfl⟩:=h;simp only[bn,Bool.not_eq_true'] at a3;have hC:z≠0:=fun eZ=>by rw[eZ] at a3;simp at a3
     have hle:=d0 a3.1.2;obtain⟨F,H⟩:=kv z hC len (cs.drop off) (by simp;omega);refine⟨.inr ⟨some ⟨κ.loc d i,off,none⟩,lS,(by rw[fr]),fun q=>(by cases q),fun fT q=>?_⟩,a3.1.1,H⟩;cases q;rw[F];obtain⟨dw,pE,qO⟩:=sn (n2 a6 cC off) (show d+1≤s.aa+1 by omega);refine⟨dw,fun j df=>pE j (by simp at df ⊢;omega),fun j c df=>qO j c ?_⟩;rw[List.getElem?_take] at df;split at df
     ·exact df
     ·cases df
    ·cases h
end
section
variable{P:Program}{ty:TypeId}{ρ:Operand→Value}{κ:bi}{s:ag}{w:World}(a6:c3 κ s w)
theorem yn(b:ByteArray)(n:Nat)(κ:bi)(D:Nat):er κ D (((b.data.toList.map UInt8.toNat).take n).map fun m=>af.int .u8 (m:Nat)) ((b.extract 0 n).data.map fun c=>Value.int .u8 c.toNat).toList:=by
 have eZ:(b.extract 0 n).data.toList=b.data.toList.take n:=by rw[nz];simp
 have bK:b.data.toList.length=b.size:=Array.length_toList;refine⟨?_,fun j c x a3 a8=>?_⟩
 ·rw[Array.toList_map,eG,eZ];simp only[eG,List.length_take]
 ·rw[Array.toList_map,eZ,hy] at a8;rw[←List.map_take,List.map_map,hy] at a3;cases gh:(b.data.toList.take n)[j]? with
  |none=>rw[gh] at a8;cases a8
  |some q=>rw[gh] at a8 a3;simp only[ew,bj,Function.comp] at a8 a3;rw[←a8,←a3];exact .int _ _
theorem fo{X:Value}{sz:Nat}{es:List af}{v:af}(h:(∃fc a,v=.str fc∧X=.string a∧a.data.toList.map UInt8.toNat=fc∧sz=1∧es=fc.map fun b=>.int .u8 (b:Nat))∨
   (∃A c,X=.slice A es.length c∧(A=none→es=[])∧∀a,A=some a→Reads κ (s.aa+1) w a (es.flatMap af.cells)))(e4:∀e,e∈es→e.cells.length=sz)(n:Nat)(dp:n≤es.length)(w':World)(hw:∀a,w'.cell? a=w.cell? a):
  (Builtin.lenOf X).run P w'=.ok es.length w'∧∃xs:List Value,(Builtin.firstCells sz n X).run P w'=.ok xs.toArray w'∧er κ (s.aa+1) ((es.take n).flatMap af.cells) xs:=by
 rcases h with⟨fc,a,_,rfl,q,rfl,rfl⟩|⟨A,c,rfl,au,az⟩
 ·have r:a.size=fc.length:=by have:=congrArg List.length q;rw[eG,Array.length_toList] at this;exact this
  simp only[eG] at dp ⊢;refine⟨by simp [Builtin.lenOf,r],((a.extract 0 n).data.map fun c=>Value.int .u8 c.toNat).toList,by simp only[Builtin.firstCells,Array.toArray_toList,Sem.run_pure],?_⟩
  have:=yn a n κ (s.aa+1);rw[q] at this;have e:(List.map (fun b=>af.int IntKind.u8 ((b:Nat):Int)) fc).take n=(fc.take n).map fun m=>af.int .u8 (m:Nat):=by rw[List.map_take]
  rw[e];have u:∀l:List Nat,(l.map fun m=>af.int .u8 (m:Nat)).flatMap af.cells=l.map fun m=>af.int .u8 (m:Nat):=by
   intro l
   induction l with
   |nil=>rfl
   |cons x l y=>simp [List.flatMap_cons,y,af.cells]
  rw[u];exact this
 ·refine⟨by simp [Builtin.lenOf],?_⟩;cases A with
  |none=>
   have:=au rfl;subst this
   have:n=0:=by simpa using dp
   subst this;exact⟨[],by simp [Builtin.firstCells],.nil _ _⟩
  |some a=>
   have aT:=az a rfl;have B:=e8 es sz e4;have io:Reads κ (s.aa+1) w' a (es.flatMap af.cells):=by obtain⟨dw,pE,qO⟩:=aT;exact⟨dw,fun j df=>by rw[hw];exact pE j df,qO⟩
   have hle:n*sz≤(es.flatMap af.cells).length:=by rw[B];exact fV _ dp
   obtain⟨xs,e,a8⟩:=sN (P:=P) io hle;refine⟨xs,by simp only[Builtin.firstCells];exact e,?_⟩
   have:(es.flatMap af.cells).take (n*sz)=(es.take n).flatMap af.cells:=by
    have b3:es.flatMap af.cells=(es.take n).flatMap af.cells++(es.drop n).flatMap af.cells:=by rw[←List.flatMap_append,List.take_append_drop]
    have dJ:((es.take n).flatMap af.cells).length=n*sz:=by rw[e8 _ sz (fun e he=>e4 e (List.mem_of_mem_take he)),List.length_take,Nat.min_eq_left dp]
    rw[b3,←dJ,List.take_left]
   rw[←this];exact a8
theorem C8(e:Nat):∀(r c:Nat),Builtin.growBy e r c≤max c (e+(e+768)/4):=by
 intro r
 induction r with
 |zero=>intro c;simp only[Builtin.growBy];omega
 |succ r h=>
  intro c;simp only[Builtin.growBy];split
  ·omega
  ·have:=h (c+(c+768)/4);omega
theorem nextslicecap_le{e C9:Nat}(h:C9<e):Builtin.nextslicecap e C9≤2*e+400:=by
 unfold Builtin.nextslicecap;split
 ·omega
 ·split
  ·omega
  ·have:=C8 e 4 C9;omega
structure nk (P:Program) (t t2 el:TypeId) (sz bytes:Nat) (z:Value):Prop where
 eh:P.underlying t=some (.slice el)
 lU:(∃hZ,P.underlying t2=some (.slice hZ))∨P.underlying t2=some .string
 info:∃i,P.info? el=some i∧i.size=sz∧i.bytes=bytes∧i.zero=some z
 ac0:z.cells.size=sz
 IN:0<bytes
 wU:bytes≤1048576
theorem nk.size{t t2 el:TypeId}{sz bytes:Nat}{z:Value}(h:nk P t t2 el sz bytes z):ff P el=some sz:=by obtain⟨i,au,az,_⟩:=h.info;simp [ff,au,az]
theorem run_append_fits{t t2 el:TypeId}{sz bytes:Nat}{z:Value}(h:nk P t t2 el sz bytes z){base:Option Addr}{fH jc n:Nat}{X:Value}{xs:List Value}(bK:(Builtin.lenOf X).run P w=.ok n w)(a3:(Builtin.firstCells sz n X).run P w=.ok xs.toArray w)(dp:fH+n≤jc)
  {w':World}(e:match base with
   |some a=>(storeCells (a.add (fH*sz)) xs).run P w=.ok () w'
   |none=>w'=w):(Builtin.append_ #[t,t2] ty #[.slice base fH jc,X]).run P w=.ok (.slice base (fH+n) jc) w':=by
 cases base with
 |none=>subst e;rcases h.lU with⟨hZ,cS⟩|cS<;> simp [Builtin.append_,run_underlying h.eh,run_underlying cS,eC h.size,bK,a3,dp]
 |some a=>simp only at e;rcases h.lU with⟨hZ,cS⟩|cS<;> simp [Builtin.append_,run_underlying h.eh,run_underlying cS,eC h.size,bK,a3,dp,e]
theorem iT{t t2 el:TypeId}{sz bytes:Nat}{z:Value}(h:nk P t t2 el sz bytes z){base:Option Addr}{fH jc n:Nat}{X:Value}{os xs:List Value}(bK:(Builtin.lenOf X).run P w=.ok n w)
  (a3:(Builtin.firstCells sz n X).run P w.drew=.ok xs.toArray w.drew)(r:(Builtin.firstCells sz fH (.slice base fH jc)).run P w.drew=.ok os.toArray w.drew)
  (e:xs.length=n*sz)(q:os.length=fH*sz)(dp:jc<fH+n)(K:(fH+n)*bytes≤1099511627776):
  ∃cap C,fH+n≤cap∧C.size=cap*sz∧(∀j,j<(fH+n)*sz→C[j]? =(os++xs)[j]?)∧
   (Builtin.append_ #[t,t2] ty #[.slice base fH jc,X]).run P w=.ok (.slice (some ⟨w.heap.size,0,none⟩) (fH+n) cap) (w.drew.alloc (.cells C el)):=by
 obtain⟨i,bX,L,u,y⟩:=h.info;have M:(fH+n)*1≤(fH+n)*bytes:=Nat.mul_le_mul_left _ h.IN;have A:¬(fH+n≤jc):=by omega
 have N:Builtin.nextslicecap (fH+n) jc*bytes≤281474976710656:=by
  have au:=nextslicecap_le dp;have az:Builtin.nextslicecap (fH+n) jc*bytes≤(2*(fH+n)+400)*bytes:=fV _ au;have b3:(2*(fH+n)+400)*bytes=2*((fH+n)*bytes)+400*bytes:=by rw[e9,gL]
  have dJ:=h.wU;omega
 let cap:=(Question.appendCap (fH+n) jc el).cut (w.tape w.drawn (.appendCap (fH+n) jc el))
 have sR:fH+n≤cap:=by simp only[cap,Question.cut];omega
 let C:Array Value:=os.toArray++xs.toArray++Builtin.zeroCells z.cells (cap-(fH+n))
 have B:C.size=cap*sz:=by
  have dU:(fH+n)*sz+(cap-(fH+n))*sz=cap*sz:=by rw[←e9];congr 1;omega
  have F:fH*sz+n*sz=(fH+n)*sz:=by rw[e9]
  simp only[C,Array.size_append,List.size_toArray,e,q,Builtin.zeroCells,Array.size_map,Array.size_range,h.ac0];omega
 refine⟨cap,C,sR,B,fun j df=>?_,?_⟩
 ·have F:fH*sz+n*sz=(fH+n)*sz:=by rw[e9]
  simp only[C];rw[Array.getElem?_append_left (by simp only[Array.size_append,List.size_toArray,e,q];omega)];simp
 ·have H:¬(9223372036854775807<((fH:Int)+(n:Int))):=by omega
  have I:¬(281474976710656<Builtin.nextslicecap (fH+n) jc*i.bytes):=by rw[u];omega
  have gh:(Question.appendCap (fH+n) jc el).forced=false:=rfl;have J:¬(fH+n≤jc):=A;rcases h.lU with⟨hZ,cS⟩|cS<;> simp [Builtin.append_,run_underlying h.eh,run_underlying cS,eC h.size,typeInfo,bX,bK,J,H,I,gh,a3,r,zeroValue,y,newRow,C,cap]
end
section
variable{P:Program}{ty:TypeId}{ρ:Operand→Value}{κ:bi}{s:ag}{w:World}(a6:c3 κ s w)
theorem hU{t t2:TypeId}{x y:Operand}{z:Value}{w':World}(h:(Builtin.append_ #[t,t2] ty #[ρ x,ρ y]).run P w=.ok z w')(dst:Option Tmp)(pos:String)(after:Array Edge)(guard:Option (Nat×Bool)):
  (execOp ρ ⟨dst,.call {callee:=.builtin .append,args:= #[x,y],argTypes:= #[t,t2]},ty,pos,after,guard⟩).run P w=.ok (.value z) w':=by
 simp [execOp,resolve,invoke,builtin,h]
theorem dF.yo{κ':bi}{D d i n sz cap b:Nat}{es:List af}{xs:List Value}(cS:d<D)(bX:i<κ'.n d)(eh:κ'.lD d i es.length=some (⟨b,0,none⟩,cap,sz))(dp:es.length≤cap)(e4:∀e,e∈es→e.cells.length=sz)(aT:∀e,e∈es→e.low d=true)
  (a8:er κ' D (es.flatMap af.cells) xs)(h9:∀j,j<(es.flatMap af.cells).length→κ'.F ⟨b,j,none⟩=xs[j]?)(bK:n=es.length):dF κ' D (.bG sz es (.dB (.g d i))) (.slice (some ⟨b,0,none⟩) n cap):=by
 subst bK;refine .bG sz es _ _ _ (fun j=>xs.getD j undef) ⟨cS,bX,eh⟩ dp (fun _=>rfl) e4 (.inr ⟨d,i,rfl,aT⟩) (fun j df=>?_) (fun j c a3=>?_)
 ·rw[fZ rfl];simp only[bg];rw[h9 j df]
  have:j<xs.length:=by rw[a8.1];exact df
  simp [List.getD,this]
 ·obtain⟨y,eT,bO⟩:=a8.get a3
  have:xs.getD j undef=y:=by simp [List.getD,eT]
  rw[this];exact bO
include a6
def Form(κ:bi)(s:ag)(w:World)(v:af)(X:Value)(sz:Nat)(es:List af):Prop:=
 (∃fc a,v=.str fc∧X=.string a∧a.data.toList.map UInt8.toNat=fc∧sz=1∧es=fc.map fun b=>.int .u8 (b:Nat))∨
   (∃A c,X=.slice A es.length c∧(A=none→es=[])∧∀a,A=some a→Reads κ (s.aa+1) w a (es.flatMap af.cells))
theorem qU{t t2 el:TypeId}{sz bytes:Nat}{z:Value}(h:nk P t t2 el sz bytes z){x y:Operand}{es new:List af}{base:Option Addr}{r:Nat}{Y:af}(kM:ρ x=.slice base es.length r)(B:Form κ s w Y (ρ y) sz new)(q:∀e,e∈new→e.cells.length=sz)
  (K:(∃A c,ρ x=.slice A es.length c∧(A=none→es=[])∧∀a,A=some a→Reads κ (s.aa+1) w a (es.flatMap af.cells)))(e4:∀e,e∈es→e.cells.length=sz)(sR:r<es.length+new.length)(L:(es.length+new.length)*bytes≤1099511627776){ma l:Loc}{s':ag}(M:s.hi ma (.tok (es.length+new.length))=some (l,s'))
  (aT:∀d i,l.ap s.aa=.g d i→∀e,e∈es++new→e.low d=true):
  dQ P (.call {callee:=.builtin .append,args:= #[x,y],argTypes:= #[t,t2]}) ty ρ κ s w (.bG sz (es++new) (.dB l)) s':=by
 obtain⟨N,O,bK,F⟩:=iv.by M
 obtain⟨hlen,xs,a3,f0⟩:=fo (P:=P) B q new.length (aC _) w.drew (fun _=>rfl);have U:=(fo (P:=P) B q new.length (aC _) w (fun _=>rfl)).1;obtain⟨_,os,H,u⟩:=fo (P:=P) (X:=ρ x) (v:=.dead) (.inr K) e4 es.length (aC _) w.drew (fun _=>rfl);simp only[List.take_length] at f0 u;have V:xs.length=new.length*sz:=by rw[f0.1,e8 new sz q]
 have Z:os.length=es.length*sz:=by rw[u.1,e8 es sz e4]
 rw[kM] at H;obtain⟨cap,C,I,ab,ac,ad⟩:=iT (ty:=ty) h (base:=base) (fH:=es.length) (jc:=r) U a3 H V Z sR L;obtain⟨κ',ho,gF,ae,ni,im⟩:=a6.FE (w':=w.drew.alloc (.cells C el)) C el (es.length+new.length) sz cap F ab I rfl rfl rfl rfl;refine⟨_,κ',_,.inl (hU (by rw[kM];exact ad)),gF,ho,?_⟩;simp only[af.ap,fi.ap,bK];have J:∀e,e∈es++new→e.cells.length=sz:=fun e he=>by
  rcases List.mem_append.1 he with he|he
  ·exact e4 e he
  ·exact q e he
 refine dF.yo (Nat.lt_succ_of_le F.le) ae (by rw[fJ];exact ni) (by rw[fJ];exact I) J (aT N O bK) (xs:=os++xs) (by rw[List.flatMap_append];exact(u.append f0).mono gF.k) (fun j df=>?_) (by rw[fJ]);rw[e8 _ sz J,fJ] at df;rw[im j df,ac j df]
theorem sS{t t2 el:TypeId}{sz bytes:Nat}{z:Value}(h:nk P t t2 el sz bytes z){x y:Operand}{es new:List af}{base:Option Addr}{q:Nat}{Y:af}(kM:ρ x=.slice base es.length q)(r:dF κ (s.aa+1) (Y.ap s.aa) (ρ y))(iQ:dL s Y=some (sz,new))
  (u:(∃A c,ρ x=.slice A es.length c∧(A=none→es=[])∧∀a,A=some a→Reads κ (s.aa+1) w a (es.flatMap af.cells)))(e4:∀e,e∈es→e.cells.length=sz)(aT:∀e,e∈es→e.bd=true)(sR:q<es.length+new.length)(B:(es.length+new.length)*bytes≤1099511627776){ma l:Loc}{s':ag}(F:s.hi ma (.tok (es.length+new.length))=some (l,s')):
  dQ P (.call {callee:=.builtin .append,args:= #[x,y],argTypes:= #[t,t2]}) ty ρ κ s w (.bG sz (es++new) (.dB l)) s':=by
 obtain⟨H,I,J⟩:=kw a6 r iQ;refine qU a6 h kM H J u e4 sR B F fun d i _ e he=>af.lT _ _ ?_
 rcases List.mem_append.1 he with he|he
 ·exact aT e he
 ·exact ej.1 I e he
theorem sT{t t2 el:TypeId}{q bytes:Nat}{z:Value}(h:nk P t t2 el q bytes z){x y:Operand}{es new:List af}{Y:af}(M:Form κ s w Y (ρ y) q new)(u:∀e,e∈new→e.cells.length=q)(lL:0<new.length){a:Loc}{s':ag}(kM:dF κ (s.aa+1) (.bG q es (.dB (a.ap s.aa))) (ρ x))
  (H:s.get a=some (.tok es.length))(al:(new.flatMap af.cells).all af.eO=true)(I:s.set a (.tok (es.length+new.length))=some s')(ab:si s a new=true)(am:(es.length+new.length)*bytes≤1099511627776):
  dQ P (.call {callee:=.builtin .append,args:= #[x,y],argTypes:= #[t,t2]}) ty ρ κ s w (.bG q (es++new) (.dB a)) s':=by
 rw[←ag.hT] at H;rw[←ag.ln] at I;rcases kM.hG with⟨_,cC,_⟩|⟨A,cap,dw,e,cC,dp,aG,dJ,B,ac,ad⟩
 ·cases cC
 cases r:a.ap s.aa with
 |l i=>cases a<;> simp [Loc.ap] at r
 |g d i=>
  rw[r] at H I cC B;obtain⟨cS,bX,ae⟩:=cC;have an:∀e,e∈new→e.low d=true:=by
   cases a with
   |l j=>simp only[Loc.ap,Loc.g.injEq] at r;exact kT.1 (r.1 ▸ ab)
   |g fL j=>simp only[Loc.ap,Loc.g.injEq] at r;exact kT.1 (r.1 ▸ ab)
  have ao:∀e,e∈es→e.low d=true:=by
   rcases B with B|⟨fL,hI,hZ,B⟩
   ·exact fun e he=>af.lT _ _ (B e he)
   ·cases hZ;exact B
  obtain⟨b,aH,aI,t1,aJ,⟨aq,oG,ar,t3,t4,t5⟩,t6,t7⟩:=a6.obj d i _ H;rw[ae] at t1;simp only[bj,e0] at t1;obtain⟨rfl,rfl,rfl⟩:=t1;have J:∀e,e∈es++new→e.cells.length=q:=fun e he=>by
   rcases List.mem_append.1 he with he|he
   ·exact dJ e he
   ·exact u e he
  have ah:∀e,e∈es++new→e.low d=true:=fun e he=>by
   rcases List.mem_append.1 he with he|he
   ·exact ao e he
   ·exact an e he
  have as:Reads κ (s.aa+1) w ⟨b,0,none⟩ (es.flatMap af.cells):=⟨dw,fun j df=>(a6.iG _ _ (ac j df)).2,ad⟩;have K:=e8 es q dJ;by_cases L:es.length+new.length≤cap
  ·
   obtain⟨hlen,xs,a3,f0⟩:=fo (P:=P) M u new.length (aC _) w (fun _=>rfl);simp only[List.take_length] at f0;have N:xs.length=new.length*q:=by rw[f0.1,e8 new q u]
   have av:(es.length+new.length)*q≤aq.size:=by rw[t4];exact fV _ L
   rw[e9] at av;have au:=nA al f0;have aw:=run_storeCells_cells (P:=P) b (es.length*q) xs 0 w (fun j df=>by rw[fN t3];simp;omega) (fun j df=>by
    have hu:=t5 (es.length*q+0+j) (by omega);simp only[World.frozen?,t3];rw[Bool.and_eq_false_iff];by_cases ai:ar.1≤es.length*q+0+j
    ·right;simp only[decide_eq_false_iff_not];exact fun h=>hu ⟨ai,h⟩
    ·left;simpa using ai) au
   have ax:=run_append_fits (ty:=ty) h (base:=some ⟨b,0,none⟩) (fH:=es.length) (jc:=cap) hlen a3 L (w':=w.setCells b (es.length*q) xs) (by
    have ay:(⟨b,0,none⟩:Addr).add (es.length*q)=⟨b,es.length*q,none⟩:=by rw[fZ rfl];simp
    simp only[ay];simpa using aw)
   obtain⟨κ',ho,gF,O,ni⟩:=a6.Ke H ae I (by omega) L xs (by rw[N];congr 1;omega);refine⟨_,κ',_,.inl (hU (by rw[e];exact ax)),gF,ho,?_⟩;simp only[af.ap,fi.ap,r];have hold:er κ (s.aa+1) (es.flatMap af.cells) ((List.range (es.length*q)).map dw):=by
    refine⟨by simp [K],fun j c x a3 a8=>?_⟩;have df:j<es.length*q:=by rw[←K];exact(ey.1 a3).1
    have:(List.range (es.length*q))[j]? =some j:=by simp [df]
    rw[hy,this] at a8;simp only[ew,bj] at a8;exact a8 ▸ ad j c a3
   refine dF.yo cS (f8 bX (gF.k.n d cS)) (by rw[fJ];exact O) (by rw[fJ];exact L) J ah (xs:=(List.range (es.length*q)).map dw++xs) (by rw[List.flatMap_append];exact(hold.append f0).mono gF.k) (fun j df=>?_) (by rw[fJ]);rw[e8 _ q J,fJ,e9] at df;by_cases U:j<es.length*q
   ·rw[hn (by simpa using U)];have V:=gF.k.F _ _ (ac j (by rw[K];exact U));rw[fZ rfl] at V;simp only[bg] at V;rw[V];simp [U]
   ·rw[j5 (by simp;omega)];obtain⟨m,rfl⟩:∃m,j=es.length*q+m:=⟨j-es.length*q,by omega⟩;have hm:m<xs.length:=by omega
    rw[ni m xs[m] (eP hm)];simp [hm]
  ·
   obtain⟨hlen,xs,a3,f0⟩:=fo (P:=P) M u new.length (aC _) w.drew (fun _=>rfl);have az:=(fo (P:=P) M u new.length (aC _) w (fun _=>rfl)).1;obtain⟨_,os,aj,Z⟩:=fo (P:=P) (X:=ρ x) (v:=.dead) (.inr ⟨some ⟨b,0,none⟩,cap,e,fun r=>(by cases r),fun fT r=>(by cases r;exact as)⟩) dJ es.length (aC _) w.drew (fun _=>rfl);simp only[List.take_length] at f0 Z;have N:xs.length=new.length*q:=by rw[f0.1,e8 new q u]
   have aA:os.length=es.length*q:=by rw[Z.1,K]
   rw[e] at aj;obtain⟨aB,C,ak,aD,aE,aF⟩:=iT (ty:=ty) h (base:=some ⟨b,0,none⟩) (fH:=es.length) (jc:=cap) az a3 aj N aA (by omega) am;obtain⟨κ',ho,gF,O,ni⟩:=a6.Kf (w':=w.drew.alloc (.cells C el)) H I (by omega) C el aB q aD ak rfl rfl rfl rfl;refine⟨_,κ',_,.inl (hU (by rw[e];exact aF)),gF,ho,?_⟩;simp only[af.ap,fi.ap,r];refine dF.yo cS (f8 bX (gF.k.n d cS)) (by rw[fJ];exact O) (by rw[fJ];exact ak) J ah (xs:=os++xs) (by rw[List.flatMap_append];exact(Z.append f0).mono gF.k) (fun j df=>?_) (by rw[fJ]);rw[e8 _ q J,fJ] at df;rw[ni j df,aE j df]
theorem pR{E:Env}(bq:E.F=.not){k:af→ag→ah}{r:ah}(bB:r≠.fail){t t2 el:TypeId}{sz bytes:Nat}{z:Value}(h:nk P t t2 el sz bytes z){x y:Operand}{X Y:af}
  (kM:dF κ (s.aa+1) (X.ap s.aa) (ρ x))(M:dF κ (s.aa+1) (Y.ap s.aa) (ρ y)){ma:Loc}(aT:h7 E s k sz bytes ma X Y=r):∃fG s',k fG s'=r∧dQ P (.call {callee:=.builtin .append,args:= #[x,y],argTypes:= #[t,t2]}) ty ρ κ s w fG s':=by
 unfold h7 at aT;cases iQ:dL s Y with
 |none=>rw[iQ] at aT;exact absurd aT.symm bB
 |some p=>
  obtain⟨ad,new⟩:=p;rw[iQ] at aT;obtain⟨N,ae,L⟩:=kw a6 M iQ;cases X<;> simp only[af.ap] at kM<;> simp only[bq,aW.not] at aT<;> try exact absurd aT.symm bB
  case bG q es g=>
   obtain⟨H,u⟩:=cY aT bB;clear aT;rw[bn,bn] at H;have O:ad=sz:=dk H.1.1;have U:q=sz:=dk H.1.2;have V:=d0 H.2;subst O;subst U;cases new with
   |nil=>
    simp only at u;refine⟨_,_,u,?_⟩;obtain⟨hlen,xs,a3,f0⟩:=fo (P:=P) N L 0 (aC _) w (fun _=>rfl);have al:xs=[]:=kQ (by rw[f0.1];rfl);subst al
    have:∃A cap,ρ x=.slice A es.length cap∧es.length≤cap:=by
     rcases kM.hG with⟨rfl,_,e⟩|⟨a,cap,_,e,_,dp,_⟩
     ·exact⟨none,0,e,aC _⟩
     ·exact⟨some a,cap,e,dp⟩
    obtain⟨A,cap,e,dp⟩:=this;have Z:=run_append_fits (ty:=ty) h (base:=A) (fH:=es.length) (jc:=cap) hlen a3 (by simpa using dp) (w':=w) (by cases A with
     |none=>rfl
     |some a=>simp [storeCells])
    refine bF a6 _ (hU (by rw[e];exact Z)) ?_;simp only[af.ap,cy,Nat.add_zero];rw[←e];exact kM
   |cons am PF=>
    simp only at u;generalize an:am::PF=new at *;have lL:0<new.length:=by rw[←an];simp
    cases g with
    |any=>exact absurd u.symm bB
    |nil=>
     simp only at u;cases I:s.hi ma (.tok (es.length+new.length)) with
     |none=>rw[I] at u;exact absurd u.symm bB
     |some p=>
     obtain⟨l,ao⟩:=p;rw[I] at u;refine⟨_,_,u,?_⟩;rcases kM.hG with⟨rfl,_,e⟩|⟨a,cap,_,e,cC,_⟩
     ·exact sS a6 h e M iQ ⟨none,0,e,fun _=>rfl,fun a B=>(by cases B)⟩ (fun e he=>by simp at he) (fun e he=>by simp at he) (by simpa using lL) V I
     ·simp [fi.ap,iF] at cC
    |exact=>
     simp only at u;cases I:s.hi ma (.tok (es.length+new.length)) with
     |none=>rw[I] at u;exact absurd u.symm bB
     |some p=>
     obtain⟨l,ao⟩:=p;rw[I] at u;refine⟨_,_,u,?_⟩;rcases kM.hG with⟨_,cC,_⟩|⟨a,cap,dw,e,cC,dp,aH,dJ,ai,aj,aq⟩
     ·simp [fi.ap] at cC
     ·simp only[fi.ap,iF] at cC;subst cC;exact sS a6 h e M iQ ⟨some a,_,e,fun B=>(by cases B),fun fT B=>(by cases B;exact⟨dw,fun j df=>(a6.iG _ _ (aj j df)).2,aq⟩)⟩ dJ (ai.left fun d j e=>(by cases e)) (by omega) V I
    |dB a=>
     simp only at u
     ·rw[←ag.hT] at u;cases B:a.ap s.aa with
      |l i=>cases a<;> simp [Loc.ap] at B
      |g d i=>
       rw[B] at u;cases ab:s.get (.g d i) with
       |none=>rw[ab] at u;exact absurd u.symm bB
       |some o=>
        rw[ab] at u;cases o<;> try exact absurd u.symm bB
        rename_i n;obtain⟨ac,K⟩:=cY u bB;rw[bn] at ac;have ar:n=es.length:=dk ac.1;subst ar;rw[←ag.ln,B] at K;cases J:s.set (.g d i) (.tok (es.length+new.length)) with
        |none=>rw[J] at K;exact absurd K.symm bB
        |some s'=>
         rw[J] at K;refine⟨_,_,K,?_⟩;have as:s.get a=some (.tok es.length):=by rw[←ag.hT,B];exact ab
         have au:s.set a (.tok (es.length+new.length))=some s':=by rw[←ag.ln,B];exact J
         refine sT a6 h N L lL kM as ac.2 au ?_ V;unfold si;cases a<;> exact af.iL _ _ ae
  case cZ a off len cap q=>
   rw[←ag.hT] at aT;cases B:a.ap s.aa with
   |l i=>cases a<;> simp [Loc.ap] at B
   |g d i=>
    rw[B] at aT kM;obtain⟨lS,e,cS,bX,aI,uL⟩:=kM.jU;cases cC:s.get (.g d i) with
    |none=>rw[cC] at aT;exact absurd aT.symm bB
    |some o=>
     rw[cC] at aT;cases o<;> try exact absurd aT.symm bB
     rename_i cs;obtain⟨H,u⟩:=cY aT bB;simp only[bn] at H;obtain⟨⟨⟨⟨⟨av,aw⟩,ax⟩,ay⟩,aJ⟩,az⟩:=H;have O:ad=sz:=dk av;have U:q=sz:=dk aw;subst O;subst U;have b3:=d0 ax;have dJ:=d0 ay;rw[←ag.ln,B] at u;have ak:=e8 new q L;cases J:s.set (.g d i) (.cells (dS cs (off+len*q) (new.flatMap af.cells))) with
     |none=>rw[J] at u;exact absurd u.symm bB
     |some s'=>
      rw[J] at u;refine⟨_,_,u,?_⟩;obtain⟨hlen,xs,a3,f0⟩:=fo (P:=P) N L new.length (aC _) w (fun _=>rfl);simp only[List.take_length] at f0;have hmul:off+(len+new.length)*q=off+len*q+new.length*q:=by rw[e9];omega
      have aK:xs.length=new.length*q:=by rw[f0.1,ak]
      have qh:af.aY (new.flatMap af.cells)=true:=ej.2 (fun c a3=>by obtain⟨hZ,aA,aB⟩:=List.mem_flatMap.1 a3;exact ia (ej.1 ae hZ aA) aB)
      have aD:=mV B f0 (by simp [ag.hB,qh]);obtain⟨ho,gF⟩:=a6.store cC J aD (by rw[ak];omega);have aE:=nj (P:=P) a6 cC (off:=off+len*q) (xs:=xs) (by omega) (nA az f0);have aF:lS=cap:=by
       rcases uL with h|⟨ai,aj,_⟩
       ·exact h
       ·omega
      subst aF;have Z:=run_append_fits (ty:=ty) h (base:=some ⟨κ.loc d i,off,none⟩) (fH:=len) (jc:=lS) hlen a3 b3 (w':=w.setCells (κ.loc d i) (off+len*q) xs) (by
       have aG:(⟨κ.loc d i,off,none⟩:Addr).add (len*q)=⟨κ.loc d i,off+len*q,none⟩:=by rw[fZ rfl]
       simp only[aG];exact aE)
      refine⟨_,κ,_,.inl (hU (by rw[e];exact Z)),gF,ho,?_⟩;simp only[af.ap,B];exact .cZ d i off _ lS lS q cS bX b3 (.inl rfl)
theorem uM{E:Env}(bq:E.F=.not){k:af→ag→ah}{r:ah}(bB:r≠.fail){t t2 el:TypeId}{sz bytes:Nat}{z:Value}(h:nk P t t2 el sz bytes z){x y:Operand}{X Y:af}
  (kM:dF κ (s.aa+1) (X.ap s.aa) (ρ x))(N:dF κ (s.aa+1) (Y.ap s.aa) (ρ y)){ma:Loc}(aT:kb E s k sz bytes ma X Y=r):∃fG s',k fG s'=r∧dQ P (.call {callee:=.builtin .append,args:= #[x,y],argTypes:= #[t,t2]}) ty ρ κ s w fG s':=by
 unfold kb at aT;cases Y<;> simp only[af.ap] at N<;> simp only[bq,aW.not] at aT<;> try exact absurd aT.symm bB
 rename_i Z new am;cases X<;> simp only[af.ap] at kM<;> try exact absurd aT.symm bB
 rename_i q es g;obtain⟨J,A⟩:=cY aT bB;clear aT;rw[bn,bn] at J;have ab:Z=sz:=dk J.1.1;have ac:q=sz:=dk J.1.2;have O:=d0 J.2;subst ab;subst ac;have ad:Form κ s w .dead (ρ y) q new∧∀e,e∈new→e.cells.length=q:=by
  rcases N.hG with⟨rfl,_,e⟩|⟨a,cap,dw,e,_,_,_,dJ,_,ae,ai⟩
  ·exact⟨.inr ⟨none,0,e,fun _=>rfl,fun a H=>(by cases H)⟩,fun e he=>(by simp at he)⟩
  ·exact⟨.inr ⟨some a,cap,e,fun H=>(by cases H),fun fT H=>(by cases H;exact⟨dw,fun j df=>(a6.iG _ _ (ae j df)).2,ai⟩)⟩,dJ⟩
 obtain⟨U,V⟩:=ad;cases new with
 |nil=>exact absurd A.symm bB
 |cons aj PF=>
  simp only at A;generalize ak:aj::PF=new at *;have lL:0<new.length:=by rw[←ak];simp
  cases g with
  |any=>exact absurd A.symm bB
  |exact=>exact absurd A.symm bB
  |nil=>
   simp only at A;obtain⟨I,B⟩:=cY A bB;cases u:s.hi ma (.tok (es.length+new.length)) with
   |none=>rw[u] at B;exact absurd B.symm bB
   |some p=>
   obtain⟨l,an⟩:=p;rw[u] at B;refine⟨_,_,B,?_⟩;rcases kM.hG with⟨rfl,_,e⟩|⟨a,cap,_,e,cC,_⟩
   ·refine qU a6 h e U V ⟨none,0,e,fun _=>rfl,fun a H=>(by cases H)⟩ (fun e he=>by simp at he) (by simpa using lL) O u fun d i bK e he=>?_
    simp only[List.nil_append] at he;have cS:si s ma new=true→∀e,e∈new→e.low d=true:=by
     intro I;cases ma with
     |l j=>simp only[ag.hi,bj,e0] at u;obtain⟨rfl,_⟩:=u;simp only[Loc.ap,Loc.g.injEq] at bK;exact kT.1 (bK.1 ▸ I)
     |g fL j=>
      simp only[ag.hi] at u;split at u
      ·rename_i ao;simp only[bj,e0] at u;obtain⟨rfl,_⟩:=u;simp only[Loc.ap,Loc.g.injEq] at bK
       have:fL=d:=by omega
       exact kT.1 (this ▸ I)
      ·split at u
       ·split at u
        ·simp only[bj,e0] at u;obtain⟨rfl,_⟩:=u;simp only[Loc.ap,Loc.g.injEq] at bK;exact kT.1 (bK.1 ▸ I)
        ·cases u
       ·cases u
    exact cS I e he
   ·simp [fi.ap,iF] at cC
  |dB a=>
   simp only at A;cases L:s.get a with
   |none=>rw[L] at A;exact absurd A.symm bB
   |some o=>
    rw[L] at A;cases o<;> try exact absurd A.symm bB
    rename_i n;obtain⟨K,B⟩:=cY A bB;rw[bn,bn] at K;have al:n=es.length:=dk K.1.1;subst al;cases M:s.set a (.tok (es.length+new.length)) with
    |none=>rw[M] at B;exact absurd B.symm bB
    |some s'=>rw[M] at B;exact⟨_,_,B,sT a6 h U V lL kM L K.1.2 M K.2 O⟩
theorem qj{G:Nat→af}{ao:Nat→af}{a:Act}(bZ:wB κ s ao a)(dX:km κ G){t el:TypeId}{sz:Nat}{z:List af}{ec:List bC}{r:List Operand}(eh:P.underlying t=some (.slice el))(e4:ff P el=some sz)(hC:j1 P el z=true)(A:z.length=sz)
  (gZ:¬(r.length*sz>2^24))(dg:dC ec r=true){es:List af}(y:ec.map (fun x=>(aq G ao x).ap s.aa)=es)(aT:af.kK s.aa es=true)(bO:∀e,e∈es→e.fh=true∧e.cells.length=sz):
  dQ P (.buildSlice t r.length (r.zipIdx.map fun p=>(p.2,p.1)).toArray) ty a.eval κ s w (.bG sz es (.dB (.l s.own.length))) (s.new (.tok es.length)):=by
 obtain⟨v,e,au,_,_⟩:=kX hC w;have L:v.cells.size=sz:=by rw[←Array.length_toList,(au κ 0).1,A]
 have hlen:es.length=r.length:=by
  have:∀(ec:List bC) (r:List Operand),dC ec r=true→ec.length=r.length:=by
   intro ec
   induction ec with
   |nil=>intro r h;cases r<;> simp [dC] at h ⊢
   |cons p ec B=>intro r h;cases r with
    |nil=>simp [dC] at h
    |cons q r=>simp only[dC,bn] at h;simp [B r h.2]
  simp [←y,this ec r dg]
 obtain⟨xs,hZ,f0⟩:=mU bZ dX sz ec r 0 es [] ((Array.range (r.length*sz)).map (v.cells[· % v.cells.size]!)).toList dg y.symm bO (by simp) (by simp);have F:∀dst pos after guard,(execOp a.eval ⟨dst,.buildSlice t r.length (r.zipIdx.map fun p=>(p.2,p.1)).toArray,ty,pos,after,guard⟩).run P w=.ok (.value (.slice (some ⟨w.heap.size,0,none⟩) r.length r.length)) (w.alloc (.cells xs.toArray el)):=by
  intro dst pos after guard;simp only[List.nil_append,Array.toArray_toList] at hZ;have H:=lE (parts:=((r.zipIdx.map fun p=>(p.2,p.1)).toArray.map fun p=>(p.1,a.eval p.2))) eh e4 e gZ (xs:=xs.toArray) (by rw[Array.toList_map,List.map_map];exact hZ)
  have a8:∀(o:Oper),o.op=.buildSlice t r.length (r.zipIdx.map fun p=>(p.2,p.1)).toArray→execOp a.eval o=(do pure (.value (←Instr.buildSlice t r.length ((r.zipIdx.map fun p=>(p.2,p.1)).toArray.map fun p=>(p.1,a.eval p.2)))):Sem Next):=by intro o I;unfold execOp;rw[I]
  rw[a8 _ rfl,Sem.run_bind,H];rfl
 have u:∀e,e∈es→e.cells.length=sz:=fun e he=>(bO e he).2
 have J:xs.length=es.length*sz:=by rw[f0.1,e8 _ sz u]
 obtain⟨κ',ho,gF,K,ni,im⟩:=a6.FE (w':=w.alloc (.cells xs.toArray el)) xs.toArray el es.length sz es.length (iv.new s _) (by simpa using J) (aC _) rfl rfl rfl rfl;refine⟨_,κ',_,.inl F,gF,ho,?_⟩;simp only[af.ap,fi.ap,Loc.ap];rw[←hlen];refine dF.yo (Nat.lt_succ_self _) K ni (aC _) u (kT.1 aT) (xs:=xs) (f0.mono gF.k) (fun j df=>?_) rfl;rw[e8 _ sz u] at df;rw[im j df];simp
theorem qk{G:Nat→af}{ao:Nat→af}{a:Act}(bZ:wB κ s ao a)(dX:km κ G){t el:TypeId}{sz:Nat}{z:List af}{ec:List bC}{r:List Operand}(eh:P.underlying t=some (.slice el))(e4:ff P el=some sz)(hC:j1 P el z=true)(y:z.length=sz)
  (gZ:¬(r.length*sz>2^24))(dg:dC ec r=true){es:List af}(u:ec.map (fun x=>(aq G ao x).ap s.aa)=es)(bO:∀e,e∈es→e.fh=true∧e.cells.length=sz):
  dQ P (.buildSlice t r.length (r.zipIdx.map fun p=>(p.2,p.1)).toArray) ty a.eval κ s w (.cZ (.l s.own.length) 0 es.length es.length sz) (s.new (.cells (es.flatMap af.cells))):=by
 obtain⟨v,e,au,_,_⟩:=kX hC w;have J:v.cells.size=sz:=by rw[←Array.length_toList,(au κ 0).1,y]
 have hlen:es.length=r.length:=by
  have:∀(ec:List bC) (r:List Operand),dC ec r=true→ec.length=r.length:=by
   intro ec
   induction ec with
   |nil=>intro r h;cases r<;> simp [dC] at h ⊢
   |cons p ec A=>intro r h;cases r with
    |nil=>simp [dC] at h
    |cons q r=>simp only[dC,bn] at h;simp [A r h.2]
  simp [←u,this ec r dg]
 obtain⟨xs,hZ,f0⟩:=mU bZ dX sz ec r 0 es [] ((Array.range (r.length*sz)).map (v.cells[· % v.cells.size]!)).toList dg u.symm bO (by simp) (by simp);have B:∀dst pos after guard,(execOp a.eval ⟨dst,.buildSlice t r.length (r.zipIdx.map fun p=>(p.2,p.1)).toArray,ty,pos,after,guard⟩).run P w=.ok (.value (.slice (some ⟨w.heap.size,0,none⟩) r.length r.length)) (w.alloc (.cells xs.toArray el)):=by
  intro dst pos after guard;simp only[List.nil_append,Array.toArray_toList] at hZ;have F:=lE (parts:=((r.zipIdx.map fun p=>(p.2,p.1)).toArray.map fun p=>(p.1,a.eval p.2))) eh e4 e gZ (xs:=xs.toArray) (by rw[Array.toList_map,List.map_map];exact hZ)
  have a8:∀(o:Oper),o.op=.buildSlice t r.length (r.zipIdx.map fun p=>(p.2,p.1)).toArray→execOp a.eval o=(do pure (.value (←Instr.buildSlice t r.length ((r.zipIdx.map fun p=>(p.2,p.1)).toArray.map fun p=>(p.1,a.eval p.2)))):Sem Next):=by intro o H;unfold execOp;rw[H]
  rw[a8 _ rfl,Sem.run_bind,F];rfl
 obtain⟨κ',ho,gF,I,ni⟩:=a6.oP (es.flatMap af.cells) xs.toArray el (by simpa using f0) (w':=w.alloc (.cells xs.toArray el)) rfl rfl rfl rfl;refine⟨_,κ',_,.inl B,gF,ho,?_⟩;simp only[af.ap,Loc.ap];rw[←I,←hlen];exact .cZ _ _ _ _ _ _ _ (Nat.lt_succ_self _) ni (aC _) (.inl rfl)
end
section
variable{P:Program}{ty:TypeId}{ρ:Operand→Value}{κ:bi}{s:ag}{w:World}(a6:c3 κ s w)
include a6
theorem z0{E:Env}(bq:E.F=.not){k:af→ag→ah}{r:ah}(bB:r≠.fail){t t2 el:TypeId}{sz:Nat}(eh:P.underlying t=some (.slice el))(hC:ff P el=some sz){x y:Operand}{X Y:af}(gh:∀a off len cap q,X=.cZ a off len cap q→q=sz)
  (kM:dF κ (s.aa+1) (X.ap s.aa) (ρ x))(K:dF κ (s.aa+1) (Y.ap s.aa) (ρ y))(aT:copyV E s k X Y=r):∃fG s',k fG s'=r∧dQ P (.call {callee:=.builtin .copy,args:= #[x,y],argTypes:= #[t,t2]}) ty ρ κ s w fG s':=by
 cases X<;> simp only[af.ap] at kM<;> simp only[copyV] at aT<;> try exact absurd aT.symm bB
 rename_i a off len cap q;obtain rfl:=gh _ _ _ _ _ rfl;cases iQ:dL s Y with
 |none=>rw[iQ] at aT;exact absurd aT.symm bB
 |some p=>
  obtain⟨h,es⟩:=p;rw[iQ] at aT;obtain⟨L,M,H⟩:=kw a6 K iQ;simp only at aT;rw[←ag.hT] at aT;cases A:a.ap s.aa with
  |l i=>cases a<;> simp [Loc.ap] at A
  |g d i=>
   rw[A] at aT kM;obtain⟨lS,e,cS,bX,_⟩:=kM.jU;cases cC:s.get (.g d i) with
   |none=>rw[cC] at aT;exact absurd aT.symm bB
   |some o=>
    rw[cC] at aT;cases o<;> try exact absurd aT.symm bB
    rename_i cs;simp only[bq,aW.not] at aT;obtain⟨I,u⟩:=cY aT bB;simp only[bn] at I;obtain⟨⟨N,O⟩,U⟩:=I;have V:h=q:=dk N;subst V;have az:=d0 O;rw[←ag.ln,A] at u;obtain⟨hlen,xs,a3,f0⟩:=fo (P:=P) L H (min es.length len) (Nat.min_le_left _ _) w (fun _=>rfl);have J:((es.take (min es.length len)).flatMap af.cells).length=min es.length len*h:=by rw[e8 _ h (fun e he=>H e (List.mem_of_mem_take he)),List.length_take];congr 1;omega
    have hmul:min es.length len*h≤len*h:=fV _ (Nat.min_le_right _ _);have qh:af.aY ((es.take (min es.length len)).flatMap af.cells)=true:=ej.2 (fun c a3=>by obtain⟨hZ,Z,ab⟩:=List.mem_flatMap.1 a3;exact ia (ej.1 M hZ (List.mem_of_mem_take Z)) ab)
    cases B:s.set (.g d i) (.cells (dS cs off ((es.take (min es.length len)).flatMap af.cells))) with
    |none=>rw[B] at u;exact absurd u.symm bB
    |some s'=>
     rw[B] at u;refine⟨_,_,u,?_⟩;have ae:xs.length=min es.length len*h:=by rw[f0.1,J]
     have ac:=mV A f0 (by simp [ag.hB,qh]);obtain⟨ho,gF⟩:=a6.store cC B ac (by rw[J];omega);have ad:=nj (P:=P) a6 cC (off:=off) (xs:=xs) (by omega) (nA U f0);have ai:Nat.min es.length len=min es.length len:=rfl;refine⟨.int .i64 (min es.length len:Nat),κ,_,.inl (fun _ _ _ _=>?_),gF,ho,.int _ _⟩;simp only[execOp,resolve,invoke,builtin,List.map_toArray,fK,List.map_nil,Sem.run_bind,Sem.run_pure,Result.andThen_ok]
     have:(Builtin.copy_ #[t,t2] ty #[ρ x,ρ y]).run P w=.ok (goInt (min es.length len:Nat)) (w.setCells (κ.loc d i) off xs):=by simp [Builtin.copy_,run_underlying eh,e,hlen,eC hC,a3,ad]
     simp [this,goInt]
theorem qV{E:Env}(bq:E.F=.not){k:af→ag→ah}{r:ah}(bB:r≠.fail){o:Op}{x:Operand}(I:∀dst pos after guard,(execOp ρ ⟨dst,o,ty,pos,after,guard⟩).run P w=.ok (.value (ρ x)) w){v:af}
  (a8:dF κ (s.aa+1) (v.ap s.aa) (ρ x))(aT:mS E s k v=r):∃fG s',k fG s'=r∧dQ P o ty ρ κ s w fG s':=by
 cases v<;> simp only[mS] at aT<;> try exact absurd aT.symm bB
 rename_i a off len cap sz;cases a with
 |g d i=>exact absurd aT.symm bB
 |l i=>
  simp only[af.ap,Loc.ap] at a8;obtain⟨lS,e,cS,bX,tC,uL⟩:=a8.jU;have J:s.own[i]? =s.get (.g s.aa i):=by simp [ag.get]
  simp only at aT;rw[J] at aT;cases cC:s.get (.g s.aa i) with
  |none=>rw[cC] at aT;exact absurd aT.symm bB
  |some K=>
   rw[cC] at aT;cases K<;> try exact absurd aT.symm bB
   rename_i cs;simp only[bq,aW.not] at aT;obtain⟨q,L⟩:=cY aT bB;simp only[bn,Bool.not_eq_true'] at q;have hC:sz≠0:=fun eZ=>by rw[eZ] at q;simp at q
   have hle:=d0 q.1.2;obtain⟨C,el,i7,V,A,M,B⟩:=a6.uu (s':={s with own:=s.own.set i .gone}) cC (by simp [ag.set]);refine⟨_,_,L,ρ x,_,_,.inl I,B,M,?_⟩;rw[e];simp only[af.ap];have N:(if len=cap then fi.exact else fi.any).ap s.aa=(if len=cap then fi.exact else fi.any):=by split<;> rfl
   rw[N];obtain⟨H,O⟩:=kv sz hC len (cs.drop off) (by simp;omega);have bK:cs.length≤C.size:=by have:=A.1;simp at this;omega
   have qh:len=cap→lS=cap:=fun h=>by rcases uL with au|⟨au,az,_⟩<;> omega
   have key:dF (κ.freeze (κ.loc s.aa i) 0 C) (s.aa+1) (.bG sz (chunk sz len (cs.drop off)) (if len=cap then fi.exact else fi.any)) (.slice (some ⟨κ.loc s.aa i,off,none⟩) (chunk sz len (cs.drop off)).length lS):=by
    refine .bG sz _ _ _ _ (fun j=>C.getD (off+j) undef) ?_ (by rw[fr];exact tC) (fun _=>rfl) O (.inl fun e he=>ej.1 q.1.1 e he) (fun j df=>?_) (fun j c a3=>?_)
    ·by_cases h:len=cap
     ·simp [h,iF,fr,qh h]
     ·simp [h,iF]
    ·rw[H] at df;simp at df;have u:off+j<C.size:=by omega
     rw[fZ rfl];show(κ.freeze (κ.loc s.aa i) 0 C).F ⟨κ.loc s.aa i,off+j,none⟩=_;rw[n0 (Nat.zero_le _) u];simp [Array.getD,u]
    ·rw[H,List.getElem?_take] at a3;split at a3
     ·rw[List.getElem?_drop] at a3;obtain⟨y,eT,bO⟩:=A.get a3;have u:off+j<cs.length:=(ey.1 a3).1
      have:C.getD (off+j) undef=y:=by
       rw[List.getElem?_take,if_pos u] at eT;have U:C[off+j]? =some y:=by simpa using eT
       simp [Array.getD_eq_getD_getElem?,U]
      rw[this];exact bO.mono B.k
     ·cases a3
   rw[fr] at key;exact key
theorem qW{E:Env}(bq:E.F=.not){k:af→ag→ah}{r:ah}(bB:r≠.fail){src dst el:TypeId}{x:Operand}{v:af}(A:P.underlying src=some .string)(B:P.underlying dst=some (.slice el))(iQ:P.underlying el=some (.int .u8))
  (a8:dF κ (s.aa+1) (v.ap s.aa) (ρ x))(aT:hj E s k v=r):∃fG,k fG s=r∧dQ P (.convert src dst x) ty ρ κ s w fG s:=by
 cases v<;> simp only[af.ap] at a8<;> simp only[hj,bq,aW.not] at aT<;> try exact absurd aT.symm bB
 rename_i fc;refine⟨_,aT,?_⟩;obtain⟨a,ex,u⟩:=a8.ic;have e4:a.size=fc.length:=by have:=congrArg List.length u;rw[eG,Array.length_toList] at this;exact this
 let cap:=grownCap w a.size 0 el
 let C:Array Value:=bytesRow a cap
 have sR:a.size≤cap:=by simp only[cap,grownCap,Question.cut];omega
 have J:C.size=cap:=by
  simp only[C,bytesRow,Array.size_append,Array.size_map,Array.size_replicate]
  have:a.data.size=a.size:=rfl;omega
 have e:=run_bytes_of_string (P:=P) w src dst el a A B iQ;obtain⟨ho,gF⟩:=a6.qM (w':=w.drew.alloc (.cells C el (C.size,C.size+1))) C el (C.size,C.size+1) rfl rfl rfl rfl;refine⟨.slice (some ⟨w.heap.size,0,none⟩) a.size cap,_,_,.inl (fun _ _ _ _=>?_),gF,ho,?_⟩
 ·simp only[execOp,ex];simp [e,C,cap]
 ·simp only[af.ap,fi.ap];have y:(fc.map fun b=>af.int .u8 (b:Nat)).flatMap af.cells=fc.map fun b=>af.int .u8 (b:Nat):=by
   clear aT e4 u a8
   induction fc with
   |nil=>rfl
   |cons x l H=>simp [List.flatMap_cons,H,af.cells]
  have wV:(fc.map fun b=>af.int .u8 (b:Nat)).length=a.size:=by rw[eG,e4]
  rw[←wV];refine .bG 1 _ .any _ _ (fun j=>C.getD j undef) trivial (by rw[wV];exact sR) (fun _=>rfl) (fun e he=>?_) (.inl fun e he=>?_) (fun j df=>?_) (fun j c a3=>?_)
  ·obtain⟨b,_,rfl⟩:=List.mem_map.1 he;rfl
  ·obtain⟨b,_,rfl⟩:=List.mem_map.1 he;rfl
  ·rw[y,wV] at df;rw[fZ rfl];simp only[bg];rw[n0 (Nat.zero_le _) (by omega)];simp [Array.getD,show j<C.size by omega]
  ·rw[y,hy] at a3;cases h:fc[j]? with
   |none=>rw[h] at a3;cases a3
   |some b=>
    rw[h] at a3;simp only[ew,bj] at a3;subst a3;rw[←u,hy] at h;cases gh:a.data.toList[j]? with
    |none=>rw[gh] at h;cases h
    |some q=>
     rw[gh] at h;simp only[ew,bj] at h;have df:j<a.data.size:=by have:=(ey.1 gh).1;simpa using this
     have:C[j]? =some (.int .u8 q.toNat):=by
      have I:a.data[j]? =some q:=by simpa using gh
      show(a.data.map (fun b=>Value.int .u8 b.toNat)++Array.replicate (cap-a.size) (.int .u8 0))[j]? =_;rw[Array.getElem?_append_left (by rw[Array.size_map];exact df),Array.getElem?_map,I];rfl
     simp only[Array.getD_eq_getD_getElem?,this,Option.getD_some,h];exact .int _ _
end
theorem pS:∀(es:List af) (fc:List Nat),h5 es=some fc→∃hp:List Int,es=hp.map (af.int .u8)∧fc=hp.map Int.toNat∧∀n,n∈hp→n.toNat<256
 |[],fc,h=>by simp only[h5,bj] at h;subst h;exact⟨[],rfl,rfl,fun _ dp=>by cases dp⟩
 |e::es,fc,h=>by
  unfold h5 at h;split at h
  ·rename_i q;simp at q
  ·rename_i n y q;simp only[List.cons.injEq] at q;obtain⟨rfl,rfl⟩:=q;split at h
   ·rename_i u;cases r:h5 es with
    |none=>rw[r] at h;cases h
    |some l=>
     rw[r] at h;simp only[ew,bj] at h;subst h;obtain⟨hp,au,az,b3⟩:=pS es l r;exact⟨n::hp,by rw[au];rfl,by rw[az];rfl,fun m hm=>by
      rcases List.mem_cons.1 hm with rfl |hm
      ·exact u
      ·exact b3 m hm⟩
   ·cases h
  ·cases h
theorem foldl_push:∀(hp:List Int) (s:ByteArray),(hp.foldl (fun r n=>r.push (UInt8.ofNat n.toNat)) s).data.toList=s.data.toList++hp.map fun n=>UInt8.ofNat n.toNat
 |[],s=>by simp
 |n::hp,s=>by simp only[List.foldl_cons];rw[foldl_push hp];simp [ByteArray.push]
section
variable{P:Program}{ty:TypeId}{ρ:Operand→Value}{κ:bi}{s:ag}{w:World}(a6:c3 κ s w)
include a6
theorem qX{E:Env}(bq:E.F=.not){k:af→ag→ah}{r:ah}(bB:r≠.fail){src dst el:TypeId}{x:Operand}{v:af}(u:P.underlying src=some (.slice el))(iQ:P.underlying el=some (.int .u8))(y:P.underlying dst=some .string)
  (a8:dF κ (s.aa+1) (v.ap s.aa) (ρ x))(aT:gD E s k v=r):∃fG,k fG s=r∧dQ P (.convert src dst x) ty ρ κ s w fG s:=by
 have fe:∀fc,v≠.str fc:=fun fc h=>by subst h;exact absurd aT.symm bB
 have io:(match dL s v with
  |some (_,es)=>qC E s k ((h5 es).map .str)
  |none=>.fail)=r:=by
  unfold gD at aT;split at aT
  ·exact absurd aT.symm bB
  ·exact aT
 cases e:dL s v with
 |none=>rw[e] at io;exact absurd io.symm bB
 |some p=>
  obtain⟨z,es⟩:=p;rw[e] at io;simp only at io;cases q:h5 es with
  |none=>rw[q] at io;exact absurd io.symm bB
  |some fc=>
   rw[q] at io;simp only[ew,qC,bq,aW.not] at io;refine⟨_,io,?_⟩;obtain⟨hp,au,az,b3⟩:=pS es fc q;obtain⟨K,_,_⟩:=kw a6 a8 e;rcases K with⟨L,a,rfl,_⟩|⟨A,c,kM,B,H⟩
   ·exact absurd rfl (fe L)
   have I:es.flatMap af.cells=hp.map (af.int .u8):=by
    rw[au];clear au az b3 q e H B kM
    induction hp with
    |nil=>rfl
    |cons n hp M=>simp [List.flatMap_cons,M,af.cells]
   have hlen:es.length=hp.length:=by rw[au,eG]
   have J:(hp.map fun n=>UInt8.ofNat n.toNat).map UInt8.toNat=fc:=by rw[az,List.map_map];refine List.map_congr_left (fun n dp=>?_);simp only[Function.comp,UInt8.toNat_ofNat'];exact hz (b3 n dp)
   cases A with
   |none=>
    have:es=[]:=B rfl;have N:hp=[]:=kQ (by rw[←hlen,this];rfl);subst N;refine bF a6 (.string .empty) (fun _ _ _ _=>?_) ?_
    ·simp only[execOp,kM];have dU:=run_convert_bytes_string (P:=P) w src dst el none es.length c u iQ y;have O:(Conv.bytesToString (.slice none es.length c)).run P w=.ok (.string .empty) w:=by simp [Conv.bytesToString]
     rw[O] at dU;simp [dU]
    ·exact .str _ _ (by rw[←J];rfl)
   |some a=>
    obtain⟨dw,pE,qO⟩:=H a rfl;have U:∀j v,(hp.map (Value.int .u8))[j]? =some v→w.cell? (a.add j)=some v:=fun j v df=>by
     rw[hy] at df;cases gh:hp[j]? with
     |none=>rw[gh] at df;cases df
     |some n=>
      rw[gh] at df;simp only[ew,bj] at df;have uv:=(ey.1 gh).1;rw[pE j (by rw[I,eG];exact uv)]
      have:=qO j (.int .u8 n) (by rw[I,hy,gh];rfl);rw[this.eB,←df]
    have bK:=run_loadCells_list (P:=P) w a (hp.map (Value.int .u8)) U;rw[eG,←hlen] at bK;refine bF a6 _ (fun _ _ _ _=>?_) (.str _ (hp.foldl (fun r n=>r.push (UInt8.ofNat n.toNat)) ByteArray.empty) ?_)
    ·simp only[execOp,kM];have dU:=run_convert_bytes_string (P:=P) w src dst el (some a) es.length c u iQ y;rw[run_bytesToString w a es.length c hp bK] at dU;simp [dU]
    ·rw[foldl_push];rw[List.map_append,J];rfl
end
def kN:wE→TypeDesc→Bool
 |.int k,.int lN=>decide (k=lN)
 |.str,.string=>true
 |.bool,.bool=>true
 |_,_=>false
theorem dF.z1{κ:bi}{D:Nat}{v:af}{x:Value}(h:dF κ D v x){d:Nat}:v.ap d=v:=by
 cases h<;> try rfl
 rename_i sz es g a cap dw cC au az b3 dJ e q;cases g<;> try rfl
 rename_i l;cases l with
 |l i=>exact absurd cC (by simp [iF])
 |g d i=>rfl
theorem FG{κ:bi}{D:Nat}{kJ:wE}{d:TypeDesc}{x:af}{X:Value}(cS:kN kJ d=true)(dl:isKey kJ x=true)(a8:dF κ D x X):MapKept.IsKey d X:=by
 cases kJ<;> cases d<;> simp [kN] at cS<;> cases x<;> simp [isKey] at dl
 ·subst cS;subst dl;rw[a8.eB];rfl
 ·obtain⟨s,rfl,_⟩:=a8.ic;trivial
 ·rw[a8.gY];trivial
theorem uN{κ:bi}{D:Nat}{kJ:wE}{d:TypeDesc}{x y:af}{X Y:Value}{b:Bool}(cS:kN kJ d=true)(dl:isKey kJ x=true)(a8:dF κ D x X)(eT:dF κ D y Y)(h:sh x y=some b):Instr.sameNow d X Y=some b∧(b=true→X=Y):=by
 unfold sh at h;split at h
 ·rename_i k a lN fT;split at h
  ·rename_i r;subst r;simp only[bj] at h;rw[a8.eB,eT.eB];cases kJ<;> simp [isKey] at dl;cases d<;> simp [kN] at cS;refine⟨by simp [Instr.sameNow,←h],fun q=>?_⟩;subst q;simp at h;rw[h]
  ·cases h
 ·rename_i a fT;simp only[bj] at h;obtain⟨s,rfl,a6⟩:=a8.ic;obtain⟨s',rfl,u⟩:=eT.ic;cases kJ<;> simp [isKey] at dl;cases d<;> simp [kN] at cS;have key:s=s'↔a=fT:=by
   rw[←a6,←u];constructor
   ·rintro rfl;rfl
   ·intro e
    have:=(List.map_inj_right (f:=UInt8.toNat) (fun a b h=>UInt8.toNat_inj.1 h)).1 e;cases s;cases s';simp at this;rw[this]
  refine⟨?_,fun q=>?_⟩
  ·simp only[Instr.sameNow,bj];rw[←h,Bool.eq_iff_iff,MapKept.bytes_beq,key];simp
  ·subst q;simp at h;rw[key.2 h]
 ·simp only[bj] at h;rw[a8.gY,eT.gY];cases kJ<;> simp [isKey] at dl;cases d<;> simp [kN] at cS;refine⟨by simp [Instr.sameNow,←h],fun q=>?_⟩;subst q;simp at h;rw[h]
 ·cases h
theorem mr.tO{κ:bi}{D:Nat}{p:af×af}{es:List (af×af)}{l:List MapEntry}(h:mr κ D (p::es) l):∃e l',l=e::l'∧dF κ D p.1 e.key∧dF κ D p.2 e.val∧mr κ D es l':=by
 cases l with
 |nil=>exact absurd h.1 (by simp)
 |cons e l'=>refine⟨e,l',rfl,(h.2 0 p e rfl rfl).1,(h.2 0 p e rfl rfl).2,by have:=h.1;simpa using this,fun j q f gh bB=>h.2 (j+1) q f (by simpa using gh) (by simpa using bB)⟩
theorem oT{κ:bi}{D:Nat}{kJ:wE}{d:TypeDesc}{x:af}{X:Value}(cS:kN kJ d=true)(dl:isKey kJ x=true)(a8:dF κ D x X):∀(es:List (af×af)) (l:List MapEntry) (i:Nat) (r:Option af),mr κ D es l→findKey x es=some r→
  (r=none∧Instr.findNow d X l i=some none)∨∃v j e,r=some v∧Instr.findNow d X l i=some (some (i+j,e.val))∧l[j]? =some e∧e.key=X∧dF κ D v e.val
 |[],l,i,r,hm,h=>by have:l=[]:=kQ hm.1;subst this;simp only[findKey,bj] at h;exact .inl ⟨h.symm,rfl⟩
 |(y,v)::es,l,i,r,hm,h=>by
  obtain⟨e,l',rfl,eT,bO,A⟩:=hm.tO;simp only[findKey] at h;cases q:sh x y with
  |none=>rw[q] at h;cases h
  |some b=>
   rw[q] at h;obtain⟨au,az⟩:=uN cS dl a8 eT q;cases b with
   |true=>simp only[bj] at h;exact .inr ⟨v,0,e,h.symm,by simp [Instr.findNow,au],rfl,(az rfl).symm,bO⟩
   |false=>
    simp only at h;rcases oT cS dl a8 es l' (i+1) r A h with⟨dU,u⟩|⟨fG,j,hZ,dU,u,B,F,H⟩
    ·exact .inl ⟨dU,by simp [Instr.findNow,au,u]⟩
    ·refine .inr ⟨fG,j+1,hZ,dU,?_,by simpa using B,F,H⟩;simp [Instr.findNow,au,u];omega
theorem pT{κ:bi}{D:Nat}{kJ:wE}{d:TypeDesc}{x v:af}{X V:Value}(cS:kN kJ d=true)(dl:isKey kJ x=true)(a8:dF κ D x X)(bO:dF κ D v V):∀(es:List (af×af)) (l:List MapEntry) (i:Nat) (r:List (af×af)),mr κ D es l→putKey x v es=some r→
  (Instr.findNow d X l i=some none∧∀clock,mr κ D r (l++[{key:=X,val:=V,born:=clock}]))∨∃j e,Instr.findNow d X l i=some (some (i+j,e.val))∧l[j]? =some e∧e.key=X∧mr κ D r (l.set j {e with key:=X,val:=V})
 |[],l,i,r,hm,h=>by
  have:l=[]:=kQ hm.1;subst this;simp only[putKey,bj] at h;subst h;refine .inl ⟨rfl,fun clock=>⟨rfl,fun j p e fC he=>?_⟩⟩;cases j with
  |zero=>simp at fC he;subst fC;subst he;exact⟨a8,bO⟩
  |succ j=>simp at fC
 |(y,u)::es,l,i,r,hm,h=>by
  obtain⟨e,l',rfl,eT,hu,H⟩:=hm.tO;simp only[putKey] at h;cases A:sh x y with
  |none=>rw[A] at h;cases h
  |some b=>
   rw[A] at h;obtain⟨au,az⟩:=uN cS dl a8 eT A;cases b with
   |true=>
    simp only[bj] at h;subst h;refine .inr ⟨0,e,by simp [Instr.findNow,au],rfl,(az rfl).symm,by have:=hm.1;simpa using this,fun j p q fC gh=>?_⟩;cases j with
    |zero=>simp at fC gh;subst fC;subst gh;exact⟨by rw[az rfl];exact eT,bO⟩
    |succ j=>exact H.2 j p q (by simpa using fC) (by simpa using gh)
   |false=>
    simp only at h;cases fC:putKey x v es with
    |none=>rw[fC] at h;cases h
    |some B=>
     rw[fC] at h;simp only[ew,bj] at h;subst h;have cons:∀{I},mr κ D B I→mr κ D ((y,u)::B) (e::I):=fun J=>by
      refine⟨by simp [J.1],fun j p q fC gh=>?_⟩;cases j with
      |zero=>simp at fC gh;subst fC;subst gh;exact⟨eT,hu⟩
      |succ j=>exact J.2 j p q (by simpa using fC) (by simpa using gh)
     rcases pT cS dl a8 bO es l' (i+1) B H fC with⟨dU,F⟩|⟨j,hZ,dU,F,K,L⟩
     ·exact .inl ⟨by simp [Instr.findNow,au,dU],fun clock=>by simpa using cons (F clock)⟩
     ·refine .inr ⟨j+1,hZ,?_,by simpa using F,K,by simpa using cons L⟩;simp [Instr.findNow,au,dU];omega
section
variable{P:Program}{ty:TypeId}{ρ:Operand→Value}{κ:bi}{s:ag}{w:World}(a6:c3 κ s w)
include a6
theorem uO{E:Env}(bq:E.F=.not){k:af→ag→ah}{r:ah}(bB:r≠.fail){t:TypeId}{b:Option Loc}(aT:l8 E s k b=r):∃fG s',k fG s'=r∧dQ P (.makeMap t none) ty ρ κ s w fG s':=by
 unfold l8 at aT;cases b with
 |none=>exact absurd aT.symm bB
 |some b=>
  simp only at aT;cases e:s.hi b (.map []) with
  |none=>rw[e] at aT;exact absurd aT.symm bB
  |some p=>
   obtain⟨l,s'⟩:=p;rw[e] at aT;simp only[bq,aW.not] at aT;obtain⟨q,u,bK,h⟩:=iv.by e
   obtain⟨κ',ho,gF,y,ni⟩:=a6.PB (w':=w.alloc (.map #[] 0)) h rfl rfl rfl rfl;refine⟨_,_,aT,.map (some w.heap.size),κ',w.alloc (.map #[] 0),.inl (fun dst pos after guard=>?_),gF,ho,?_⟩
   ·simp [execOp,Instr.makeMap,Result.andThen]
   ·simp only[af.ap,bK];rw[←y];exact .map q u (Nat.lt_succ_of_le h.le) ni
theorem wW{E:Env}(bq:E.F=.not){k:af→ag→ah}{r:ah}(bB:r≠.fail){o:Op}{t J Y:TypeId}{d:TypeDesc}{kJ:wE}(eh:P.underlying t=some (.map J Y))(u:P.underlying J=some d)(cS:kN kJ d=true){m x v:af}{M X V:Value}
  (hm:dF κ (s.aa+1) (m.ap s.aa) M)(a8:dF κ (s.aa+1) x X)(bO:dF κ (s.aa+1) v V)(K:∀dst pos after guard,execOp ρ ⟨dst,o,ty,pos,after,guard⟩=(do Instr.mapUpdate t M X V;pure .skip:Sem Next))(aT:ll E s k kJ m x v=r):
  ∃fG s',k fG s'=r∧dQ P o ty ρ κ s w fG s':=by
 cases m<;> simp only[ll] at aT<;> try exact absurd aT.symm bB
 rename_i a;simp only[af.ap] at hm;rw[←ag.hT] at aT;cases y:a.ap s.aa with
 |l i=>cases a<;> simp [Loc.ap] at y
 |g e i=>
  rw[y] at aT hm;have Z:M=.map (some (κ.loc e i))∧e<s.aa+1∧i<κ.n e:=by cases hm;exact⟨rfl,by assumption,by assumption⟩
  obtain⟨rfl,he,bX⟩:=Z;cases cC:s.get (.g e i) with
  |none=>rw[cC] at aT;exact absurd aT.symm bB
  |some ab=>
   rw[cC] at aT;cases ab<;> try exact absurd aT.symm bB
   rename_i es;simp only[bq,aW.not] at aT;obtain⟨A,h⟩:=cY aT bB;simp only[bn] at A;cases fC:putKey x v es with
   |none=>rw[fC] at h;exact absurd h.symm bB
   |some L=>
    rw[fC] at h;simp only at h;rw[←ag.ln,y] at h;cases B:s.set (.g e i) (.map L) with
    |none=>rw[B] at h;exact absurd h.symm bB
    |some s'=>
     rw[B] at h;obtain⟨fm,clock,au,az⟩:=a6.obj e i _ cC;have N:=mV y (er.cons a8 (er.cons bO (er.nil _ _))) A.2;have O:=N.2 0 x X rfl rfl;have ac:=N.2 1 v V rfl rfl;have I:=FG cS A.1.1 O;rcases pT cS A.1.1 O ac es fm.toList 0 L az fC with⟨dU,H⟩|⟨j,U,dU,H,ad,ae⟩
     ·obtain⟨ho,gF⟩:=a6.FD (fm:=fm.push {key:=X,val:=V,born:=clock}) (clock:=clock+1) cC B (by simpa using H clock);refine⟨_,_,h,undef,κ,_,.inr ⟨fun dst pos after guard=>?_,rfl⟩,gF,ho,.dead _⟩;rw[K];simp [Instr.mapUpdate,run_underlying eh,MapKept.run_getObj_map au,MapKept.run_checkKey u I,MapKept.run_findKey u dU,MapKept.run_setObj_map _ au,Result.andThen]
     ·have df:fm[j]? =some U:=by simpa using H
      obtain⟨ho,gF⟩:=a6.FD (fm:=fm.modify j fun e=>{e with key:=X,val:=V}) (clock:=clock) cC B (by
       have:(fm.modify j fun e=>{e with key:=X,val:=V}).toList=fm.toList.set j {U with key:=X,val:=V}:=by
        apply List.ext_getElem?;intro q;simp only[Array.getElem?_toList,Array.getElem?_modify,List.getElem?_set];by_cases gh:j=q
        ·subst gh;have ai:j<fm.toList.length:=(ey.1 H).1;rw[if_pos rfl,if_pos rfl,if_pos ai,df];rfl
        ·simp [gh]
       rw[this];exact ae)
      refine⟨_,_,h,undef,κ,_,.inr ⟨fun dst pos after guard=>?_,rfl⟩,gF,ho,.dead _⟩;rw[K];simp only[bg] at dU;have aj:(fm[j]?.map MapEntry.key).getD X=X:=by rw[df];exact ad
      simp [Instr.mapUpdate,run_underlying eh,MapKept.run_getObj_map au,MapKept.run_checkKey u I,MapKept.run_findKey u dU,MapKept.run_setObj_map _ au,aj,MapKept.run_keyThatStays I,Result.andThen]
theorem wX{E:Env}(bq:E.F=.not){k:af→ag→ah}{r:ah}(bB:r≠.fail){t ab J:TypeId}{x y:Operand}{d:TypeDesc}{kJ:wE}{ok:Bool}{zero:af}{i:TypeInfo}{Z:Value}(eh:P.underlying t=some (.map ab J))(H:P.underlying ab=some d)(cS:kN kJ d=true)
  (bX:P.info? J=some i)(ai:i.zero=some Z)(hC:hk zero Z=true){m u:af}
  (hm:dF κ (s.aa+1) (m.ap s.aa) (ρ x))(a8:dF κ (s.aa+1) u (ρ y))(aT:lm E s k kJ zero ok m u=r):∃fG,k fG s=r∧dQ P (.lookup t x y ok) ty ρ κ s w fG s:=by
 unfold lm at aT;obtain⟨ac,h⟩:=cY aT bB;clear aT;have K:=FG cS ac a8;have ad:(zeroValue J).run P w=.ok Z w:=by simp [zeroValue,typeInfo,bX,ai]
 cases A:entriesOf s m with
 |none=>rw[A] at h;exact absurd h.symm bB
 |some es=>
  rw[A] at h;simp only[bq,aW.not] at h;have aj:∃l:Array MapEntry,mr κ (s.aa+1) es l.toList∧((ρ x=.map none∧l= #[])∨∃q clock,ρ x=.map (some q)∧w.heap[q]? =some (.map l clock)):=by
   cases m<;> simp only[entriesOf] at A<;> try cases A
   ·rename_i a;simp only[af.ap] at hm;rw[←ag.hT] at A;cases B:a.ap s.aa with
    |l j=>cases a<;> simp [Loc.ap] at B
    |g e j=>
     rw[B] at A hm;have I:ρ x=.map (some (κ.loc e j))∧e<s.aa+1:=by generalize ρ x=q at hm;cases hm;exact⟨rfl,by assumption⟩
     cases cC:s.get (.g e j) with
     |none=>rw[cC] at A;cases A
     |some ak=>
      rw[cC] at A;cases ak<;> simp only[bj] at A<;> try cases A
      obtain⟨fm,clock,au,az⟩:=a6.obj e j _ cC;refine⟨fm,⟨az.1,fun q p L fC ae=>⟨((az.2 q p L fC ae).1).up (by have:=I.2;omega),((az.2 q p L fC ae).2).up (by have:=I.2;omega)⟩⟩,?_⟩;exact .inr ⟨_,clock,I.1,au⟩
   ·have I:ρ x=.map none:=by
     simp only[af.ap] at hm;generalize ρ x=q at hm;cases hm;rfl
    exact⟨#[],⟨rfl,fun q p L fC=>by simp at fC⟩,.inl ⟨I,rfl⟩⟩
  obtain⟨l,bK,al⟩:=aj;have hex:∀(a:Option (Nat×Value)) (V:Value),Instr.findNow d (ρ y) l.toList 0=some a→V=(match a with |some (_,v)=>v|none=>Z)→∀dst pos after guard,(execOp ρ ⟨dst,.lookup t x y ok,ty,pos,after,guard⟩).run P w=.ok (.value (if ok then .tuple #[V,.bool a.isSome] else V)) w:=by
   intro a V B M dst pos after guard;have dU:(Instr.lookup t (ρ x) (ρ y) ok).run P w=.ok (if ok then .tuple #[V,.bool a.isSome] else V) w:=by
    rcases al with⟨e,rfl⟩|⟨q,clock,e,au⟩
    ·cases a with
     |none=>simp [Instr.lookup,run_underlying eh,e,MapKept.run_checkKey H K,MapKept.run_findKey H B,ad,M,Result.andThen]
     |some p=>simp [Instr.findNow] at B
    ·cases a with
     |none=>simp [Instr.lookup,run_underlying eh,e,MapKept.run_getObj_map au,MapKept.run_checkKey H K,MapKept.run_findKey H B,ad,M,Result.andThen]
     |some p=>simp [Instr.lookup,run_underlying eh,e,MapKept.run_getObj_map au,MapKept.run_checkKey H K,MapKept.run_findKey H B,M,Result.andThen]
   simp only[execOp,Sem.run_bind,dU,Result.andThen];rfl
  cases N:findKey u es with
  |none=>rw[N] at h;exact absurd h.symm bB
  |some am=>
   rw[N] at h;obtain⟨O,an⟩:=n1 zero Z hC;rcases oT cS ac a8 es l.toList 0 am bK N with⟨rfl,U⟩|⟨v,j,e,rfl,U,ao,aq,Y⟩
   ·simp only at h;refine⟨_,h,bF a6 _ (hex none Z U rfl) ?_⟩;cases ok with
    |true=>have:er κ (s.aa+1) [zero,.bool false] [Z,.bool false]:=.cons (O _ _) (.cons (.bool _) (.nil _ _));exact .ea _ _ this.1 this.2
    |false=>simp only[cond_false,bW,↓reduceIte];rw[(O κ (s.aa+1)).z1];exact O _ _
   ·simp only at h;refine⟨_,h,bF a6 _ (hex _ e.val U rfl) ?_⟩;cases ok with
    |true=>have:er κ (s.aa+1) [v,.bool true] [e.val,.bool true]:=.cons Y (.cons (.bool _) (.nil _ _));exact .ea _ _ this.1 this.2
    |false=>simp only[cond_false,bW,↓reduceIte];rw[Y.z1];exact Y
end
abbrev wY(ro:Option Nat):Fence:={Fence.wide with round:=ro}
structure hq (l:Nat) (κ:bi) (s:ag) (w:World) (κ':bi) (s':ag) (w':World):Prop where
 k:gS κ κ' (s.aa+1)
 aa:s'.aa=s.aa
 size:w.heap.size≤w'.heap.size
 os:w'.os=w.os
 tape:w'.tape=w.tape
 output:w'.output=w.output
 kU:∀b,b<w.heap.size→b≠l→¬Live κ s b→w'.heap[b]? =w.heap[b]?
 live:∀b,b<w.heap.size→Live κ' s' b→Live κ s b
 oN:∀a,κ'.F a≠none→κ.F a≠none∨w.heap.size≤a.block∨Live κ s a.block
theorem fx.x{l:Nat}{κ κ':bi}{s s':ag}{w w':World}(h:fx κ s w κ' s' w'):hq l κ s w κ' s' w':=⟨h.k,h.aa,h.size,h.os,h.tape,h.output,fun b e _=>h.kU b e,h.live,h.oN⟩
theorem hq.trans{l:Nat}{κ q r:bi}{s u y:ag}{w A B:World}(h:hq l κ s w q u A)(k:hq l q u A r y B):hq l κ s w r y B:=by
 refine⟨h.k.trans (h.aa ▸ k.k),k.aa.trans h.aa,Nat.le_trans h.size k.size,k.os.trans h.os,k.tape.trans h.tape,k.output.trans h.output,fun b e dp bK=>?_,fun b e bK=>?_,fun a F=>?_⟩
 ·rw[k.kU b (f8 e h.size) dp (fun H=>bK (h.live b e H)),h.kU b e dp bK]
 ·exact h.live b e (k.live b (f8 e h.size) bK)
 ·rcases k.oN a F with au|au|au
  ·exact h.oN a au
  ·exact .inr (.inl (Nat.le_trans h.size au))
  ·by_cases e:a.block<w.heap.size
   ·exact .inr (.inr (h.live _ e au))
   ·exact .inr (.inl (by omega))
def z2(P:Program)(f j:Nat):Prop:=
 (∃fn,P.funcs[f]? =some fn∧fn.body.isSome=true∧(fn.name== "runtime.NumGoroutine")=false)∧
 ∀(dI xs:List af) (κ:bi) (s:ag) (w:World) (dw:List Value) (l:Nat),qG s j dI=some xs→c3 κ s w→er κ (s.aa+1) dI dw→l<w.heap.size→¬Live κ s l→(∀o,w.heap[l]? =some o→o.isCells=false)→
  ∀(J:Nat→ag→Prop) (u:ag→Option Obj→Prop),J 0 s→
  (∀(i:Nat) (x:af) (y:Value) (κ':bi) (s':ag) (w':World),xs[i]? =some x→fx κ s w κ' s' w'→c3 κ' s' w'→J i s'→dI.all (fY s s')=true→dF κ' (s'.aa+1) x y→
   YieldAt Fence.wide 0 P l #[y] w' fun e q=>
    (e=.returned (.bool true)∧∃r h,fx κ' s' w' r h q∧c3 r h q∧J (i+1) h∧dI.all (fY s h)=true)∨
    (e=.returned (.bool false)∧∃r h,hq l κ' s' w' r h q∧c3 r h q∧u h q.heap[l]?))→
  CallsIn Fence.wide 0 P f (#[.func (.yield l) #[] #[]]++dw.toArray) w fun e w'=>(∃v,e=.returned v)∧
   ((∃κ' s',fx κ s w κ' s' w'∧c3 κ' s' w'∧J xs.length s')∨∃κ' s',hq l κ s w κ' s' w'∧c3 κ' s' w'∧u s' w'.heap[l]?)
structure kO where
 eb:Nat→Option TypeDesc
 info:Nat→Option (Nat×Nat×Value)
 WG:Nat→List af
 eqs:Nat→Bool
 Da:Nat→Nat→Bool:=fun _ _=>false
structure kO.pw (T:kO) (P:Program):Prop where
 eb:∀t d,T.eb t=some d→P.underlying t=some d
 info:∀t n b z,T.info t=some (n,b,z)→∃i,P.info? t=some i∧i.size=n∧i.bytes=b∧i.zero=some z
 eqs:∀t,T.eqs t=true→P.stoodInHeld t=false∧P.eqGuardType P.depth t=false
 Da:∀f j,T.Da f j=true→z2 P f j
def jd(T:kO):Nat→List wE→List Field→Bool
 |_,[],[]=>true
 |j,k::iq,f::jH=>Nat.beq f.offset j&&decide (f.name≠ "_")&&(match T.eb f.type with
   |some d=>kN k d
   |none=>false)&&jd T (j+1) iq jH
 |_,_,_=>false
def Wi(T:kO)(e:Pz)(t:Nat)(d:TypeDesc):Bool:=
 match e,d with
 |.agg iq,.struct jH=>T.eqs t&&jd T 0 iq jH.toList
 |.agg [.int _,.int _],.array 2 e=>T.eqs t&&(match T.eb e with
   |some (.int _)=>true
   |_=>false)&&(T.info e).map (·.1)==some 1
 |_,_=>false
def kO.size(T:kO)(t:Nat):Option Nat:=(T.info t).map (·.1)
def kO.bytes(T:kO)(t:Nat):Option Nat:=(T.info t).map (·.2.1)
def kO.zero(T:kO)(t:Nat)(z:List af):Bool:=
 match T.info t with
 |some (_,_,v)=>mT z v.cells.toList
 |none=>false
def kO.load(T:kO)(t:Nat)(n:Option Nat):Bool:=
 match T.eb t with
 |some d=>match n with
  |none=>zT d==false
  |some n=>zT d==true&&T.size t==some n
 |none=>false
section
variable{P:Program}{T:kO}(eR:T.pw P)
include eR
theorem kO.pw.size{t n:Nat}(h:T.size t=some n):ff P t=some n:=by
 unfold kO.size at h;cases bX:T.info t with
 |none=>rw[bX] at h;cases h
 |some p=>obtain⟨e,b,z⟩:=p;rw[bX] at h;simp only[ew,bj] at h;obtain⟨i,au,az,_⟩:=eR.info _ _ _ _ bX;simp [ff,au,az,h]
theorem kO.pw.bytes{t n:Nat}(h:T.bytes t=some n):(P.info? t).map (·.bytes)=some n:=by
 unfold kO.bytes at h;cases bX:T.info t with
 |none=>rw[bX] at h;cases h
 |some p=>obtain⟨e,b,z⟩:=p;rw[bX] at h;simp only[ew,bj] at h;obtain⟨i,au,_,az,_⟩:=eR.info _ _ _ _ bX;simp [au,az,h]
theorem kO.pw.zero{t:Nat}{z:List af}(h:T.zero t z=true):j1 P t z=true:=by
 unfold kO.zero at h;cases bX:T.info t with
 |none=>rw[bX] at h;cases h
 |some p=>obtain⟨e,b,v⟩:=p;rw[bX] at h;obtain⟨i,au,_,_,az⟩:=eR.info _ _ _ _ bX;simp only[j1,au,f6,az];exact h
theorem kO.pw.load{t:Nat}{n:Option Nat}(h:T.load t n=true):j0 P t n=true:=by
 unfold kO.load at h;cases cS:T.eb t with
 |none=>rw[cS] at h;cases h
 |some d=>
  rw[cS] at h
  have:=eR.eb _ _ cS;cases n with
  |none=>simp only at h;simp [j0,kW,this];simpa using h
  |some n=>simp only[bn] at h;have az:=eR.size (by simpa using h.2:T.size t=some n);simp [j0,kW,this,az];simpa using h.1
end
def kg:Nat→List bC→List (Nat×Operand)→Bool
 |_,[],[]=>true
 |i,x::xs,(j,y)::e=>Nat.beq i j&&cH x y&&kg (i+1) xs e
 |_,_,_=>false
theorem j2:∀(i:Nat) (xs:List bC) (e:List (Nat×Operand)),kg i xs e=true→∃q:List Operand,e=(q.zipIdx i).map (fun p=>(p.2,p.1))∧dC xs q=true
 |_,[],[],_=>⟨[],rfl,rfl⟩
 |_,[],_::_,h=>by simp [kg] at h
 |_,_::_,[],h=>by simp [kg] at h
 |i,x::xs,(j,y)::e,h=>by simp only[kg,bn] at h;obtain⟨q,au,az⟩:=j2 (i+1) xs e h.2;have r:=dk h.1.1;subst r;exact⟨y::q,by simp [au],by simp [dC,h.1.2,az]⟩
def mb(T:kO):List Field→Option (List (Nat×Nat))
 |[]=>some []
 |f::jH=>(T.size f.type).bind fun n=>(mb T jH).map fun l=>(f.offset,n)::l
theorem oz{P:Program}{T:kO}(eR:T.pw P):∀(jH:List Field) (l:List (Nat×Nat)),mb T jH=some l→(jH.mapM fun f=>(ff P f.type).map fun n=>(f.offset,n))=some l
 |[],l,h=>by simp only[mb,bj] at h;subst h;rfl
 |f::jH,l,h=>by
  simp only[mb] at h;cases dp:T.size f.type with
  |none=>rw[dp] at h;cases h
  |some n=>
   rw[dp] at h;cases bK:mb T jH with
   |none=>rw[bK] at h;cases h
   |some l'=>rw[bK] at h;simp only[f6,ew,bj] at h;subst h;rw[List.mapM_cons];simp [eR.size dp,oz eR jH l' bK]
def xy(a b:BinOp):Bool:=decide (a=b)
def eH(T:kO)(F:gg)(op:Op):Bool:=
 match F with
 |.move x|.oK x|.nb x=>
  match op with
  |.move y|.assign y=>cH x y
  |_=>false
 |.pick c a b=>
  match op with
  |.pick nS fT H=>cH c nS&&cH a fT&&cH b H
  |_=>false
 |.alloc z=>
  match op with
  |.alloc t=>T.zero t z
  |_=>false
 |.e1 x|.jX x=>
  match op with
  |.box _ y=>cH x y
  |_=>false
 |.build z ec=>
  match op with
  |.build t h=>
   match T.eb t with
   |some (.struct jH)=>
    match mb T jH.toList with
    |some pl=>T.zero t z&&ku (pl.toArray[·]?) ec h.toList
    |none=>false
   |some (.array _ el)=>
    match T.size el with
    |some sz=>T.zero t z&&ku (fun i=>some (i*sz,sz)) ec h.toList
    |none=>false
   |_=>false
  |_=>false
 |.buildSlice sz ec=>
  match op with
  |.buildSlice t len h=>
   match T.eb t with
   |some (.slice el)=>T.size el==some sz&&T.zero el (T.WG el)&&Nat.beq (T.WG el).length sz&&Nat.beq len ec.length&&Nat.ble (len*sz) 16777216&&kg 0 ec h.toList
   |_=>false
  |_=>false
 |.load n x=>
  match op with
  |.load t y=>T.load t n&&cH x y
  |_=>false
 |.store n x v=>
  match op with
  |.store t y u=>T.size t==some n&&cH x y&&cH v u
  |_=>false
 |.la _ _ n x v=>
  match op with
  |.store t y u=>T.size t==some n&&cH x y&&cH v u
  |_=>false
 |.nilCheck x=>
  match op with
  |.nilCheck y=>cH x y
  |_=>false
 |.bin o x y=>
  match op with
  |.binOp o' _ kH tM _=>xy o o'&&cH x kH&&cH y tM
  |_=>false
 |.eq neg e x y=>
  match op with
  |.binOp o t kH tM _=>
   match T.eb t with
   |some d=>xy o (if neg then .neq else .eql)&&(pQ e d||Wi T e t d)&&cH x kH&&cH y tM
   |none=>false
  |_=>false
 |.un o x=>
  match op with
  |.unOp o' _ y=>decide (o=o')&&cH x y
  |_=>false
 |.lj k x=>
  match op with
  |.convert src dst y=>
   match T.eb src,T.eb dst with
   |some _,some (.int lN)=>decide (k=lN)&&cH x y
   |_,_=>false
  |_=>false
 |.nU x=>
  match op with
  |.convert src dst y=>
   match T.eb src,T.eb dst with
   |some _,some .string=>cH x y
   |_,_=>false
  |_=>false
 |.gN x=>
  match op with
  |.convert src dst y=>
   match T.eb src,T.eb dst with
   |some (.slice el),some .string=>
    match T.eb el with
    |some (.int .u8)=>cH x y
    |_=>false
   |_,_=>false
  |_=>false
 |.iY x=>
  match op with
  |.convert src dst y=>
   match T.eb src,T.eb dst with
   |some .string,some (.slice el)=>
    match T.eb el with
    |some (.int .u8)=>cH x y
    |_=>false
   |_,_=>false
  |_=>false
 |.jI t x=>
  match op with
  |.makeInterface Pv y=>
   match T.eb t with
   |some (.interface _)=>false
   |some _=>Nat.beq t Pv&&cH x y
   |none=>false
  |_=>false
 |.ko f dI=>
  match op with
  |.makeFunc (.func wF) first I=>Nat.beq f wF&&Nat.beq first.size 0&&dC dI I.toList
  |_=>false
 |.makeSlice z bytes l c=>
  match op with
  |.makeSlice t l' nS=>
   match T.eb t with
   |some (.slice el)=>T.zero el z&&T.size el==some z.length&&T.bytes el==some bytes&&Nat.blt 0 bytes&&cH l l'&&cH c nS
   |_=>false
  |_=>false
 |.kq x gn bX=>
  match op with
  |.slice t y q r none=>
   match T.eb t with
   |some .string=>cH x y&&fy gn q&&fy bX r
   |_=>false
  |_=>false
 |.slice sz x gn bX iJ=>
  match op with
  |.slice t y q r A=>
   match T.eb t with
   |some (.slice el)=>T.size el==some sz&&cH x y&&fy gn q&&fy bX r&&fy iJ A&&(!iJ.isSome||bX.isSome)
   |_=>false
  |_=>false
 |.iS sz len x gn bX iJ=>
  match op with
  |.slice t y q r A=>
   match T.eb t with
   |some (.array n el)=>Nat.beq n len&&T.size el==some sz&&cH x y&&fy gn q&&fy bX r&&fy iJ A&&(!iJ.isSome||bX.isSome)
   |_=>false
  |_=>false
 |.jJ sz bytes _ x y=>
  match op with
  |.call {callee:=.builtin .append,args:=⟨[kH,tM]⟩,argTypes:=⟨[t,t2]⟩}=>
   match T.eb t with
   |some (.slice el)=>
    match T.info el with
    |some (n,b,z)=>
     (match T.eb t2 with
      |some (.slice _)|some .string=>true
      |_=>false)&&Nat.beq n sz&&Nat.beq b bytes&&Nat.beq z.cells.size sz&&Nat.blt 0 bytes&&Nat.ble bytes 1048576&&cH x kH&&cH y tM
    |none=>false
   |_=>false
  |_=>false
 |.jK sz bytes _ x y=>
  match op with
  |.call {callee:=.builtin .append,args:=⟨[kH,tM]⟩,argTypes:=⟨[t,t2]⟩}=>
   match T.eb t with
   |some (.slice el)=>
    match T.info el with
    |some (n,b,z)=>
     (match T.eb t2 with
      |some (.slice _)|some .string=>true
      |_=>false)&&Nat.beq n sz&&Nat.beq b bytes&&Nat.beq z.cells.size sz&&Nat.blt 0 bytes&&Nat.ble bytes 1048576&&cH x kH&&cH y tM
    |none=>false
   |_=>false
  |_=>false
 |.jL sz bytes x y=>
  match op with
  |.call {callee:=.builtin .append,args:=⟨[kH,tM]⟩,argTypes:=⟨[t,t2]⟩}=>
   match T.eb t with
   |some (.slice el)=>
    match T.info el with
    |some (n,b,z)=>
     (match T.eb t2 with
      |some (.slice _)|some .string=>true
      |_=>false)&&Nat.beq n sz&&Nat.beq b bytes&&Nat.beq z.cells.size sz&&Nat.blt 0 bytes&&Nat.ble bytes 1048576&&cH x kH&&cH y tM
    |none=>false
   |_=>false
  |_=>false
 |.gB sz ec=>
  match op with
  |.buildSlice t len h=>
   match T.eb t with
   |some (.slice el)=>T.size el==some sz&&T.zero el (T.WG el)&&Nat.beq (T.WG el).length sz&&Nat.beq len ec.length&&Nat.ble (len*sz) 16777216&&kg 0 ec h.toList
   |_=>false
  |_=>false
 |.gC sz ec=>
  match op with
  |.buildSlice t len h=>
   match T.eb t with
   |some (.slice el)=>T.size el==some sz&&T.zero el (T.WG el)&&Nat.beq (T.WG el).length sz&&Nat.beq len ec.length&&Nat.ble (len*sz) 16777216&&kg 0 ec h.toList
   |_=>false
  |_=>false
 |.fieldAddr off x=>
  match op with
  |.fieldAddr t y i=>
   match T.eb t with
   |some (.struct jH)=>
    match jH[i]? with
    |some f=>
     match T.size f.type with
     |some n=>Nat.beq f.offset off&&Nat.blt 0 n&&cH x y
     |none=>false
    |none=>false
   |_=>false
  |_=>false
 |.field off n x=>
  match op with
  |.field t y i=>
   match T.eb t with
   |some (.struct jH)=>
    match jH[i]? with
    |some f=>Nat.beq f.offset off&&T.load f.type n&&cH x y
    |none=>false
   |_=>false
  |_=>false
 |.iZ sz x i=>
  match op with
  |.indexAddr t y j=>
   match T.eb t with
   |some (.slice el)=>T.size el==some sz&&cH x y&&cH i j
   |_=>false
  |_=>false
 |.e6 sz len x i=>
  match op with
  |.indexAddr t y j=>
   match T.eb t with
   |some (.array n el)=>Nat.beq n len&&T.size el==some sz&&cH x y&&cH i j
   |_=>false
  |_=>false
 |.mP x i=>
  match op with
  |.index t y j=>
   match T.eb t with
   |some .string=>cH x y&&cH i j
   |_=>false
  |_=>false
 |.mQ sz len n x i=>
  match op with
  |.index t y j=>
   match T.eb t with
   |some (.array m el)=>Nat.beq m len&&T.size el==some sz&&T.load el n&&cH x y&&cH i j
   |_=>false
  |_=>false
 |.extract x i=>
  match op with
  |.extract y j=>Nat.beq i j&&cH x y
  |_=>false
 |.call f xs|.hA f xs=>
  match op with
  |.call c=>
   match c.callee with
   |.value (.func wF)=>Nat.beq f wF&&dC xs c.args.toList
   |_=>false
  |_=>false
 |.eA f xs|.lM f xs=>
  match op with
  |.call c=>
   match c.callee with
   |.value g=>cH f g&&dC xs c.args.toList
   |_=>false
  |_=>false
 |.len b x=>
  match op with
  |.call {callee:=.builtin .len,args:=⟨[y]⟩,argTypes:=⟨[t]⟩}=>
   match T.eb t with
   |some .string=>b&&cH x y
   |some (.slice _)=> !b&&cH x y
   |_=>false
  |_=>false
 |.append sz bytes _ x y=>
  match op with
  |.call {callee:=.builtin .append,args:=⟨[kH,tM]⟩,argTypes:=⟨[t,t2]⟩}=>
   match T.eb t with
   |some (.slice el)=>
    match T.info el with
    |some (n,b,z)=>
     (match T.eb t2 with
      |some (.slice _)|some .string=>true
      |_=>false)&&Nat.beq n sz&&Nat.beq b bytes&&Nat.beq z.cells.size sz&&Nat.blt 0 bytes&&Nat.ble bytes 1048576&&cH x kH&&cH y tM
    |none=>false
   |_=>false
  |_=>false
 |.copy sz x y=>
  match op with
  |.call {callee:=.builtin .copy,args:=⟨[kH,tM]⟩,argTypes:=⟨[t,_]⟩}=>
   match T.eb t with
   |some (.slice el)=>T.size el==some sz&&cH x kH&&cH y tM
   |_=>false
  |_=>false
 |.min xs=>
  match op with
  |.call c=>
   match c.callee with
   |.builtin .min=>dC xs c.args.toList
   |_=>false
  |_=>false
 |.max xs=>
  match op with
  |.call c=>
   match c.callee with
   |.builtin .max=>dC xs c.args.toList
   |_=>false
  |_=>false
 |.makeMap _=>
  match op with
  |.makeMap _ none=>true
  |_=>false
 |.mR kJ m x v=>
  match op with
  |.mapUpdate t jt kH fG|.insert t jt kH fG=>
   match T.eb t with
   |some (.map B _)=>
    match T.eb B with
    |some d=>kN kJ d&&cH m jt&&cH x kH&&cH v fG
    |none=>false
   |_=>false
  |_=>false
 |.lookup kJ z ok m x=>
  match op with
  |.lookup t jt kH J=>
   match T.eb t with
   |some (.map B K)=>
    match T.eb B,T.info K with
    |some d,some (_,_,Z)=>kN kJ d&&hk z Z&&(ok==J)&&cH m jt&&cH x kH
    |_,_=>false
   |_=>false
  |_=>false
 |.lA _ f xs=>
  match op with
  |.call c=>
   match c.callee with
   |.value (.func wF)=>Nat.beq f wF&&dC xs c.args.toList
   |_=>false
  |_=>false
 |.jY _ f xs=>
  match op with
  |.call c=>
   match c.callee with
   |.value g=>cH f g&&dC xs c.args.toList
   |_=>false
  |_=>false
 |.ui neg x=>
  match op with
  |.binOp o t kH (.const .nilIface) _=>
   match T.eb t with
   |some (.interface _)=>xy o (if neg then .neq else .eql)&&cH x kH
   |_=>false
  |_=>false
 |.no=>true
theorem dF.ld{κ:bi}{D:Nat}{v:af}{x:Value}(h:dF κ D v x)(d:Nat):v.ap d=v:=by
 cases h<;> try rfl
 rename_i sz es g a cap dw cC au az b3 dJ e q;cases g<;> try rfl
 rename_i l;cases l with
 |l i=>exact absurd cC (by simp [iF])
 |g d i=>rfl
theorem xz{P:Program}{w:World}{κ:bi}{D:Nat}(f:af→af→Option af)(g:Value→Value→Sem Value)
  (u:∀x y z X Y,f x y=some z→dF κ D x X→dF κ D y Y→∃Z,(g X Y).run P w=.ok Z w∧dF κ D z Z):∀(r:List af) (e:List Value) (x v:af) (X:Value),uj f x r=some v→dF κ D x X→er κ D r e→
   ∃V,(e.foldlM g X).run P w=.ok V w∧dF κ D v V
 |[],e,x,v,X,h,a8,q=>by
  simp only[uj,bj] at h
  have:e=[]:=kQ q.1;subst this;subst h;exact⟨X,by simp,a8⟩
 |y::r,e,x,v,X,h,a8,q=>by
  cases e with
  |nil=>exact absurd q.1 (by simp)
  |cons Y e=>
   simp only[uj] at h;cases hC:f x y with
   |none=>rw[hC] at h;cases h
   |some z=>rw[hC] at h;simp only[f6] at h;obtain⟨Z,au,az⟩:=u x y z X Y hC a8 (q.2 0 y Y rfl rfl);obtain⟨V,b3,dJ⟩:=xz f g u r e z v Z h az ⟨by have:=q.1;simpa using this,fun j c y a3 eT=>q.2 (j+1) c y (by simpa using a3) (by simpa using eT)⟩;exact⟨V,by simp [List.foldlM_cons,au,b3],dJ⟩
section
variable{P:Program}{ty:TypeId}{κ:bi}{s:ag}{w:World}
theorem IP(x y z:af)(X Y:Value)(h:min2 x y=some z)(a8:dF κ (s.aa+1) x X)(eT:dF κ (s.aa+1) y Y):∃Z,(Builtin.min2 X Y).run P w=.ok Z w∧dF κ (s.aa+1) z Z:=by cases x<;> cases y<;> simp [min2] at h;subst h;rw[a8.eB,eT.eB];exact⟨_,by simp only[Builtin.min2];rfl,.int _ _⟩
theorem IQ(x y z:af)(X Y:Value)(h:max2 x y=some z)(a8:dF κ (s.aa+1) x X)(eT:dF κ (s.aa+1) y Y):∃Z,(Builtin.max2 X Y).run P w=.ok Z w∧dF κ (s.aa+1) z Z:=by cases x<;> cases y<;> simp [max2] at h;subst h;rw[a8.eB,eT.eB];exact⟨_,by simp only[Builtin.max2];rfl,.int _ _⟩
theorem iw{ao:Nat→af}{a:Act}{G:Nat→af}(bB:wB κ s ao a)(dX:km κ G):∀(xs:List bC) (e:List Operand),dC xs e=true→er κ (s.aa+1) (xs.map fun x=>(aq G ao x).ap s.aa) (e.map a.eval)
 |[],[],_=>.nil _ _
 |[],_::_,h=>by simp [dC] at h
 |_::_,[],h=>by simp [dC] at h
 |x::xs,y::e,h=>by simp only[dC,bn] at h;exact .cons (bp bB dX h.1) (iw bB dX xs e h.2)
def mA(κ:bi)(s:ag)(w:World)(v:af)(s':ag)(x:Value)(w':World):Prop:=∃κ',fx κ s w κ' s' w'∧c3 κ' s' w'∧dF κ' (s.aa+1) (v.ap s.aa) x
def oA(P:Program)(o:Op)(ty:TypeId)(ρ:Operand→Value)(κ:bi)(s:ag)(w:World)(v:af)(s':ag):Prop:=
 dQ P o ty ρ κ s w v s'∨∃f xs,(∀dst pos after guard,(execOp ρ ⟨dst,o,ty,pos,after,guard⟩).run P w=.ok (.enter f xs) w)∧Calls P f xs w fun e w'=>∃x,e=.returned x∧mA κ s w v s' x w'
structure mW (P:Program) (E:Env):Prop where
 loop:∃n,∀step bS ao s k,E.loop step bS ao s k=dV step bS n ao s k
 nB:∀f args s v s',E.call f args s≠.panic v s'
 ok:∀f args s v s' κ w xs,E.call f args s=.ok v s'→c3 κ s w→km κ E.aw→er κ (s.aa+1) args xs→
  (∃x w',(callFunc f xs.toArray).run P w=.ok (.value x) w'∧mA κ s w v s' x w')∨
  ((callFunc f xs.toArray).run P w=.ok (.enter f xs.toArray) w∧Calls P f xs.toArray w fun e w'=>∃x,e=.returned x∧mA κ s w v s' x w')
theorem wZ{E:Env}(jT:mW P E)(a6:c3 κ s w)(dX:km κ E.aw){f:Nat}{args:List af}{v:af}{s':ag}{xs:List Value}{o:Op}{ρ:Operand→Value}(h:E.call f args s=.ok v s')(a8:er κ (s.aa+1) args xs)
  (e:∀dst pos after guard,execOp ρ ⟨dst,o,ty,pos,after,guard⟩=callFunc f xs.toArray):oA P o ty ρ κ s w v s':=by
 rcases jT.ok f args s v s' κ w xs h a6 dX a8 with⟨x,w',au,κ',az,b3,dJ⟩|⟨au,az⟩
 ·exact .inl ⟨x,κ',w',.inl (fun dst pos after guard=>by rw[e];exact au),az,b3,dJ⟩
 ·exact .inr ⟨f,xs.toArray,fun dst pos after guard=>by rw[e];exact au,az⟩
theorem mA.pure(a6:c3 κ s w){v:af}{u:ag}{x:Value}{w':World}(h:mA {κ with n:=fun _=>0} {own:=[],up:=[],ro:=[]} w v u x w')(bO:v.bd=true):mA κ s w v s x w':=by
 obtain⟨κ',au,az,b3⟩:=h;have r:∀b,¬Live {κ with n:=fun _=>0} {own:=[],up:=[],ro:=[]} b:=fun b ⟨d,i,o,cC,_⟩=>by simp [ag.get] at cC
 have dl:gS κ {κ with F:=κ'.F} (s.aa+1):=⟨fun a v h=>au.k.F a v h,fun _ _=>aC _,fun _ _ _ _=>rfl,fun _ _ _ _ _ _ h=>h⟩;refine⟨{κ with F:=κ'.F},⟨dl,rfl,au.size,au.os,au.tape,au.output,fun b e _=>au.kU b e (r b),fun b e bK=>?_,fun a y=>?_⟩,?_,?_⟩
 ·obtain⟨d,i,o,cC,A⟩:=bK;exact⟨d,i,o,cC,A⟩
 ·rcases au.oN a y with q|q|q
  ·exact .inl q
  ·exact .inr (.inl q)
  ·exact absurd q (r _)
 ·refine a6.world dl rfl rfl (fun a v h=>az.iG a v h) (fun b e=>⟨au.kU b (a6.jS e) (r b),fun o=>?_⟩);show κ'.F ⟨b,o,none⟩=κ.F ⟨b,o,none⟩;cases gh:κ.F ⟨b,o,none⟩ with
  |some v=>exact au.k.F _ _ gh
  |none=>
   cases B:κ'.F ⟨b,o,none⟩ with
   |none=>rfl
   |some v=>
    rcases au.oN ⟨b,o,none⟩ (by rw[B];simp) with q|q|q
    ·exact absurd gh q
    ·exact absurd (a6.jS e) (Nat.not_lt.2 q)
    ·exact absurd q (r _)
 ·have H:dF κ' (({own:=[],up:=[],ro:=[]}:ag).aa+1) v x:=by rw[js bO] at b3;exact b3
  rw[js bO];exact H.bd bO _ (fun _ _ h=>h)
theorem uP{E:Env}(jT:mW P E)(a6:c3 κ s w)(dX:km κ E.aw){f:Nat}{args:List af}{v:af}{q:ag}{xs:List Value}{o:Op}{ρ:Operand→Value}(h:E.call f args {own:=[],up:=[],ro:=[]}=.ok v q)(bO:v.bd=true)(a8:er κ (s.aa+1) args xs)(aT:af.aY args=true)
  (r:∀dst pos after guard,execOp ρ ⟨dst,o,ty,pos,after,guard⟩=callFunc f xs.toArray):oA P o ty ρ κ s w v s:=by
 have u:er {κ with n:=fun _=>0} (({own:=[],up:=[],ro:=[]}:ag).aa+1) args xs:=⟨a8.1,fun j c x a3 y=>(a8.2 j c x a3 y).bd (iK aT a3) _ (fun _ _ h=>h)⟩;have A:km {κ with n:=fun _=>0} E.aw:=fun n=>⟨(dX n).1.bd (dX n).2 _ (fun _ _ h=>h),(dX n).2⟩
 rcases jT.ok f args _ v q _ w xs h a6.empty A u with⟨x,w',au,az⟩|⟨au,az⟩
 ·obtain⟨κ',B,F,H⟩:=az.pure a6 bO;exact .inl ⟨x,κ',w',.inl (fun dst pos after guard=>by rw[r];exact au),B,F,H⟩
 ·exact .inr ⟨f,xs.toArray,fun dst pos after guard=>by rw[r];exact au,az.mono fun e w' ⟨x,he,I⟩=>⟨x,he,I.pure a6 bO⟩⟩
theorem kY{ρ:Operand→Value}{c:Call}{f:Nat}{xs:Array Value}(a3:∃y,c.callee=.value y∧ρ y=.func (.func f) #[] xs):∀dst pos after guard,execOp ρ ⟨dst,.call c,ty,pos,after,guard⟩=callFunc f (c.args.toList.map ρ++xs.toList).toArray:=by
 intro dst pos after guard;obtain⟨y,eT,e⟩:=a3;have au:resolve ρ c ty=(Pure.pure {target:=.fn (.func f) xs,args:= #[]++c.args.map ρ}:Sem Deferred):=by simp only[resolve,eT,e,Deferred.ofValue]
 have az:(#[]++c.args.map ρ)++xs=(c.args.toList.map ρ++xs.toList).toArray:=by apply Array.ext';simp
 show(do let d←resolve ρ c ty;invoke d.target d.args)=_;rw[au];show invoke (.fn (.func f) xs) (#[]++c.args.map ρ)=_;simp only[invoke,az]
end
theorem c3.Db{κ κ':bi}{s:ag}{w:World}(a6:c3 κ s w)(o:du)(dl:gS κ κ' (s.aa+1))(dp:∀d,κ'.n d=if d=s.aa then κ.n d+1 else κ.n d)(B:∀d i m,i<κ.n d→κ'.lD d i m=κ.lD d i m)(h9:κ'.F=κ.F)
  (H:zL κ' s.aa s.own.length w o)(A:∀b,bh κ' s.aa s.own.length o=some b→¬Live κ s b):c3 κ' (s.new o) w:=by
 have y:=iv.new s o;have key:∀d i o,s.get (.g d i)=some o→zL κ' d i w o∧bh κ' d i o=bh κ d i o:=fun d i o h=>(a6.obj d i o h).bS (a6.nw h) (dl.low (by have:=ag.gu h;omega)) (fun m=>B d i m (a6.nw h)) (fun b I=>⟨rfl,fun x=>by rw[h9]⟩)
 refine⟨fun a v h=>a6.iG a v (h9 ▸ h),fun d l h=>?_,fun d i o' h=>?_,fun d i r fL hI u b h q e hZ=>?_⟩
 ·rw[y.ao] at h;rw[dp];split at h
  ·rename_i cS;cases bB:s.ao d with
   |none=>rw[bB] at h;cases h
   |some l'=>rw[bB] at h;simp only[ew,bj] at h;rw[←h,if_pos cS,←a6.len d l' bB];simp
  ·rename_i cS;rw[if_neg cS];exact a6.len d l h
 ·rw[y.get] at h;split at h
  ·rename_i a3;obtain⟨rfl,rfl⟩:=a3;simp only[bj] at h;exact h ▸ H
  ·exact(key d i o' h).1
 ·rw[y.get] at h q;split at h
  ·rename_i a3;obtain⟨rfl,rfl⟩:=a3;simp only[bj] at h;subst h;split at q
   ·rename_i kV;exact⟨kV.1.symm,kV.2.symm⟩
   ·rw[(key fL hI u q).2] at hZ;exact absurd ⟨fL,hI,u,q,hZ⟩ (A b e)
  ·split at q
   ·rename_i kV;obtain⟨rfl,rfl⟩:=kV;simp only[bj] at q;subst q;rw[(key d i r h).2] at e;exact absurd ⟨d,i,r,h,e⟩ (A b hZ)
   ·rw[(key d i r h).2] at e;rw[(key fL hI u q).2] at hZ;exact a6.inj d i r fL hI u b h q e hZ
theorem c3.z3{κ:bi}{s:ag}{w:World}(a6:c3 κ s w){i:Nat}{o:du}(cC:s.own[i]? =some o):c3 κ {s with own:=s.own.set i .gone} w∧fx κ s w κ {s with own:=s.own.set i .gone} w:=by
 have q:s.get (.g s.aa i)=some o:=by simp [ag.get,cC]
 exact a6.setObj q (o':=.gone) (by simp [ag.set]) (.refl _ _) rfl (fun _ _ _ _=>rfl) (fun a v h=>a6.iG a v h) (fun b e fe=>⟨rfl,fun _=>rfl⟩) (aC _) rfl rfl rfl trivial (fun b e=>by simp [bh] at e)
def bi.row(κ:bi)(D I b n cap sz:Nat):bi:=
 {κ with n:=fun d=>if d=D then κ.n d+1 else κ.n d,loc:=fun d i=>if d=D∧i=I then b else κ.loc d i,lD:=fun d i m=>if d=D∧i=I then(if m=n then some (⟨b,0,none⟩,cap,sz) else none) else κ.lD d i m}
theorem gS.row{κ:bi}{D I b n cap sz:Nat}(e:I=κ.n D)(E:Nat):gS κ (κ.row D I b n cap sz) E:=by
 have fe:∀d i,i<κ.n d→¬(d=D∧i=I):=by
  rintro d i bX ⟨rfl,rfl⟩
  omega
 refine⟨fun _ _ h=>h,fun d _=>?_,fun d i _ bX=>?_,fun d i n x _ bX h=>?_⟩
 ·simp only[bi.row];split<;> omega
 ·simp only[bi.row];rw[if_neg (fe d i bX)]
 ·simp only[bi.row];rw[if_neg (fe d i bX)];exact h
theorem c3.newRow{κ:bi}{s:ag}{w w':World}(a6:c3 κ s w)(cs:List af)(xs:List Value)(C:Array Value)(e:TypeId)(n sz cap:Nat)(a8:er κ (s.aa+1) cs xs)(jT:C.size=cap*sz)(hle:cs.length≤C.size)(df:∀j,j<cs.length→C[j]? =xs[j]?)
  (hw:w'.heap=w.heap.push (.cells C e (0,0)))(r:w'.os=w.os)(eh:w'.tape=w.tape)(hu:w'.output=w.output):
  c3 (κ.row s.aa s.own.length w.heap.size n cap sz) (s.new (.cells cs)) w'∧fx κ s w (κ.row s.aa s.own.length w.heap.size n cap sz) (s.new (.cells cs)) w':=by
 have u:s.own.length=κ.n s.aa:=a6.len s.aa s.own (by simp [ag.ao]);have dl:gS κ (κ.row s.aa s.own.length w.heap.size n cap sz) (s.aa+1):=gS.row u _;have y:w'.heap[w.heap.size]? =some (.cells C e (0,0)):=by rw[hw];simp
 have A:C.toList.take cs.length=xs:=by
  apply List.ext_getElem?;intro j;rw[List.getElem?_take];split
  ·rename_i B;rw[←df j B];simp
  ·rw[List.getElem?_eq_none (by rw[a8.1];omega)]
 exact a6.newObj (w':=w') (.cells cs) dl (iv.new s _) (fun d=>rfl) (fun d i m bX=>if_neg (by rintro ⟨rfl,rfl⟩;omega)) (.inl rfl) (fun b q=>by rw[hw,Array.getElem?_push];simp [Nat.ne_of_lt q]) (by rw[hw];simp) r eh hu
  ⟨⟨C,e,(0,0),by simp [bi.row,y],fun j _=>by simp,by rw[A];exact a8.mono dl,fun m b c z h=>by
   simp only[bi.row,and_self,if_true] at h;split at h
   ·simp only[bj,e0] at h;obtain⟨_,rfl,rfl⟩:=h;omega
   ·cases h⟩,fun o=>a6.qf (by simp [bi.row])⟩ (fun b q=>by simp [bh,bi.row] at q;omega)
theorem c3.rename{κ:bi}{s:ag}{w:World}(a6:c3 κ s w){i n m cap sz:Nat}{cs:List af}(cC:s.own[i]? =some (.cells cs))(F:κ.lD s.aa i m=some (⟨κ.loc s.aa i,0,none⟩,cap,sz)):
  c3 (κ.row s.aa s.own.length (κ.loc s.aa i) n cap sz) {s with own:=s.own.set i .gone++[.cells cs]} w∧fx κ s w (κ.row s.aa s.own.length (κ.loc s.aa i) n cap sz) {s with own:=s.own.set i .gone++[.cells cs]} w:=by
 have H:s.own.length=κ.n s.aa:=a6.len s.aa s.own (by simp [ag.ao]);have dl:gS κ (κ.row s.aa s.own.length (κ.loc s.aa i) n cap sz) (s.aa+1):=gS.row H _;have bX:i<s.own.length:=(ey.1 cC).1;have r:s.get (.g s.aa i)=some (.cells cs):=by simp [ag.get,cC]
 obtain⟨au,az⟩:=a6.z3 cC;obtain⟨⟨C,e,i7,I,J,K,L⟩,M⟩:=a6.obj _ _ _ r;have u:(κ.row s.aa s.own.length (κ.loc s.aa i) n cap sz).loc s.aa s.own.length=κ.loc s.aa i:=by simp [bi.row]
 have N:zL (κ.row s.aa s.own.length (κ.loc s.aa i) n cap sz) s.aa s.own.length w (.cells cs):=by
  refine⟨⟨C,e,i7,by rw[u];exact I,J,K.mono dl,fun jt b c z h=>?_⟩,fun o=>by rw[u];exact M o⟩;simp only[bi.row,and_self,if_true] at h;split at h
  ·simp only[bj,e0] at h;obtain⟨_,rfl,rfl⟩:=h;exact L m _ _ _ F
  ·cases h
 have key:=au.Db (κ':=κ.row s.aa s.own.length (κ.loc s.aa i) n cap sz) (.cells cs) dl (fun d=>rfl) (fun d hI jt ae=>if_neg (by rintro ⟨b3,dJ⟩;have q:d=s.aa:=b3;subst q;have ah:hI=s.own.length:=dJ;omega)) rfl (by
   show zL _ s.aa (s.own.set i .gone).length w _;rw[List.length_set];exact N) (fun b y=>by
   have O:b=κ.loc s.aa i:=by have:bh (κ.row s.aa s.own.length (κ.loc s.aa i) n cap sz) s.aa (s.own.set i .gone).length (.cells cs)=some b:=y;rw[List.length_set] at this;simp only[bh,u,bj] at this;exact this.symm
   subst O
   rintro ⟨fL,hI,o',b3,dJ⟩
   have U:=ag.us (s:=s) (s':={s with own:=s.own.set i .gone}) (d:=s.aa) (i:=i) (o:=.gone) (by simp [ag.set]) r fL hI;rw[U] at b3;split at b3
   ·simp only[bj] at b3;subst b3;simp [bh] at dJ
   ·rename_i fe;obtain⟨A,B⟩:=a6.inj fL hI o' s.aa i _ _ b3 r dJ rfl;exact fe ⟨A,B⟩)
 refine⟨key,⟨dl,rfl,aC _,rfl,rfl,rfl,fun _ _ _=>rfl,fun b y bK=>?_,fun a V=>.inl V⟩⟩;obtain⟨fL,hI,o',b3,dJ⟩:=bK;have Y:=(iv.new {s with own:=s.own.set i .gone} (.cells cs)).get fL hI;have q:(({s with own:=s.own.set i .gone}:ag).new (.cells cs)).get (.g fL hI)=some o':=b3;rw[Y] at q;split at q
 ·rename_i a3;simp only[bj] at q;subst q;obtain⟨A,B⟩:=a3;have Z:hI=s.own.length:=by rw[B];simp
  have ab:fL=s.aa:=A;subst Z ab;simp only[bh,u,bj] at dJ;exact⟨s.aa,i,_,r,by simp [bh,dJ]⟩
 ·rename_i a3;have ai:=au.nw q;have aj:=ag.gu q;have ac:bh κ fL hI o'=some b:=by
   have fe:¬(fL=s.aa∧hI=s.own.length):=by rintro ⟨ad,ak⟩;subst ad;omega
   cases o' with
   |cells al=>simp only[bh,bi.row,if_neg fe] at dJ ⊢;exact dJ
   |map es=>simp only[bh,bi.row,if_neg fe] at dJ ⊢;exact dJ
   |tok k=>simp only[bh,bi.row,if_neg fe] at dJ ⊢;exact dJ
   |gone=>simp [bh] at dJ
  exact az.live b y ⟨fL,hI,o',q,ac⟩
section
variable{P:Program}{ty:TypeId}{ρ:Operand→Value}{κ:bi}{s:ag}{w:World}(a6:c3 κ s w)
include a6
theorem uQ{E:Env}(bq:E.F=.not){k:af→ag→ah}{r:ah}(bB:r≠.fail){t t2 el:TypeId}{sz bytes:Nat}{z:Value}(h:nk P t t2 el sz bytes z){x y:Operand}{X Y:af}
  (kM:dF κ (s.aa+1) (X.ap s.aa) (ρ x))(aP:dF κ (s.aa+1) (Y.ap s.aa) (ρ y))(aT:l7 E s k sz bytes X Y=r):∃fG s',k fG s'=r∧dQ P (.call {callee:=.builtin .append,args:= #[x,y],argTypes:= #[t,t2]}) ty ρ κ s w fG s':=by
 unfold l7 at aT;cases iQ:dL s Y with
 |none=>rw[iQ] at aT;exact absurd aT.symm bB
 |some p=>
  obtain⟨q,new⟩:=p;rw[iQ] at aT;obtain⟨L,bc,I⟩:=kw a6 aP iQ;cases new with
  |nil=>exact absurd aT.symm bB
  |cons aQ aR=>
   simp only[bq,aW.not] at aT;generalize aS:aQ::aR=new at *;have lL:0<new.length:=by rw[←aS];simp
   have aB:s.own.length=κ.n s.aa:=a6.len s.aa s.own (by simp [ag.ao]);split at aT
   ·
    rename_i aU;obtain⟨u,V⟩:=cY aT bB;simp only[bn] at u;obtain⟨⟨⟨ai,aj⟩,ak⟩,al⟩:=u;have dU:=dk ai;have am:=(dk aj).symm;subst dU;subst am;have b3:=d0 ak;simp only[af.ap] at kM;have Z:ρ x=.slice none 0 0:=by
     rcases kM.hG with⟨_,_,e⟩|⟨A,cap,dw,e,cC,_⟩
     ·exact e
     ·cases cC
    obtain⟨hlen,xs,a3,f0⟩:=fo (P:=P) L I new.length (aC _) w.drew (fun _=>rfl);have an:=(fo (P:=P) L I new.length (aC _) w (fun _=>rfl)).1;simp only[List.take_length] at f0;have B:=e8 new q I;have M:xs.length=new.length*q:=by rw[f0.1,B]
    have J:(Builtin.firstCells q 0 (.slice none 0 0)).run P w.drew=.ok (#[]:Array Value) w.drew:=by
     obtain⟨_,os,J,N⟩:=fo (P:=P) (s:=s) (κ:=κ) (w:=w) (X:=Value.slice none 0 0) (v:=.dead) (sz:=q) (es:=[]) (.inr ⟨none,0,rfl,fun _=>rfl,fun a O=>(by cases O)⟩) (fun e he=>(by cases he)) 0 (aC _) w.drew (fun _=>rfl)
     have:os=[]:=kQ (by simpa using N.1);rw[this] at J;exact J
    obtain⟨cap,C,K,U,ab,ac⟩:=iT (ty:=ty) h (base:=none) (fH:=0) (jc:=0) (os:=[]) an a3 J M (by simp) (by omega) (by rw[bg];exact b3);simp only[bg,List.nil_append] at K ab ac;obtain⟨ho,gF⟩:=a6.newRow (w':=w.drew.alloc (.cells C el)) (new.flatMap af.cells) xs C el new.length q cap f0 U (by rw[B,U];exact fV _ K) (fun j df=>ab j (by rw[←B];exact df)) rfl rfl rfl rfl;refine⟨_,_,V,_,_,_,.inl (hU (by rw[Z];exact ac)),gF,ho,?_⟩;simp only[af.ap,Loc.ap];have bK:(κ.row s.aa s.own.length w.heap.size new.length cap q).loc s.aa s.own.length=w.heap.size:=by simp [bi.row]
    have key:=dF.cZ (κ:=κ.row s.aa s.own.length w.heap.size new.length cap q) (D:=s.aa+1) s.aa s.own.length 0 new.length 0 cap q (Nat.lt_succ_self _) (by simp [bi.row,aB]) K (.inr ⟨rfl,lL,rfl,by rw[bK];simp [bi.row]⟩);rw[bK] at key;exact key
   ·
    rename_i i len aU;split at aT
    rotate_left
    ·exact absurd aT.symm bB
    rename_i cs aq;obtain⟨u,V⟩:=cY aT bB;simp only[bn,Bool.not_eq_true'] at u;obtain⟨⟨⟨⟨⟨⟨ai,aj⟩,ak⟩,al⟩,aV⟩,aX⟩,aD⟩:=u;have dU:=dk ai;have am:=(dk aj).symm;subst dU;subst am;have ad:=dk ak;have bd:len≠0:=fun eZ=>by rw[eZ] at al;cases al
    have ar:=d0 aV;simp only[af.ap,Loc.ap] at kM;have cC:s.get (.g s.aa i)=some (.cells cs):=by simp [ag.get,aq]
    obtain⟨lS,Z,cS,bX,be,uL⟩:=kM.jU;obtain⟨_,_,_,aE⟩:(0:Nat)=0∧0<len∧(0:Nat)=0∧κ.lD s.aa i len=some (⟨κ.loc s.aa i,0,none⟩,lS,q):=by
     rcases uL with au|au
     ·omega
     ·exact au
    obtain⟨⟨H,oG,as,av,aF,aG,aH⟩,aI⟩:=a6.obj _ _ _ cC;have aY:=aH len _ _ _ aE;have B:=e8 new q I;have aw:i<s.own.length:=(ey.1 aq).1;have hmul:(len+new.length)*q=len*q+new.length*q:=e9 _ _ _;have aJ:=n2 a6 cC 0;rw[bL] at aJ;by_cases ax:len+new.length≤lS
    ·
     obtain⟨hlen,xs,a3,f0⟩:=fo (P:=P) L I new.length (aC _) w (fun _=>rfl);simp only[List.take_length] at f0;have M:xs.length=new.length*q:=by rw[f0.1,B]
     have bf:(len+new.length)*q≤H.size:=Nat.le_trans (fV _ ax) aY;have au:=nA aX f0;have aZ:=run_storeCells_cells (P:=P) (κ.loc s.aa i) (len*q) xs 0 w (fun j df=>by rw[fN av];simp;omega) (fun j df=>by
      have hu:=aF (len*q+0+j) (by omega);simp only[World.frozen?,av];rw[Bool.and_eq_false_iff];by_cases aK:as.1≤len*q+0+j
      ·right;simp only[decide_eq_false_iff_not];exact fun h=>hu ⟨aK,h⟩
      ·left;simpa using aK) au
     have a0:=run_append_fits (ty:=ty) h (base:=some ⟨κ.loc s.aa i,0,none⟩) (fH:=len) (jc:=lS) hlen a3 ax (w':=w.setCells (κ.loc s.aa i) (len*q) xs) (by
      have a1:(⟨κ.loc s.aa i,0,none⟩:Addr).add (len*q)=⟨κ.loc s.aa i,len*q,none⟩:=by rw[fZ rfl];simp
      simp only[a1];simpa using aZ)
     have ay:=mv xs w (κ.loc s.aa i) (len*q) H oG as av (by omega);obtain⟨pE,qO,C3⟩:=mx xs w (κ.loc s.aa i) (len*q);have tC:cs.length≤H.size:=by have:=aG.1;simp at this;omega
     have a2:(dS H.toList (len*q) xs).take (cs++new.flatMap af.cells).length=H.toList.take cs.length++xs:=by
      rw[fJ,B,ad,←M];apply List.ext_getElem?;intro j;rw[List.getElem?_take];by_cases df:j<len*q
      ·rw[if_pos (by omega),gP _ _ _ (by simp;omega),if_neg (by omega),hn (by simp;omega),List.getElem?_take,if_pos (by omega)]
      ·rw[j5 (by simp;omega)];have wV:(H.toList.take (len*q)).length=len*q:=by simp;omega
       rw[wV];by_cases aL:j<len*q+xs.length
       ·rw[if_pos aL,gP _ _ _ (by simp;omega),if_pos (by omega)]
       ·rw[if_neg aL,List.getElem?_eq_none (by omega)]
     let s1:ag:={s with own:=s.own.set i (.cells (cs++new.flatMap af.cells))}
     have aM:c3 κ s1 (w.setCells (κ.loc s.aa i) (len*q) xs)∧fx κ s w κ s1 (w.setCells (κ.loc s.aa i) (len*q) xs):=by
      refine a6.setObj cC (o':=.cells (cs++new.flatMap af.cells)) (by simp [ag.set,s1]) (.refl _ _) rfl (fun _ _ _ _=>rfl) (fun a v h=>?_) (fun b _ u=>⟨?_,fun _=>rfl⟩) (by rw[mw];exact aC _) pE qO C3 ⟨⟨(dS H.toList (len*q) xs).toArray,oG,as,by rw[ay];simp,by simpa [fM] using aF,?_,fun m b cap sz hm=>by simpa [fM] using aH m b cap sz hm⟩,aI⟩ (fun b u=>.inl u)
      ·obtain⟨ar,a4⟩:=a6.iG a v h;refine⟨ar,?_⟩;rw[gE (w:=w) ?_]
       ·exact a4
       ·rw[ay,if_neg];intro dU;have a5:a=⟨κ.loc s.aa i,a.off,none⟩:=by cases a;simp_all
        rw[a5,aI] at h;cases h
      ·rw[ay,if_neg (fun dU=>u (by simp [bh,dU]))]
      ·show er κ _ _ ((dS H.toList (len*q) xs).take _);rw[a2];exact aG.append f0
     have a7:s1.own[i]? =some (.cells (cs++new.flatMap af.cells)):=by simp [s1,aw]
     obtain⟨ho,gF⟩:=aM.1.rename (n:=len+new.length) a7 aE;have az:({s1 with own:=s1.own.set i .gone++[.cells (cs++new.flatMap af.cells)]}:ag)= {s with own:=s.own.set i .gone++[.cells (cs++new.flatMap af.cells)]}:=by simp [s1]
     rw[az] at ho gF;refine⟨_,_,V,_,_,_,.inl (hU (by rw[Z];exact a0)),aM.2.trans gF,ho,?_⟩;simp only[af.ap,Loc.ap];have aA:s1.own.length=s.own.length:=by simp [s1]
     have bK:(κ.row s1.aa s1.own.length (κ.loc s1.aa i) (len+new.length) lS q).loc s.aa s.own.length=κ.loc s.aa i:=by rw[aA];show(if s.aa=s.aa∧s.own.length=s.own.length then κ.loc s.aa i else κ.loc s.aa s.own.length)=_;simp
     have key:=dF.cZ (κ:=κ.row s1.aa s1.own.length (κ.loc s1.aa i) (len+new.length) lS q) (D:=s.aa+1) s.aa s.own.length 0 (len+new.length) 0 lS q (Nat.lt_succ_self _) (by
      rw[aA];show s.own.length<if s.aa=s.aa then κ.n s.aa+1 else κ.n s.aa
      rw[if_pos rfl];omega) ax (.inr ⟨rfl,by omega,rfl,by
      rw[bK,aA];show(if s.aa=s.aa∧s.own.length=s.own.length then(if len+new.length=len+new.length then some ((⟨κ.loc s.aa i,0,none⟩:Addr),lS,q) else none) else κ.lD s.aa s.own.length (len+new.length))=_;simp⟩)
     rw[bK] at key;exact key
    ·
     obtain⟨hlen,xs,a3,f0⟩:=fo (P:=P) L I new.length (aC _) w.drew (fun _=>rfl);have an:=(fo (P:=P) L I new.length (aC _) w (fun _=>rfl)).1;simp only[List.take_length] at f0;have M:xs.length=new.length*q:=by rw[f0.1,B]
     have a8:q≠0:=fun eZ=>by rw[eZ] at aD;cases aD
     obtain⟨aN,a9⟩:=kv q a8 len cs (by omega);obtain⟨_,os,J,N⟩:=fo (P:=P) (s:=s) (κ:=κ) (w:=w) (X:=Value.slice (some ⟨κ.loc s.aa i,0,none⟩) len lS) (v:=.dead) (sz:=q) (es:=chunk q len cs) (.inr ⟨some ⟨κ.loc s.aa i,0,none⟩,lS,by rw[fr],fun O=>(by cases O),fun fT O=>(by cases O;rw[aN,iP (by omega)];exact aJ)⟩) a9 len (by rw[fr];exact aC _) w.drew (fun _=>rfl);rw[show(chunk q len cs).take len=chunk q len cs from iP (by rw[fr];exact aC _),aN,iP (by omega)] at N;have ba:os.length=len*q:=by rw[N.1,ad]
     obtain⟨ae,C,K,U,ab,ac⟩:=iT (ty:=ty) h (base:=some ⟨κ.loc s.aa i,0,none⟩) (fH:=len) (jc:=lS) an a3 J M ba (by omega) ar;obtain⟨ho,gF⟩:=a6.newRow (w':=w.drew.alloc (.cells C el)) (cs++new.flatMap af.cells) (os++xs) C el (len+new.length) q ae (N.append f0) U (by rw[fJ,B,ad,U,←e9];exact fV _ K) (fun j df=>ab j (by rw[fJ,B,ad] at df;omega)) rfl rfl rfl rfl;have bb:(s.new (.cells (cs++new.flatMap af.cells))).own[i]? =some (.cells cs):=by simp only[ag.new];rw[hn aw];exact aq
     obtain⟨aO,ni⟩:=ho.z3 bb;have az:({s.new (.cells (cs++new.flatMap af.cells)) with own:=(s.new (.cells (cs++new.flatMap af.cells))).own.set i .gone}:ag)= {s with own:=s.own.set i .gone++[.cells (cs++new.flatMap af.cells)]}:=by simp only[ag.new];congr 1;exact List.set_append_left _ _ aw
     rw[az] at aO ni;refine⟨_,_,V,_,_,_,.inl (hU (by rw[Z];exact ac)),gF.trans ni,aO,?_⟩;simp only[af.ap,Loc.ap];have bK:(κ.row s.aa s.own.length w.heap.size (len+new.length) ae q).loc s.aa s.own.length=w.heap.size:=by simp [bi.row]
     have key:=dF.cZ (κ:=κ.row s.aa s.own.length w.heap.size (len+new.length) ae q) (D:=s.aa+1) s.aa s.own.length 0 (len+new.length) 0 ae q (Nat.lt_succ_self _) (by simp [bi.row,aB]) K (.inr ⟨rfl,by omega,rfl,by rw[bK];simp [bi.row]⟩);rw[bK] at key;exact key
   ·exact absurd aT.symm bB
end
section
variable{P:Program}{ty:TypeId}{ρ:Operand→Value}{κ:bi}{s:ag}{w:World}
theorem w0{T:kO}(eR:T.pw P){D:Nat}:∀(jH:List Field) (iq:List wE) (j:Nat) (cs ib:List af) (xs u:List Value) (b:Bool),jd T j iq jH=true→e7 iq (cs.drop j)=true→e7 iq (ib.drop j)=true→er κ D cs xs→er κ D ib u→iC (cs.drop j) (ib.drop j)=some b→
  ∀d,(Op.eqFields (d+1) xs.toArray u.toArray jH).run P w=.ok b w:=by
 intro jH
 induction jH with
 |nil=>
  intro iq j cs ib xs u b au az b3 a8 eT h d;cases iq with
  |cons k iq=>simp [jd] at au
  |nil=>
   cases a3:cs.drop j with
   |cons c B=>rw[a3] at az;simp [e7] at az
   |nil=>
    cases cS:ib.drop j with
    |cons c B=>rw[cS] at b3;simp [e7] at b3
    |nil=>rw[a3,cS] at h;simp only[iC,bj] at h;subst h;simp [Op.eqFields]
 |cons f jH U=>
  intro iq j cs ib xs u b au az b3 a8 eT h d;cases iq with
  |nil=>simp [jd] at au
  |cons k iq=>
   simp only[jd,bn,b1] at au;obtain⟨⟨⟨dU,dp⟩,eh⟩,aT⟩:=au;have L:=dk dU;cases a3:cs.drop j with
   |nil=>rw[a3] at az;cases k<;> simp [e7] at az
   |cons c B=>
    cases cS:ib.drop j with
    |nil=>rw[cS] at b3;cases k<;> simp [e7] at b3
    |cons nS I=>
     have M:cs.drop (j+1)=B:=by rw[←List.drop_drop,a3];rfl
     have N:ib.drop (j+1)=I:=by rw[←List.drop_drop,cS];rfl
     have V:cs[j]? =some c:=by have:=congrArg (fun l:List af=>l[0]?) a3;simpa using this
     have Y:ib[j]? =some nS:=by have:=congrArg (fun l:List af=>l[0]?) cS;simpa using this
     obtain⟨x,Z,J⟩:=a8.get V;obtain⟨y,aa,K⟩:=eT.get Y;rw[a3] at az;rw[cS] at b3;rw[a3,cS] at h;cases hu:T.eb f.type with
     |none=>rw[hu] at eh;cases eh
     |some F=>
      rw[hu] at eh;have H:=eR.eb _ _ hu;have O:kW P f.type=some false:=by cases k<;> cases F<;> simp [kN] at eh<;> simp [kW,H,zT]
      have ab:(part f.type xs.toArray f.offset).run P w=.ok x w:=by rw[L];simp [part,ja O,Z]
      have ac:(part f.type u.toArray f.offset).run P w=.ok y w:=by rw[L];simp [part,ja O,aa]
      have key:∀(e:Bool),(Op.equalIn (d+1) f.type x y).run P w=.ok e w→∀q,iC B I=some q→b=(e&&q)→e7 iq B=true→e7 iq I=true→(Op.eqFields (d+1) xs.toArray u.toArray (f::jH)).run P w=.ok b w:=by
       intro e he q A r k1 oR;simp only[Op.eqFields,dp,ne_eq,not_false_eq_true,↓reduceIte,Sem.run_bind,ab,ac,Result.andThen_ok,he];cases e with
       |false=>simp [r]
       |true=>simp only[gK,bW,↓reduceIte];rw[r,eM];exact U iq (j+1) cs ib xs u q aT (by rw[M];exact k1) (by rw[N];exact oR) a8 eT (by rw[M,N];exact A) d
      cases k with
      |int eu=>cases c<;> simp [e7] at az;cases nS<;> simp [e7] at b3;rename_i k1 a oR fT;obtain⟨rfl,az⟩:=az;obtain⟨rfl,b3⟩:=b3;cases F<;> simp [kN] at eh;simp only[iC,↓reduceIte] at h;obtain⟨q,A,r⟩:=Option.map_eq_some_iff.1 h;rw[J.eB,K.eB] at key;exact key _ (run_equalIn_int w d f.type _ _ a fT H) q A r.symm az b3
      |str=>
       cases c<;> simp [e7] at az;cases nS<;> simp [e7] at b3;rename_i a fT;cases F<;> simp [kN] at eh;simp only[iC] at h;obtain⟨q,A,r⟩:=Option.map_eq_some_iff.1 h;obtain⟨z,rfl,hC⟩:=J.ic;obtain⟨WE,rfl,ad⟩:=K.ic;have ae:(a==fT)=(z.toList==WE.toList):=by
        rw[←hC,←ad,ByteArray.toList_eq,ByteArray.toList_eq];rw[Bool.eq_iff_iff];simp only[beq_iff_eq];constructor
        ·intro e;exact(List.map_inj_right (f:=UInt8.toNat) (fun a b h=>UInt8.toNat_inj.1 h)).1 e
        ·intro e;rw[e]
       rw[ae] at r;exact key _ (run_equalIn_string w d f.type z WE H) q A r.symm az b3
      |bool=>cases c<;> simp [e7] at az;cases nS<;> simp [e7] at b3;rename_i a fT;cases F<;> simp [kN] at eh;simp only[iC] at h;obtain⟨q,A,r⟩:=Option.map_eq_some_iff.1 h;rw[J.gY,K.gY] at key;exact key _ (run_equalIn_bool' w d f.type a fT H) q A r.symm az b3
theorem yp{T:kO}(eR:T.pw P)(a6:c3 κ s w){iq:List wE}{b neg:Bool}{v u:af}{t yt:TypeId}{x y:Operand}{jH:Array Field}{op:BinOp}(B:op=if neg then .neq else .eql)(eh:P.underlying t=some (.struct jH))(he:T.eqs t=true)(bB:jd T 0 iq jH.toList=true)
  (a8:dF κ (s.aa+1) (v.ap s.aa) (ρ x))(eT:dF κ (s.aa+1) (u.ap s.aa) (ρ y))(h:lB (.agg iq) v u=some b):dQ P (.binOp op t x y yt) ty ρ κ s w (.bool (bif neg then !b else b)) s:=by
 obtain⟨au,az⟩:=eR.eqs t he;have r:P.fieldsOf t=jH:=by simp [Program.fieldsOf,eh]
 rw[←uJ (d:=s.aa)] at h;generalize H:v.ap s.aa=fG at *;generalize I:u.ap s.aa=J at *;simp only[lB] at h;split at h
 ·rename_i cs ib;cases e:e7 iq cs&&e7 iq ib with
  |false=>rw[e] at h;cases h
  |true=>
   rw[e] at h;rw[bn] at e;obtain⟨xs,ex,f0⟩:=a8.my;obtain⟨q,A,F⟩:=eT.my;have run:=w0 (w:=w) eR jH.toList iq 0 cs ib xs q b bB (by simpa using e.1) (by simpa using e.2) f0 F (by simpa using h) 9998;have dU:=run_equalIn_agg (P:=P) w 9999 t xs.toArray q.toArray (by rw[r];exact eh) au;rw[r,run] at dU;have g:=fun op=>run_eqGuard_agg (P:=P) w op t x y xs.toArray q.toArray az
   refine bF a6 _ (fun dst pos after guard=>?_) (.bool _);subst B;cases neg
   ·have wU:=run_eql_struct (P:=P) w t xs.toArray q.toArray;rw[dU] at wU;simp only[execOp,bW,↓reduceIte,ex,A,Sem.run_bind,g,Result.andThen_ok,wU,Sem.run_pure,cond_false]
   ·have wU:=run_neq_struct (P:=P) w t xs.toArray q.toArray;rw[dU] at wU;simp only[execOp,↓reduceIte,ex,A,Sem.run_bind,g,Result.andThen_ok,wU,Sem.run_pure,b2]
 ·cases h
end
theorem qY{P:Program}{w:World}(d:Nat){t e:TypeId}{k:IntKind}(eh:P.underlying t=some (.array 2 e))(he:P.underlying e=some (.int k))(a6:ff P e=some 1){k0 k1:IntKind}(q u IN wU:Int):
  (Op.equalIn (d+2) t (.agg #[.int k0 q,.int k1 u]) (.agg #[.int k0 IN,.int k1 wU])).run P w=.ok (q==IN&&u==wU) w:=by
 have e4:(sizeOf e).run P w=.ok 1 w:=eC a6 w;have y:kW P e=some false:=by simp [kW,he,zT]
 have p:∀(xs:Array Value) (i:Nat) (v:Value),xs[i]? =some v→(part e xs i).run P w=.ok v w:=fun xs i v h=>by simp [part,ja y,h]
 obtain⟨fL,cS⟩:∃fL,fL=d+1:=⟨_,rfl⟩;have r:∀(k0:IntKind) (a b:Int),(Op.equalIn fL e (.int k0 a) (.int k0 b)).run P w=.ok (a==b) w:=fun k0 a b=>by rw[cS];exact run_equalIn_int w d e k0 k a b he
 rw[show d+2=fL+1 by omega];simp only[Op.equalIn,Sem.run_bind,run_underlying eh,Result.andThen_ok,e4];simp only[Std.Legacy.Range.forIn_eq_forIn_range',Std.Legacy.Range.size,List.range',Nat.sub_zero,Nat.add_sub_cancel,Nat.div_one,List.forIn_cons,List.forIn_nil,Sem.run_bind,Nat.mul_one,bg,Nat.reduceAdd,Nat.reduceSub,Nat.reduceDiv];rw[p _ 0 (.int k0 q) rfl];simp only[Result.andThen_ok];rw[p _ 0 (.int k0 IN) rfl];simp only[Result.andThen_ok];rw[r];cases eZ:q==IN with
 |false=>simp
 |true=>simp only[Result.andThen_ok,gK,bW,↓reduceIte,Sem.run_pure,Sem.run_bind];rw[p _ 1 (.int k1 u) rfl];simp only[Result.andThen_ok];rw[p _ 1 (.int k1 wU) rfl];simp only[Result.andThen_ok];rw[r];cases au:u==wU<;> simp
section
variable{P:Program}{ty:TypeId}{ρ:Operand→Value}{κ:bi}{s:ag}{w:World}
theorem yq{T:kO}(eR:T.pw P)(a6:c3 κ s w){k0 k1:IntKind}{b neg:Bool}{v u:af}{t yt:TypeId}{x y:Operand}{e:TypeId}{k:IntKind}{op:BinOp}(I:op=if neg then .neq else .eql)(eh:P.underlying t=some (.array 2 e))(he:T.eqs t=true)(hu:P.underlying e=some (.int k))(hC:ff P e=some 1)
  (a8:dF κ (s.aa+1) (v.ap s.aa) (ρ x))(eT:dF κ (s.aa+1) (u.ap s.aa) (ρ y))(h:lB (.agg [.int k0,.int k1]) v u=some b):dQ P (.binOp op t x y yt) ty ρ κ s w (.bool (bif neg then !b else b)) s:=by
 obtain⟨au,az⟩:=eR.eqs t he;rw[←uJ (d:=s.aa)] at h;generalize K:v.ap s.aa=fG at *;generalize L:u.ap s.aa=M at *;simp only[lB] at h;split at h
 ·rename_i cs ib;cases A:e7 [.int k0,.int k1] cs&&e7 [.int k0,.int k1] ib with
  |false=>rw[A] at h;cases h
  |true=>
   rw[A] at h;rw[bn] at A;have H:∀cs,e7 [.int k0,.int k1] cs=true→∃q r,cs=[.int k0 q,.int k1 r]:=fun cs h=>by
    match cs with
    |[]=>simp [e7] at h
    |[c]=>cases c<;> simp [e7] at h
    |c::nS::l=>
     cases c<;> simp [e7] at h;cases nS<;> simp [e7] at h;obtain⟨rfl,rfl,b3⟩:=h;cases l with
     |nil=>exact⟨_,_,rfl⟩
     |cons _ _=>simp [e7] at b3
   obtain⟨q,r,rfl⟩:=H cs A.1;obtain⟨IN,wU,rfl⟩:=H ib A.2;obtain⟨xs,ex,f0⟩:=a8.my;obtain⟨N,F,J⟩:=eT.my;have two:∀(q r:Int) (xs:List Value),er κ (s.aa+1) [.int k0 q,.int k1 r] xs→xs=[.int k0 q,.int k1 r]:=fun q r xs h=>by
    match xs,h with
    |[hr,bN],h=>rw[(h.2 0 _ _ rfl rfl).eB,(h.2 1 _ _ rfl rfl).eB]
   rw[two _ _ _ f0] at ex;rw[two _ _ _ J] at F;simp only[iC,↓reduceIte,ew,Bool.and_true,b2,bj] at h;have run:=qY (P:=P) (w:=w) 9998 eh hu hC (k0:=k0) (k1:=k1) q r IN wU;have g:=fun op=>run_eqGuard_agg (P:=P) w op t x y #[.int k0 q,.int k1 r] #[.int k0 IN,.int k1 wU] az
   refine bF a6 _ (fun dst pos after guard=>?_) (.bool _);subst I;cases neg
   ·have B:=run_eql_struct (P:=P) w t #[.int k0 q,.int k1 r] #[.int k0 IN,.int k1 wU];rw[run] at B;simp only[execOp,bW,↓reduceIte,ex,F,Sem.run_bind,g,Result.andThen_ok,B,Sem.run_pure,cond_false,←h]
   ·have B:=run_neq_struct (P:=P) w t #[.int k0 q,.int k1 r] #[.int k0 IN,.int k1 wU];rw[run] at B;simp only[execOp,↓reduceIte,ex,F,Sem.run_bind,g,Result.andThen_ok,B,Sem.run_pure,b2,←h]
 ·cases h
end
theorem z4{κ:bi}{D d:Nat}{v:af}{x:Value}(bO:dF κ D (v.ap d) x):dF κ D ((nV v).ap d) x:=by
 unfold nV;split
 ·rename_i sz es a;cases aT:af.aY es with
  |false=>exact bO
  |true=>
   simp only[b2];simp only[af.ap] at bO ⊢;rcases bO.hG with⟨_,az,_⟩|⟨fT,cap,dw,rfl,cC,dp,h,dJ,u,q,r⟩
   ·simp [fi.ap] at az
   ·exact .bG _ _ _ _ _ dw trivial dp h dJ (.inl fun e he=>ej.1 aT e he) q r
 ·exact bO
theorem Dc(s:ag)(v:af):(yb s v).ap s.aa=v.ap s.aa:=by
 unfold yb;split
 ·rename_i d i o l c z;cases e:Nat.beq d s.aa with
  |false=>rfl
  |true=>have:=dk e;subst this;rfl
 ·rfl
section
variable{P:Program}{T:kO}(eR:T.pw P){ty:TypeId}{κ:bi}{s:ag}{w:World}(a6:c3 κ s w){E:Env}(bq:E.F=.not)(jT:mW P E){ao:Nat→af}{a:Act}(bZ:wB κ s ao a)(dX:km κ E.aw){k kp:af→ag→ah}{r:ah}(bB:r≠.fail)
include a6 bq bZ dX bB
theorem n3{v:Option af}(h:qC E s k v=r):∃fG,v=some fG∧k fG s=r:=by
 cases v with
 |none=>exact absurd h.symm bB
 |some fG=>simp only[qC,bq,aW.not] at h;exact⟨fG,rfl,h⟩
theorem Dd{o:BinOp}{x y:bC}{kH tM:Operand}{t yt:TypeId}(a8:cH x kH=true)(eT:cH y tM=true)(aT:qC E s k (an o (aq E.aw ao x) (aq E.aw ao y))=r):∃v s',k v s'=r∧oA P (.binOp o t kH tM yt) ty a.eval κ s w v s':=by
 obtain⟨v,bO,dl⟩:=n3 a6 bq bZ dX bB aT;refine⟨v,s,dl,.inl ?_⟩;have au:=bp bZ dX a8;have az:=bp bZ dX eT;generalize aq E.aw ao x=X at au bO;generalize aq E.aw ao y=Y at az bO;unfold an at bO;split at bO
 ·exact qR a6 au.eB az.eB (.inl rfl) bO
 ·exact qR a6 au.eB az.eB (.inr rfl) bO
 ·rename_i k1 h oR q _ _;split at bO
  ·rename_i e;subst e;exact uB a6 au.eB az.eB bO
  ·cases bO
 ·exact uC a6 au az bO
 ·cases bO
theorem IR{o:UnOp}{x:bC}{kH:Operand}{t:TypeId}(a8:cH x kH=true)(aT:qC E s k (kl o (aq E.aw ao x))=r):∃v s',k v s'=r∧oA P (.unOp o t kH) ty a.eval κ s w v s':=by
 obtain⟨v,bO,dl⟩:=n3 a6 bq bZ dX bB aT;refine⟨v,s,dl,.inl ?_⟩;have au:=bp bZ dX a8;generalize aq E.aw ao x=X at au bO;unfold kl at bO;split at bO
 ·simp only[bj] at bO;subst bO;exact wI a6 au.eB
 ·simp only[bj] at bO;subst bO;exact wJ a6 au.eB
 ·simp only[bj] at bO;subst bO;exact wK a6 au.gY
 ·cases bO
theorem sU{f:af→af→Option af}{g:Value→Value→Sem Value}(q:∀x y z X Y,f x y=some z→dF κ (s.aa+1) x X→dF κ (s.aa+1) y Y→∃Z,(g X Y).run P w=.ok Z w∧dF κ (s.aa+1) z Z){xs:List bC}{e:List Operand}(f0:dC xs e=true)
  {o:Op}(u:∀x rest,e.map a.eval=x::rest→∀dst pos after guard,execOp a.eval ⟨dst,o,ty,pos,after,guard⟩=(do pure (.value (←rest.foldlM g x)):Sem Next))
  (aT:lc E s k f (xs.map fun x=>(aq E.aw ao x).ap s.aa)=r):∃v s',k v s'=r∧oA P o ty a.eval κ s w v s':=by
 have bO:=iw bZ dX xs e f0;cases kM:xs.map (fun x=>(aq E.aw ao x).ap s.aa) with
 |nil=>rw[kM] at aT;exact absurd aT.symm bB
 |cons x l=>
  rw[kM] at aT bO;cases h:e.map a.eval with
  |nil=>rw[h] at bO;exact absurd bO.1 (by simp)
  |cons Y L=>rw[h] at bO;simp only[lc] at aT;obtain⟨v,au,dl⟩:=n3 a6 bq bZ dX bB aT;obtain⟨V,az,b3⟩:=xz f g q l L x v Y au (bO.2 0 x Y rfl rfl) ⟨by have:=bO.1;simpa using this,fun j c y a3 eT=>bO.2 (j+1) c y (by simpa using a3) (by simpa using eT)⟩;refine⟨v,s,dl,.inl (bF a6 V (fun dst pos after guard=>?_) (by rw[b3.ld];exact b3))⟩;rw[u Y L h];simp [az]
theorem uR{o:Op}{ρ:Operand→Value}{v:af}{s':ag}(dl:k v s'=r)(h:dQ P o ty ρ κ s w v s'):∃v s',k v s'=r∧oA P o ty ρ κ s w v s':=⟨v,s',dl,.inl h⟩
theorem mO{o:Op}{ρ:Operand→Value}(h:∃v,k v s=r∧dQ P o ty ρ κ s w v s):∃v s',k v s'=r∧oA P o ty ρ κ s w v s':=by obtain⟨v,au,az⟩:=h;exact⟨v,s,au,.inl az⟩
theorem tF{o:Op}{ρ:Operand→Value}(h:∃v s',k v s'=r∧dQ P o ty ρ κ s w v s'):∃v s',k v s'=r∧oA P o ty ρ κ s w v s':=by obtain⟨v,s',au,az⟩:=h;exact⟨v,s',au,.inl az⟩
include jT in
theorem lV{f:Nat}{args:List af}{xs:List Value}{o:Op}{ρ:Operand→Value}(a8:er κ (s.aa+1) args xs)(e:∀dst pos after guard,execOp ρ ⟨dst,o,ty,pos,after,guard⟩=callFunc f xs.toArray)(aT:eA E s k kp f args=r):∃v s',k v s'=r∧oA P o ty ρ κ s w v s':=by
 unfold eA at aT;cases a3:E.call f args s with
 |fail=>rw[a3] at aT;exact absurd aT.symm bB
 |panic v s'=>exact absurd a3 (jT.nB _ _ _ _ _)
 |ok v s'=>rw[a3] at aT;obtain⟨_,h⟩:=cY aT bB;exact⟨v,s',h,wZ jT a6 dX a3 a8 e⟩
include jT in
theorem pU{f:Nat}{args:List af}{xs:List Value}{o:Op}{ρ:Operand→Value}(a8:er κ (s.aa+1) args xs)(h:∀dst pos after guard,execOp ρ ⟨dst,o,ty,pos,after,guard⟩=callFunc f xs.toArray)(aT:hF E s k f args=r):∃v s',k v s'=r∧oA P o ty ρ κ s w v s':=by
 unfold hF at aT;obtain⟨q,e⟩:=cY aT bB;cases a3:E.call f args {own:=[],up:=[],ro:=[]} with
 |fail=>rw[a3] at e;exact absurd e.symm bB
 |panic v s'=>exact absurd a3 (jT.nB _ _ _ _ _)
 |ok v s'=>rw[a3] at e;obtain⟨u,y⟩:=cY e bB;exact⟨v,s,y,uP jT a6 dX a3 u a8 q h⟩
include eR jT in
theorem z5{ab:gg}{op:Op}(h:eH T ab op=true)(aT:aJ E ao s k kp ab=r):∃v s',k v s'=r∧oA P op ty a.eval κ s w v s':=by
 have h9:E.F=.not:=bq;cases ab with
 |move x=>
  simp only[aJ,bq,aW.not] at aT;simp only[eH] at h;split at h
  ·exact uR a6 bq bZ dX bB aT (sM a6 (bp bZ dX h))
  ·exact uR a6 bq bZ dX bB aT (pN a6 (bp bZ dX h))
  ·cases h
 |nb x=>
  simp only[aJ,bq,aW.not] at aT;simp only[eH] at h;split at h
  ·exact uR a6 bq bZ dX bB aT (sM a6 (z4 (bp bZ dX h)))
  ·exact uR a6 bq bZ dX bB aT (pN a6 (z4 (bp bZ dX h)))
  ·cases h
 |oK x=>
  simp only[aJ] at aT;simp only[eH] at h;split at h
  ·exact tF a6 bq bZ dX bB (qV a6 bq bB (fun _ _ _ _=>by simp [execOp]) (bp bZ dX h) aT)
  ·exact tF a6 bq bZ dX bB (qV a6 bq bB (fun _ _ _ _=>by simp [execOp]) (bp bZ dX h) aT)
  ·cases h
 |pick c x y=>
  simp only[aJ] at aT;simp only[eH] at h;split at h
  ·simp only[bn] at h;have a3:=bp bZ dX h.1.1;generalize aq E.aw ao c=X at a3 aT;cases X<;> simp only[nf,bq,aW.not] at aT<;> try exact absurd aT.symm bB
   exact uR a6 bq bZ dX bB aT (zS a6 a3.gY (bp bZ dX h.1.2) (bp bZ dX h.2))
  ·cases h
 |alloc z=>
  simp only[aJ,bq,aW.not] at aT;simp only[eH] at h;split at h
  ·exact uR a6 bq bZ dX bB aT (yl a6 (eR.zero h))
  ·cases h
 |e1 x=>
  simp only[aJ,bq,aW.not] at aT;simp only[eH] at h;obtain⟨H,K⟩:=cY aT bB;split at h
  ·exact uR a6 bq bZ dX bB K (ym a6 (bp bZ dX h) H)
  ·cases h
 |jX x=>
  simp only[aJ,bq,aW.not] at aT;simp only[eH] at h;obtain⟨H,K⟩:=cY aT bB;split at h
  ·exact uR a6 bq bZ dX bB K (wR a6 (bp bZ dX h) H)
  ·cases h
 |build z ec=>
  simp only[aJ] at aT;simp only[eH] at h;obtain⟨v,au,dl⟩:=n3 a6 bq bZ dX bB aT;cases Y:fk E.aw s.aa ao z ec with
  |none=>rw[Y] at au;cases au
  |some cs=>
   rw[Y] at au;simp only[ew,bj] at au;subst au;split at h
   ·rename_i t u;split at h
    ·rename_i jH eh;split at h
     ·rename_i pl ah;simp only[bn] at h
      have:=pF (ty:=ty) a6 bZ dX (eR.eb _ _ eh) (eR.zero h.1) (pl:=pl.toArray) (by simpa using oz eR _ _ ah) h.2 Y;exact uR a6 bq bZ dX bB dl (by simpa using this)
     ·cases h
    ·rename_i n el eh;split at h
     ·rename_i sz e4;simp only[bn] at h
      have:=qi (ty:=ty) a6 bZ dX (eR.eb _ _ eh) (eR.size e4) (eR.zero h.1) h.2 Y;exact uR a6 bq bZ dX bB dl (by simpa using this)
     ·cases h
    ·cases h
   ·cases h
 |buildSlice sz ec=>
  simp only[aJ,hS,bq,aW.not] at aT;simp only[eH] at h;obtain⟨H,K⟩:=cY aT bB;split at h
  ·rename_i t len u;split at h
   ·rename_i el eh;simp only[bn,beq_iff_eq] at h;obtain⟨⟨⟨⟨⟨au,az⟩,b3⟩,dJ⟩,B⟩,A⟩:=h;obtain⟨J,e,dg⟩:=j2 0 ec u.toList A;have hlen:ec.length=J.length:=by
     have:∀(ec:List bC) (u:List Operand),dC ec u=true→ec.length=u.length:=by
      intro ec
      induction ec with
      |nil=>intro u h;cases u<;> simp [dC] at h ⊢
      |cons p ec U=>intro u h;cases u with
       |nil=>simp [dC] at h
       |cons q u=>simp only[dC,bn] at h;simp [U u h.2]
     exact this ec J dg
    have bK:len=J.length:=by rw[←hlen];exact dk dJ
    simp only[bn,List.all_eq_true,Nat.beq_eq_true_eq] at H;have ag:=d0 B
    have:=qS (ty:=ty) a6 bZ dX (eR.eb _ _ eh) (eR.size au) (eR.zero az) (dk b3) (by rw[←bK];omega) dg H.1 (fun e he=>⟨(H.2 e he).1,dk (H.2 e he).2⟩);rw[←e] at this;rw[bK];exact uR a6 bq bZ dX bB K (by simpa using this)
   ·cases h
  ·cases h
 |load n x=>
  simp only[aJ] at aT;simp only[eH] at h;split at h
  ·simp only[bn] at h;exact mO a6 bq bZ dX bB (zV a6 bq bB (eR.load h.1) (bp bZ dX h.2) aT)
  ·cases h
 |store n x v=>
  simp only[aJ] at aT;simp only[eH] at h;split at h
  ·simp only[bn,beq_iff_eq] at h;exact tF a6 bq bZ dX bB (qT a6 bq bB (eR.size h.1.1) (bp bZ dX h.1.2) (bp bZ dX h.2) aT)
  ·cases h
 |la m y n x v=>
  simp only[aJ,lk] at aT;simp only[eH] at h;split at h
  ·simp only[bn,beq_iff_eq] at h;obtain⟨v,s',dU,I⟩:=tF a6 bq bZ dX bB (qT a6 bq bB (eR.size h.1.1) (bp bZ dX h.1.2) (bp bZ dX h.2) aT);exact⟨v,s',(cY dU bB).2,I⟩
  ·cases h
 |nilCheck x=>
  simp only[aJ] at aT;simp only[eH] at h;split at h
  ·have a8:=bp bZ dX h;generalize aq E.aw ao x=X at a8 aT;unfold i6 at aT;split at aT
   ·simp only[bq,aW.not] at aT;exact uR a6 bq bZ dX bB aT (tD a6 a8 (by assumption))
   ·exact absurd aT.symm bB
  ·cases h
 |bin o x y=>
  simp only[aJ] at aT;simp only[eH] at h;split at h
  ·simp only[bn,xy,b1] at h;obtain⟨⟨rfl,az⟩,b3⟩:=h;exact Dd a6 bq bZ dX bB az b3 aT
  ·cases h
 |eq neg e x y=>
  simp only[aJ] at aT;simp only[eH] at h;obtain⟨v,au,dl⟩:=n3 a6 bq bZ dX bB aT;split at h
  ·split at h
   ·rename_i d eh;simp only[bn,xy,b1] at h;obtain⟨⟨⟨dU,az⟩,b3⟩,dJ⟩:=h;cases he:lB e (aq E.aw ao x) (aq E.aw ao y) with
    |none=>rw[he] at au;cases au
    |some b=>
     rw[he] at au;simp only[ew,bj] at au;subst au;rcases(Bool.or_eq_true _ _).mp az with az|az
     ·exact uR a6 bq bZ dX bB dl (IM a6 dU (eR.eb _ _ eh) az (bp bZ dX b3) (bp bZ dX dJ) he)
     ·unfold Wi at az;split at az
      ·simp only[bn] at az;exact uR a6 bq bZ dX bB dl (yp eR a6 dU (eR.eb _ _ eh) az.1 az.2 (bp bZ dX b3) (bp bZ dX dJ) he)
      ·simp only[bn,beq_iff_eq] at az;obtain⟨⟨B,A⟩,L⟩:=az;split at A
       ·rename_i hu;exact uR a6 bq bZ dX bB dl (yq eR a6 dU (eR.eb _ _ eh) B (eR.eb _ _ hu) (eR.size L) (bp bZ dX b3) (bp bZ dX dJ) he)
       ·cases A
      ·cases az
   ·cases h
  ·cases h
 |un o x=>
  simp only[aJ] at aT;simp only[eH] at h;split at h
  ·simp only[bn,b1] at h;obtain⟨rfl,az⟩:=h;exact IR a6 bq bZ dX bB az aT
  ·cases h
 |lj d x=>
  simp only[aJ] at aT;simp only[eH] at h;split at h
  ·split at h
   ·rename_i M N;simp only[bn,b1] at h;obtain⟨rfl,az⟩:=h;have a8:=bp bZ dX az;generalize aq E.aw ao x=X at a8 aT;cases X<;> simp only[kd,bq,aW.not] at aT<;> try exact absurd aT.symm bB
    exact uR a6 bq bZ dX bB aT (uD a6 (eR.eb _ _ M) (eR.eb _ _ N) a8.eB)
   ·cases h
  ·cases h
 |nU x=>
  simp only[aJ] at aT;simp only[eH] at h;split at h
  ·split at h
   ·rename_i M N;have a8:=bp bZ dX h;generalize aq E.aw ao x=X at a8 aT;cases X<;> simp only[ml] at aT<;> try exact absurd aT.symm bB
    exact uR a6 bq bZ dX bB aT (wL a6 (eR.eb _ _ M) (eR.eb _ _ N) a8)
   ·cases h
  ·cases h
 |gN x=>
  simp only[aJ] at aT;simp only[eH] at h;split at h
  ·split at h
   ·rename_i M N;split at h
    ·rename_i iQ;exact mO a6 bq bZ dX bB (qX a6 bq bB (eR.eb _ _ M) (eR.eb _ _ iQ) (eR.eb _ _ N) (bp bZ dX h) aT)
    ·cases h
   ·cases h
  ·cases h
 |iY x=>
  simp only[aJ] at aT;simp only[eH] at h;split at h
  ·split at h
   ·rename_i M N;split at h
    ·rename_i iQ;exact mO a6 bq bZ dX bB (qW a6 bq bB (eR.eb _ _ M) (eR.eb _ _ N) (eR.eb _ _ iQ) (bp bZ dX h) aT)
    ·cases h
   ·cases h
  ·cases h
 |jI t x=>
  simp only[aJ,bq,aW.not] at aT;simp only[eH] at h;split at h
  ·split at h
   ·cases h
   ·rename_i d cS eh;simp only[bn] at h
    have:=dk h.1;subst this;exact uR a6 bq bZ dX bB aT (uE a6 (eR.eb _ _ eh) (by cases d<;> first|rfl |exact absurd rfl (cS _)) (bp bZ dX h.2))
   ·cases h
  ·cases h
 |ko f dI=>
  simp only[aJ,bq,aW.not] at aT;simp only[eH] at h;split at h
  ·rename_i wF first al
   simp only[bn] at h;have dU:=dk h.1.1;have I:first= #[]:=Array.eq_empty_of_size_eq_zero (dk h.1.2)
   subst dU;subst I
   have:=wS (P:=P) (ty:=ty) a6 (f:=f) bZ dX h.2;exact uR a6 bq bZ dX bB aT (by simpa using this)
  ·cases h
 |makeSlice z bytes l c=>
  simp only[aJ] at aT;simp only[eH] at h;split at h
  ·split at h
   ·rename_i eh;simp only[bn,beq_iff_eq] at h;obtain⟨⟨⟨⟨⟨au,az⟩,b3⟩,dJ⟩,B⟩,A⟩:=h;exact tF a6 bq bZ dX bB (st a6 bq bB (eR.eb _ _ eh) (eR.zero au) (eR.size az) (eR.bytes b3) (by simpa [Nat.blt_eq] using dJ) (bp bZ dX B) (bp bZ dX A) aT)
   ·cases h
  ·cases h
 |kq x gn bX=>
  simp only[aJ] at aT;simp only[eH] at h;split at h
  ·split at h
   ·rename_i eh;simp only[bn] at h;exact mO a6 bq bZ dX bB (wP a6 bq bB bZ dX (eR.eb _ _ eh) h.1.1 h.1.2 h.2 aT)
   ·cases h
  ·cases h
 |slice sz x gn bX iJ=>
  simp only[aJ] at aT;simp only[eH] at h;split at h
  ·split at h
   ·rename_i eh;simp only[bn,beq_iff_eq] at h;obtain⟨⟨⟨⟨⟨au,az⟩,b3⟩,dJ⟩,B⟩,A⟩:=h;exact mO a6 bq bZ dX bB (yj a6 bq bB bZ dX (eR.eb _ _ eh) (eR.size au) az b3 dJ B (by intro hm;rw[hm] at A;simpa using A) aT)
   ·cases h
  ·cases h
 |fieldAddr off x=>
  simp only[aJ] at aT;simp only[eH] at h;split at h
  ·split at h
   ·rename_i eh;split at h
    ·rename_i ac;split at h
     ·rename_i hC;simp only[bn] at h;exact mO a6 bq bZ dX bB (sr a6 bq bB (eR.eb _ _ eh) ac (dk h.1.1) (eR.size hC) (by have:=h.1.2;rw[Nat.blt_eq] at this;omega) (bp bZ dX h.2) aT)
     ·cases h
    ·cases h
   ·cases h
  ·cases h
 |field off n x=>
  simp only[aJ] at aT;simp only[eH] at h;split at h
  ·split at h
   ·rename_i eh;split at h
    ·rename_i ac;simp only[bn] at h;exact mO a6 bq bZ dX bB (yh a6 bq bB (eR.eb _ _ eh) ac (dk h.1.1) (eR.load h.1.2) (bp bZ dX h.2) aT)
    ·cases h
   ·cases h
  ·cases h
 |iZ sz x i=>
  simp only[aJ] at aT;simp only[eH] at h;split at h
  ·split at h
   ·rename_i eh;simp only[bn,beq_iff_eq] at h;exact mO a6 bq bZ dX bB (yi a6 bq bB (eR.eb _ _ eh) (eR.size h.1.1) (bp bZ dX h.1.2) (bp bZ dX h.2) aT)
   ·cases h
  ·cases h
 |e6 sz len x i=>
  simp only[aJ] at aT;simp only[eH] at h;split at h
  ·split at h
   ·rename_i eh;simp only[bn,beq_iff_eq] at h
    have:=dk h.1.1.1;subst this;exact mO a6 bq bZ dX bB (wO a6 bq bB (eR.eb _ _ eh) (eR.size h.1.1.2) (bp bZ dX h.1.2) (bp bZ dX h.2) aT)
   ·cases h
  ·cases h
 |mP x i=>
  simp only[aJ] at aT;simp only[eH] at h;split at h
  ·split at h
   ·rename_i eh;simp only[bn] at h;exact mO a6 bq bZ dX bB (wN a6 bq bB (eR.eb _ _ eh) (bp bZ dX h.1) (bp bZ dX h.2) aT)
   ·cases h
  ·cases h
 |mQ sz len n x i=>
  simp only[aJ] at aT;simp only[eH] at h;split at h
  ·split at h
   ·rename_i eh;simp only[bn,beq_iff_eq] at h
    have:=dk h.1.1.1.1;subst this;exact mO a6 bq bZ dX bB (wM a6 bq bB (eR.eb _ _ eh) (eR.size h.1.1.1.2) (eR.load h.1.1.2) (bp bZ dX h.1.2) (bp bZ dX h.2) aT)
   ·cases h
  ·cases h
 |extract x i=>
  simp only[aJ] at aT;simp only[eH] at h;split at h
  ·simp only[bn] at h
   have:=dk h.1;subst this;have a8:=bp bZ dX h.2;generalize aq E.aw ao x=X at a8 aT;cases X<;> simp only[kc] at aT<;> try exact absurd aT.symm bB
   rename_i vs;obtain⟨v,au,dl⟩:=n3 a6 bq bZ dX bB aT;obtain⟨xs,ex,bK,bO⟩:=dF.uz (x:=a.eval _) a8;have bX:=(ey.1 au).1;exact uR a6 bq bZ dX bB dl (uF a6 a8 au ((bO i v _ au (eP (by omega:i<xs.length))).ld _))
  ·cases h
 |call f xs=>
  simp only[aJ,bq,aW.not] at aT;simp only[eH] at h;split at h
  ·rename_i c;split at h
   ·rename_i wF a3;simp only[bn] at h
    have:=dk h.1;subst this;exact lV a6 bq jT bZ dX bB (iw bZ dX _ _ h.2) (fun dst pos after guard=>by rw[kY ⟨_,a3,rfl⟩];simp) aT
   ·cases h
  ·cases h
 |hA f xs=>
  simp only[aJ,bq,aW.not] at aT;simp only[eH] at h;split at h
  ·rename_i c;split at h
   ·rename_i wF a3;simp only[bn] at h
    have:=dk h.1;subst this;exact pU a6 bq jT bZ dX bB (iw bZ dX _ _ h.2) (fun dst pos after guard=>by rw[kY ⟨_,a3,rfl⟩];simp) aT
   ·cases h
  ·cases h
 |eA g xs=>
  simp only[aJ] at aT;simp only[eH] at h;split at h
  ·rename_i c;split at h
   ·rename_i g' a3;simp only[bn] at h;have a8:=bp bZ dX h.1;generalize aq E.aw ao g=X at a8 aT;cases X<;> simp only[lb,bq,aW.not] at aT<;> try exact absurd aT.symm bB
    obtain⟨J,V,bO⟩:=dF.tP (x:=a.eval _) a8;exact lV a6 bq jT bZ dX bB ((iw bZ dX _ _ h.2).append bO) (fun dst pos after guard=>by rw[kY ⟨_,a3,V⟩]) aT
   ·cases h
  ·cases h
 |lM g xs=>
  simp only[aJ] at aT;simp only[eH] at h;split at h
  ·rename_i c;split at h
   ·rename_i g' a3;simp only[bn] at h;have a8:=bp bZ dX h.1;generalize aq E.aw ao g=X at a8 aT;cases X<;> simp only[jQ,bq,aW.not] at aT<;> try exact absurd aT.symm bB
    obtain⟨J,V,bO⟩:=dF.tP (x:=a.eval _) a8;exact pU a6 bq jT bZ dX bB ((iw bZ dX _ _ h.2).append bO) (fun dst pos after guard=>by rw[kY ⟨_,a3,V⟩]) aT
   ·cases h
  ·cases h
 |len b x=>
  simp only[aJ] at aT;simp only[eH] at h;split at h
  ·split at h
   ·rename_i eh;simp only[bn] at h;exact mO a6 bq bZ dX bB (uG a6 bq bB (eR.eb _ _ eh) (.inl ⟨h.1,rfl⟩) (bp bZ dX h.2) aT)
   ·rename_i el eh;simp only[bn,Bool.not_eq_true'] at h;exact mO a6 bq bZ dX bB (uG a6 bq bB (eR.eb _ _ eh) (.inr ⟨h.1,el,rfl⟩) (bp bZ dX h.2) aT)
   ·cases h
  ·cases h
 |append sz bytes at_ x y=>
  simp only[aJ,gX] at aT;simp only[eH] at h;split at aT
  rotate_left
  ·exact absurd aT.symm bB
  split at h
  ·rename_i kH tM t t2;split at h
   ·rename_i el eh;split at h
    ·rename_i n b z bX;simp only[bn] at h;obtain⟨⟨⟨⟨⟨⟨⟨au,az⟩,b3⟩,dJ⟩,B⟩,A⟩,L⟩,O⟩:=h;have dU:=dk az;have I:=dk b3;subst dU;subst I;refine tF a6 bq bZ dX bB (pR a6 bq bB (z:=z) ⟨eR.eb _ _ eh,?_,eR.info _ _ _ _ bX,dk dJ,by simpa [Nat.blt_eq] using B,d0 A⟩ (bp bZ dX L) (bp bZ dX O) aT);split at au
     ·rename_i lU;exact .inl ⟨_,eR.eb _ _ lU⟩
     ·rename_i lU;exact .inr (eR.eb _ _ lU)
     ·cases au
    ·cases h
   ·cases h
  ·cases h
 |jJ sz bytes at_ x y=>
  simp only[aJ,kR] at aT;split at aT
  rotate_left
  ·exact absurd aT.symm bB
  rename_i ai;rw[←ai] at aT;simp only[gX] at aT;simp only[eH] at h;split at aT
  rotate_left
  ·exact absurd aT.symm bB
  split at h
  ·rename_i kH tM t t2;split at h
   ·rename_i el eh;split at h
    ·rename_i n b z bX;simp only[bn] at h;obtain⟨⟨⟨⟨⟨⟨⟨au,az⟩,b3⟩,dJ⟩,B⟩,A⟩,L⟩,O⟩:=h;have dU:=dk az;have I:=dk b3;subst dU;subst I;refine tF a6 bq bZ dX bB (pR a6 bq bB (z:=z) ⟨eR.eb _ _ eh,?_,eR.info _ _ _ _ bX,dk dJ,by simpa [Nat.blt_eq] using B,d0 A⟩ (bp bZ dX L) (bp bZ dX O) aT);split at au
     ·rename_i lU;exact .inl ⟨_,eR.eb _ _ lU⟩
     ·rename_i lU;exact .inr (eR.eb _ _ lU)
     ·cases au
    ·cases h
   ·cases h
  ·cases h
 |jK sz bytes at_ x y=>
  simp only[aJ,mm] at aT;simp only[eH] at h;split at aT
  rotate_left
  ·exact absurd aT.symm bB
  split at h
  ·rename_i kH tM t t2;split at h
   ·rename_i el eh;split at h
    ·rename_i n b z bX;simp only[bn] at h;obtain⟨⟨⟨⟨⟨⟨⟨au,az⟩,b3⟩,dJ⟩,B⟩,A⟩,L⟩,O⟩:=h;have dU:=dk az;have I:=dk b3;subst dU;subst I;refine tF a6 bq bZ dX bB (uM a6 bq bB (z:=z) ⟨eR.eb _ _ eh,?_,eR.info _ _ _ _ bX,dk dJ,by simpa [Nat.blt_eq] using B,d0 A⟩ (bp bZ dX L) (bp bZ dX O) aT);split at au
     ·rename_i lU;exact .inl ⟨_,eR.eb _ _ lU⟩
     ·rename_i lU;exact .inr (eR.eb _ _ lU)
     ·cases au
    ·cases h
   ·cases h
  ·cases h
 |jL sz bytes x y=>
  simp only[aJ] at aT;simp only[eH] at h;split at h
  ·rename_i kH tM t t2;split at h
   ·rename_i el eh;split at h
    ·rename_i n b z bX;simp only[bn] at h;obtain⟨⟨⟨⟨⟨⟨⟨au,az⟩,b3⟩,dJ⟩,B⟩,A⟩,L⟩,O⟩:=h;have dU:=dk az;have I:=dk b3;subst dU;subst I;refine tF a6 bq bZ dX bB (uQ a6 bq bB (z:=z) ⟨eR.eb _ _ eh,?_,eR.info _ _ _ _ bX,dk dJ,by simpa [Nat.blt_eq] using B,d0 A⟩ (by rw[Dc];exact bp bZ dX L) (bp bZ dX O) aT);split at au
     ·rename_i lU;exact .inl ⟨_,eR.eb _ _ lU⟩
     ·rename_i lU;exact .inr (eR.eb _ _ lU)
     ·cases au
    ·cases h
   ·cases h
  ·cases h
 |gB sz ec=>
  simp only[aJ,jO,bq,aW.not] at aT;simp only[eH] at h;obtain⟨H,K⟩:=cY aT bB;split at h
  ·rename_i t len u;split at h
   ·rename_i el eh;simp only[bn,beq_iff_eq] at h;obtain⟨⟨⟨⟨⟨au,az⟩,b3⟩,dJ⟩,B⟩,A⟩:=h;obtain⟨J,e,dg⟩:=j2 0 ec u.toList A;have hlen:ec.length=J.length:=by
     have:∀(ec:List bC) (u:List Operand),dC ec u=true→ec.length=u.length:=by
      intro ec
      induction ec with
      |nil=>intro u h;cases u<;> simp [dC] at h ⊢
      |cons p ec U=>intro u h;cases u with
       |nil=>simp [dC] at h
       |cons q u=>simp only[dC,bn] at h;simp [U u h.2]
     exact this ec J dg
    have bK:len=J.length:=by rw[←hlen];exact dk dJ
    simp only[bn,List.all_eq_true,Nat.beq_eq_true_eq] at H;have ag:=d0 B
    have:=qj (ty:=ty) a6 bZ dX (eR.eb _ _ eh) (eR.size au) (eR.zero az) (dk b3) (by rw[←bK];omega) dg rfl H.1 (fun e he=>⟨(H.2 e he).1,dk (H.2 e he).2⟩);rw[←e] at this;rw[bK];exact uR a6 bq bZ dX bB K (by simpa using this)
   ·cases h
  ·cases h
 |gC sz ec=>
  simp only[aJ,jP,bq,aW.not] at aT;simp only[eH] at h;obtain⟨H,K⟩:=cY aT bB;split at h
  ·rename_i t len u;split at h
   ·rename_i el eh;simp only[bn,beq_iff_eq] at h;obtain⟨⟨⟨⟨⟨au,az⟩,b3⟩,dJ⟩,B⟩,A⟩:=h;obtain⟨J,e,dg⟩:=j2 0 ec u.toList A;have hlen:ec.length=J.length:=by
     have:∀(ec:List bC) (u:List Operand),dC ec u=true→ec.length=u.length:=by
      intro ec
      induction ec with
      |nil=>intro u h;cases u<;> simp [dC] at h ⊢
      |cons p ec U=>intro u h;cases u with
       |nil=>simp [dC] at h
       |cons q u=>simp only[dC,bn] at h;simp [U u h.2]
     exact this ec J dg
    have bK:len=J.length:=by rw[←hlen];exact dk dJ
    simp only[bn,List.all_eq_true,Nat.beq_eq_true_eq] at H;have ag:=d0 B
    have:=qk (ty:=ty) a6 bZ dX (eR.eb _ _ eh) (eR.size au) (eR.zero az) (dk b3) (by rw[←bK];omega) dg rfl (fun e he=>⟨(H e he).1,dk (H e he).2⟩);rw[←e] at this;rw[bK];exact uR a6 bq bZ dX bB K (by simpa using this)
   ·cases h
  ·cases h
 |iS sz len x gn bX iJ=>
  simp only[aJ] at aT;simp only[eH] at h;split at h
  ·split at h
   ·rename_i eh;simp only[bn,beq_iff_eq] at h;obtain⟨⟨⟨⟨⟨⟨eZ,au⟩,az⟩,b3⟩,dJ⟩,B⟩,A⟩:=h
    have:=dk eZ;subst this;exact mO a6 bq bZ dX bB (wQ a6 bq bB bZ dX (eR.eb _ _ eh) (eR.size au) az b3 dJ B (by intro hm;rw[hm] at A;simpa using A) aT)
   ·cases h
  ·cases h
 |copy sz x y=>
  simp only[aJ] at aT;simp only[eH] at h;split at h
  ·rename_i kH tM t t2;split at h
   ·rename_i el eh;simp only[bn,beq_iff_eq] at h;have a8:=bp bZ dX h.1.2;generalize aq E.aw ao x=X at a8 aT;cases X<;> simp only[lQ] at aT<;> try exact absurd aT.symm bB
    rename_i Pw off len cap q;obtain⟨gh,K⟩:=cY aT bB
    have:=dk gh;subst this;exact tF a6 bq bZ dX bB (z0 a6 bq bB (eR.eb _ _ eh) (eR.size h.1.1) (fun fT am an ap qc e=>by cases e;rfl) a8 (bp bZ dX h.2) K)
   ·cases h
  ·cases h
 |min xs=>
  simp only[aJ] at aT;simp only[eH] at h;split at h
  ·rename_i c;split at h
   ·rename_i a3;refine sU a6 bq bZ dX bB (g:=Builtin.min2) IP h (fun x rest ad dst pos after guard=>?_) aT;have ae:(c.args.map a.eval).toList=x::rest:=by rw[Array.toList_map];exact ad
    simp only[execOp,resolve,a3,pure_bind,invoke,builtin,Builtin.min_,ae]
   ·cases h
  ·cases h
 |max xs=>
  simp only[aJ] at aT;simp only[eH] at h;split at h
  ·rename_i c;split at h
   ·rename_i a3;refine sU a6 bq bZ dX bB (g:=Builtin.max2) IQ h (fun x rest ad dst pos after guard=>?_) aT;have ae:(c.args.map a.eval).toList=x::rest:=by rw[Array.toList_map];exact ad
    simp only[execOp,resolve,a3,pure_bind,invoke,builtin,Builtin.max_,ae]
   ·cases h
  ·cases h
 |makeMap at_=>
  simp only[aJ] at aT;simp only[eH] at h;split at h
  ·exact tF a6 bq bZ dX bB (uO a6 bq bB aT)
  ·cases h
 |mR kJ m x v=>
  simp only[aJ] at aT;simp only[eH] at h;have key:∀{t:TypeId} {jt kH fG:Operand} {o:Op},(match T.eb t with
   |some (.map af _)=>
    match T.eb af with
    |some d=>kN kJ d&&cH m jt&&cH x kH&&cH v fG
    |none=>false
   |_=>false)=true→(∀dst pos after guard,execOp a.eval ⟨dst,o,ty,pos,after,guard⟩=(do Instr.mapUpdate t (a.eval jt) (a.eval kH) (a.eval fG);pure .skip:Sem Next))→∃v s',k v s'=r∧oA P o ty a.eval κ s w v s':=by
   intro t jt kH fG o h aj;split at h
   ·rename_i af ak eh;split at h
    ·rename_i d cS;simp only[bn] at h;exact tF a6 bq bZ dX bB (wW a6 bq bB (eR.eb _ _ eh) (eR.eb _ _ cS) h.1.1.1 (bp bZ dX h.1.1.2) (bp bZ dX h.1.2) (bp bZ dX h.2) aj aT)
    ·cases h
   ·cases h
  split at h
  ·exact key h (fun _ _ _ _=>rfl)
  ·exact key h (fun _ _ _ _=>rfl)
  ·cases h
 |lookup kJ z ok m x=>
  simp only[aJ] at aT;simp only[eH] at h;split at h
  ·split at h
   ·rename_i af ak eh;split at h
    ·rename_i d n b Z cS bX;simp only[bn,beq_iff_eq] at h;obtain⟨⟨⟨⟨au,az⟩,b3⟩,dJ⟩,B⟩:=h;subst b3;obtain⟨i,i1,_,_,i2⟩:=eR.info _ _ _ _ bX;exact mO a6 bq bZ dX bB (wX a6 bq bB (eR.eb _ _ eh) (eR.eb _ _ cS) au i1 i2 az (bp bZ dX dJ) (bp bZ dX B) aT)
    ·cases h
   ·cases h
  ·cases h
 |lA iq f xs=>
  simp only[aJ,bq,aW.not] at aT;simp only[eH] at h;split at h
  ·rename_i c;split at h
   ·rename_i wF a3;simp only[bn] at h
    have:=dk h.1;subst this;obtain⟨v,s',dU,I⟩:=lV (ty:=ty) (ρ:=a.eval) (o:=.call c) a6 bq jT bZ dX bB (iw bZ dX _ _ h.2) (fun dst pos after guard=>by rw[kY ⟨_,a3,rfl⟩];simp) aT;exact⟨v,s',cY dU bB |>.2,I⟩
   ·cases h
  ·cases h
 |jY iq g xs=>
  simp only[aJ] at aT;simp only[eH] at h;split at h
  ·rename_i c;split at h
   ·rename_i g' a3;simp only[bn] at h;have a8:=bp bZ dX h.1;generalize aq E.aw ao g=X at a8 aT;cases X<;> simp only[ks,bq,aW.not] at aT<;> try exact absurd aT.symm bB
    obtain⟨J,V,bO⟩:=dF.tP (x:=a.eval _) a8;obtain⟨v,s',dU,I⟩:=lV (ty:=ty) (ρ:=a.eval) (o:=.call c) a6 bq jT bZ dX bB ((iw bZ dX _ _ h.2).append bO) (fun dst pos after guard=>by rw[kY ⟨_,a3,V⟩]) aT;exact⟨v,s',cY dU bB |>.2,I⟩
   ·cases h
  ·cases h
 |ui neg x=>
  simp only[aJ] at aT;simp only[eH] at h;obtain⟨v,au,dl⟩:=n3 a6 bq bZ dX bB aT;split at h
  ·split at h
   ·rename_i eh;simp only[bn,xy,b1] at h;exact uR a6 bq bZ dX bB dl (zZ a6 h.1 (eR.eb _ _ eh) (bp bZ dX h.2) rfl au)
   ·cases h
  ·cases h
 |no=>exact absurd aT.symm bB
end
def ah.bind(r:ah)(k kp:af→ag→ah):ah:=
 match r with
 |.ok v s=>k v s
 |.panic v s=>kp v s
 |.fail=>.fail
section
variable{E:Env}(bq:E.F=.not)(ao:Nat→af)(s:ag)(k kp:af→ag→ah)
include bq
theorem lo(v:Option af):qC E s k v=ah.bind (qC E s .ok v) k kp:=by cases v<;> simp [qC,bq,aW.not,ah.bind]
theorem mX(m:Option Nat)(cs:List af):eV E s k m cs=ah.bind (eV E s .ok m cs) k kp:=by
 cases m<;> simp only[eV,bq,aW.not]
 ·cases cs<;> rfl
 ·cases Nat.ble _ _<;> rfl
theorem yr(a:Loc)(off:Nat)(vs:List af):iu E s k a off vs=ah.bind (iu E s .ok a off vs) k kp:=by
 simp only[iu,bq,aW.not];cases s.get a with
 |none=>rfl
 |some o=>
  cases o<;> try rfl
  simp only;cases(_&&_:Bool)<;> try rfl
  simp only[b2];cases s.set a _<;> rfl
theorem w1(x:af)(gn bX:Option bC):jN E ao s k x gn bX=ah.bind (jN E ao s .ok x gn bX) k kp:=by
 cases x<;> simp only[jN,bq,aW.not]<;> try rfl
 cases dH E.aw ao gn 0<;> try rfl
 cases dH E.aw ao bX _<;> try rfl
 simp only;cases(_&&_:Bool)<;> rfl
theorem ys(z:Nat)(x:af)(gn bX iJ:Option bC):jZ E ao s k z x gn bX iJ=ah.bind (jZ E ao s .ok z x gn bX iJ) k kp:=by
 cases x<;> simp only[jZ,bq,aW.not]<;> try rfl
 ·cases dH E.aw ao gn 0<;> try rfl
  cases dH E.aw ao bX _<;> try rfl
  cases iJ with
  |none=>simp only;cases(_&&_:Bool)<;> rfl
  |some x=>
   simp only;rename_i g _ _;cases e2 (aq E.aw ao x)<;> cases g<;> try rfl
   all_goals simp only;cases(_&&_:Bool)<;> rfl
 ·cases dH E.aw ao gn 0<;> try rfl
  cases dH E.aw ao bX _<;> try rfl
  cases dH E.aw ao iJ _<;> try rfl
  simp only;cases(_&&_:Bool)<;> rfl
theorem uS(q bytes:Nat)(b:Loc)(x y:af):kb E s k q bytes b x y=ah.bind (kb E s .ok q bytes b x y) k kp:=by
 simp only[kb,bq,aW.not];cases y<;> try rfl
 rename_i z new _;cases x<;> try rfl
 rename_i sz es g;simp only;cases(_&&_:Bool)<;> try rfl
 simp only[b2];cases new<;> try rfl
 cases g<;> try rfl
 ·simp only;cases si s b _<;> try rfl
  simp only[b2];cases s.hi b _<;> rfl
 ·simp only;rename_i a;cases s.get a<;> try rfl
  rename_i o;cases o<;> try rfl
  simp only;cases(_&&_:Bool)<;> try rfl
  simp only[b2];cases s.set a _<;> rfl
theorem w2(z n:Nat)(x:af)(gn bX iJ:Option bC):iD E ao s k z n x gn bX iJ=ah.bind (iD E ao s .ok z n x gn bX iJ) k kp:=by
 cases x<;> simp only[iD,bq,aW.not]<;> try rfl
 cases dH E.aw ao gn 0<;> try rfl
 cases dH E.aw ao bX _<;> try rfl
 cases dH E.aw ao iJ _<;> try rfl
 simp only;cases(_&&_:Bool)<;> rfl
theorem pV(q bytes:Nat)(b:Loc)(x y:af):h7 E s k q bytes b x y=ah.bind (h7 E s .ok q bytes b x y) k kp:=by
 simp only[h7,bq,aW.not];cases dL s y with
 |none=>rfl
 |some p=>
  obtain⟨z,new⟩:=p;cases x<;> try rfl
  ·rename_i sz es g;simp only;cases(_&&_:Bool)<;> try rfl
   simp only[b2];cases new<;> try rfl
   cases g<;> try rfl
   ·simp only;cases s.hi b _<;> rfl
   ·simp only;cases s.hi b _<;> rfl
   rename_i a;simp only;cases s.get a<;> try rfl
   rename_i o;cases o<;> try rfl
   simp only;cases(_&&_:Bool)<;> try rfl
   simp only[b2];cases s.set a _<;> rfl
  ·rename_i a off len cap sz;simp only;cases s.get a<;> try rfl
   rename_i o;cases o<;> try rfl
   simp only;cases(_&&_:Bool)<;> try rfl
   simp only[b2];cases s.set a _<;> rfl
theorem w3(kJ:wE)(m x v:af):ll E s k kJ m x v=ah.bind (ll E s .ok kJ m x v) k kp:=by
 cases m<;> simp only[ll,bq,aW.not]<;> try rfl
 cases s.get _<;> try rfl
 rename_i o;cases o<;> try rfl
 simp only;cases(_&&_:Bool)<;> try rfl
 simp only[b2];cases putKey x v _<;> try rfl
 simp only;cases s.set _ _<;> rfl
theorem w4(kJ:wE)(z:af)(ok:Bool)(m x:af):lm E s k kJ z ok m x=ah.bind (lm E s .ok kJ z ok m x) k kp:=by
 simp only[lm,bq,aW.not];cases isKey kJ x<;> try rfl
 simp only[b2];cases entriesOf s m<;> try rfl
 simp only;cases findKey x _<;> try rfl
 rename_i o;cases o<;> rfl
theorem De(sz:Nat)(x i:af):kL E s k sz x i=ah.bind (kL E s .ok sz x i) k kp:=by
 simp only[kL,bq,aW.not];cases e2 i<;> try rfl
 cases x<;> try rfl
 ·simp only;cases Nat.beq _ _<;> try rfl
  simp only[b2];rename_i es _;split<;> rfl
 ·simp only;cases(_&&_:Bool)<;> rfl
theorem w5(sz len:Nat)(x i:af):hR E s k sz len x i=ah.bind (hR E s .ok sz len x i) k kp:=by
 simp only[hR,bq,aW.not];cases e2 i<;> try rfl
 simp only;cases Nat.blt _ _<;> try rfl
 cases x<;> rfl
theorem sV(f:Nat)(args:List af):eA E s k kp f args=ah.bind (eA E s .ok .panic f args) k kp:=by
 simp only[eA];cases E.call f args s<;> try rfl
 simp only;cases Nat.beq _ _<;> rfl
theorem qZ(xs:List (Option Nat×af))(f:Nat)(args:List af):h3 E s k kp xs f args=ah.bind (h3 E s .ok .panic xs f args) k kp:=by
 simp only[h3,eA];cases E.call f args s<;> try rfl
 simp only;cases Nat.beq _ _<;> try rfl
 simp only[b2];cases xs.all _<;> rfl
theorem q0(f:Nat)(args:List af):hF E s k f args=ah.bind (hF E s .ok f args) k kp:=by
 simp only[hF];cases af.aY args<;> try rfl
 simp only[b2];cases E.call f args _<;> try rfl
 rename_i v _;simp only;cases v.bd<;> rfl
theorem yu(n:Option Nat)(v:af):d8 E s k n v=ah.bind (d8 E s .ok n v) k kp:=by
 cases v<;> simp only[d8]<;> try rfl
 ·rename_i a off;cases s.get a<;> try rfl
  rename_i o;cases o<;> try rfl
  exact mX bq s k kp _ _
 ·exact mX bq s k kp _ _
theorem su(off:Nat)(v:af):gO E s k off v=ah.bind (gO E s .ok off v) k kp:=by cases v<;> simp only[gO,bq,aW.not]<;> rfl
theorem yv(off:Nat)(n:Option Nat)(v:af):lP E s k off n v=ah.bind (lP E s .ok off n v) k kp:=by
 cases v<;> simp only[lP]<;> try rfl
 exact mX bq s k kp _ _
theorem w6(v i:af):h8 E s k v i=ah.bind (h8 E s .ok v i) k kp:=by
 cases v<;> simp only[h8,bq,aW.not]<;> try rfl
 cases e2 i<;> try rfl
 simp only;split<;> rfl
theorem w7(sz len:Nat)(n:Option Nat)(v i:af):kr E s k sz len n v i=ah.bind (kr E s .ok sz len n v i) k kp:=by
 cases v<;> simp only[kr]<;> try rfl
 cases e2 i<;> try rfl
 simp only;cases Nat.blt _ _<;> try rfl
 exact mX bq s k kp _ _
theorem uT(i:Nat)(v:af):kc E s k i v=ah.bind (kc E s .ok i v) k kp:=by
 cases v<;> simp only[kc]<;> try rfl
 exact lo bq s k kp _
theorem Df(b:Bool)(v:af):pL E s k b v=ah.bind (pL E s .ok b v) k kp:=by cases b<;> cases v<;> simp only[pL,bq,aW.not]<;> rfl
theorem z6(d x:af):copyV E s k d x=ah.bind (copyV E s .ok d x) k kp:=by
 cases d<;> simp only[copyV,bq,aW.not]<;> try rfl
 rename_i a off len cap sz;cases dL s x<;> try rfl
 simp only;cases s.get a<;> try rfl
 rename_i o;cases o<;> try rfl
 simp only;cases(_&&_:Bool)<;> try rfl
 simp only[b2];cases s.set a _<;> rfl
theorem yw(q:Nat)(d x:af):lQ E s k q d x=ah.bind (lQ E s .ok q d x) k kp:=by
 cases d<;> simp only[lQ]<;> try rfl
 cases Nat.beq _ _<;> first|rfl |skip
 simp only[b2];exact z6 bq s k kp _ _
theorem z7(zero:List af)(bytes:Nat)(l c:af):nd E s k zero bytes l c=ah.bind (nd E s .ok zero bytes l c) k kp:=by
 simp only[nd,bq,aW.not];cases e2 l<;> try rfl
 cases e2 c<;> try rfl
 simp only;cases(_&&_:Bool)<;> rfl
theorem lf(n:Nat)(a v:af):fl E s k n a v=ah.bind (fl E s .ok n a v) k kp:=by
 cases a<;> simp only[fl]<;> try rfl
 cases(_&&_:Bool)<;> try rfl
 exact yr bq s k kp _ _ _
theorem w8(m:Option Nat)(y:af)(n:Nat)(a v:af):lk E s k m y n a v=ah.bind (lk E s .ok m y n a v) k kp:=by
 unfold lk;rw[lf bq s _ kp n a v,lf bq s (fun u t=>bif nW (e3 s m y) (e3 t m y) then .ok u t else .fail) .panic n a v];cases fl E s .ok n a v<;> try rfl
 simp only[ah.bind];cases nW _ _<;> rfl
theorem uU(d:IntKind)(v:af):kd E s k d v=ah.bind (kd E s .ok d v) k kp:=by cases v<;> simp only[kd,bq,aW.not]<;> rfl
theorem w9(v:af):ml s k v=ah.bind (ml s .ok v) k kp:=by cases v<;> rfl
theorem q1(v:af):hj E s k v=ah.bind (hj E s .ok v) k kp:=by cases v<;> simp only[hj,bq,aW.not]<;> rfl
theorem q2(v:af):gD E s k v=ah.bind (gD E s .ok v) k kp:=by cases v<;> first|rfl |(simp only[gD];cases dL s _<;> first|rfl |exact lo bq s k kp _)
theorem z8(c a b:af):nf E s k c a b=ah.bind (nf E s .ok c a b) k kp:=by cases c<;> simp only[nf,bq,aW.not]<;> rfl
theorem tG(v:af):i6 E s k v=ah.bind (i6 E s .ok v) k kp:=by
 simp only[i6,bq,aW.not];cases isNil v<;> try rfl
 rename_i b;cases b<;> rfl
theorem yx(v:af):mS E s k v=ah.bind (mS E s .ok v) k kp:=by
 cases v<;> simp only[mS,bq,aW.not]<;> try rfl
 rename_i a off len cap sz;cases a<;> try rfl
 simp only;rename_i i;cases s.own[i]? <;> try rfl
 rename_i o;cases o<;> try rfl
 simp only;cases(_&&_:Bool)<;> rfl
theorem q3(sz:Nat)(es:List af):hS E s k sz es=ah.bind (hS E s .ok sz es) k kp:=by simp only[hS,bq,aW.not];cases(_&&_:Bool)<;> rfl
theorem yy(f:af)(args:List af):lb E s k kp f args=ah.bind (lb E s .ok .panic f args) k kp:=by
 cases f<;> simp only[lb,bq,aW.not]<;> try rfl
 exact sV bq s k kp _ _
theorem xa(f:af)(args:List af):jQ E s k f args=ah.bind (jQ E s .ok f args) k kp:=by
 cases f<;> simp only[jQ,bq,aW.not]<;> try rfl
 exact q0 bq s k kp _ _
theorem q4(f:af→af→Option af)(xs:List af):lc E s k f xs=ah.bind (lc E s .ok f xs) k kp:=by
 cases xs<;> simp only[lc]<;> try rfl
 exact lo bq s k kp _
theorem ju(op:gg):aJ E ao s k kp op=ah.bind (aJ E ao s .ok .panic op) k kp:=by
 cases op<;> simp only[aJ]
 case move=>simp only[bq,aW.not];rfl
 case nb=>simp only[bq,aW.not];rfl
 case oK=>exact yx bq s k kp _
 case pick=>exact z8 bq s k kp _ _ _
 case alloc=>simp only[bq,aW.not];rfl
 case e1 x=>simp only[bq,aW.not];cases(aq E.aw ao x).fh<;> rfl
 case jX x=>simp only[bq,aW.not];cases(aq E.aw ao x).fh<;> rfl
 case build=>exact lo bq s k kp _
 case buildSlice=>exact q3 bq s k kp _ _
 case load=>exact yu bq s k kp _ _
 case store=>exact lf bq s k kp _ _ _
 case la=>exact w8 bq s k kp _ _ _ _ _
 case nilCheck=>exact tG bq s k kp _
 case bin=>exact lo bq s k kp _
 case eq=>exact lo bq s k kp _
 case un=>exact lo bq s k kp _
 case lj=>exact uU bq s k kp _ _
 case nU=>exact w9 bq s k kp _
 case gN=>exact q2 bq s k kp _
 case iY=>exact q1 bq s k kp _
 case jI=>simp only[bq,aW.not];rfl
 case ko=>simp only[bq,aW.not];rfl
 case makeSlice=>exact z7 bq s k kp _ _ _ _
 case kq=>exact w1 bq ao s k kp _ _ _
 case slice=>exact ys bq ao s k kp _ _ _ _ _
 case fieldAddr=>exact su bq s k kp _ _
 case field=>exact yv bq s k kp _ _ _
 case iZ=>exact De bq s k kp _ _ _
 case e6=>exact w5 bq s k kp _ _ _ _
 case mP=>exact w6 bq s k kp _ _
 case mQ=>exact w7 bq s k kp _ _ _ _ _
 case extract=>exact uT bq s k kp _ _
 case call=>simp only[bq,aW.not];exact sV bq s k kp _ _
 case eA=>exact yy bq s k kp _ _
 case hA=>simp only[bq,aW.not];exact q0 bq s k kp _ _
 case lM=>exact xa bq s k kp _ _
 case len=>exact Df bq s k kp _ _
 case append=>
  simp only[gX];cases h6 E.aw ao _<;> try rfl
  exact pV bq s k kp _ _ _ _ _
 case jK=>
  simp only[mm];cases h6 E.aw ao _<;> try rfl
  exact uS bq s k kp _ _ _ _ _
 case gB=>simp only[jO,bq,aW.not];cases(_&&_:Bool)<;> rfl
 case gC=>simp only[jP,bq,aW.not];cases List.all _ _<;> rfl
 case jL=>
  simp only[l7,bq,aW.not];cases dL s _ with
  |none=>rfl
  |some p=>
   obtain⟨z,new⟩:=p;cases new with
   |nil=>rfl
   |cons c new=>
    simp only;split
    ·cases(_&&_:Bool)<;> rfl
    ·split
     ·cases(_&&_:Bool)<;> rfl
     ·rfl
    ·rfl
 case iS=>exact w2 bq ao s k kp _ _ _ _ _ _
 case jJ=>
  simp only[kR];cases aq E.aw ao _<;> try rfl
  simp only[gX];cases h6 E.aw ao _<;> try rfl
  exact pV bq s k kp _ _ _ _ _
 case makeMap=>
  simp only[l8,bq,aW.not];cases h6 E.aw ao _<;> try rfl
  simp only;cases s.hi _ _<;> rfl
 case mR=>exact w3 bq s k kp _ _ _ _
 case lookup=>exact w4 bq s k kp _ _ _ _ _
 case no=>rfl
 case ui=>exact lo bq s k kp _
 case lA=>simp only[bq,aW.not];exact qZ bq s k kp _ _ _
 case jY=>
  simp only[ks,bq,aW.not];cases aq E.aw ao _<;> try rfl
  exact qZ bq s k kp _ _ _
 case copy=>exact yw bq s k kp _ _ _
 case min=>exact q4 bq s k kp _ _
 case max=>exact q4 bq s k kp _ _
end
def gi(o:Option af)(k:af→ag→ah)(s:ag):ah:=
 match o with
 |some v=>k v s
 |none=>.fail
def gg.pG:gg→Nat
 |.load .. |.gN _|.lookup ..=>1
 |.oK _|.alloc _|.jX _|.store .. |.la .. |.makeSlice .. |.append .. |.jJ .. |.jK .. |.gB .. |.gC .. |.jL .. |.copy .. |.call .. |.eA .. |.makeMap _|.mR .. |.lA .. |.jY ..=>2
 |_=>0
def gg.Ki:gg→List bC
 |.move x|.oK x|.e1 x|.jX x|.load _ x|.nilCheck x|.un _ x|.lj _ x|.nU x|.gN x|.iY x|.jI _ x|.fieldAddr _ x|.field _ _ x|.extract x _|.len _ x=>[x]
 |.pick a b c=>[a,b,c]
 |.ui _ x=>[x]
 |.nb x=>[x]
 |.alloc _=>[]
 |.build _ ec=>ec.map (·.2.2)
 |.buildSlice _ xs|.ko _ xs|.call _ xs|.hA _ xs|.min xs|.max xs=>xs
 |.store _ a b|.bin _ a b|.eq _ _ a b|.makeSlice _ _ a b|.iZ _ a b|.e6 _ _ a b|.mP a b|.mQ _ _ _ a b|.copy _ a b|.lookup _ _ _ a b=>[a,b]
 |.append _ _ c a b=>c.toList++[a,b]
 |.jJ _ _ c a b=>c.toList++[a,b]
 |.jK _ _ c a b=>c.toList++[a,b]
 |.gB _ xs=>xs
 |.gC _ xs=>xs
 |.jL _ _ a b=>[a,b]
 |.makeMap c=>c.toList
 |.la _ y _ a v=>[y,a,v]
 |.mR _ a b c=>[a,b,c]
 |.no=>[]
 |.eA f xs|.lM f xs=>f::xs
 |.lA iq _ xs=>iq.map (·.2)++xs
 |.jY iq f xs=>f::(iq.map (·.2)++xs)
 |.kq x gn bX=>x::(gn.toList++bX.toList)
 |.slice _ x gn bX iJ=>x::(gn.toList++bX.toList++iJ.toList)
 |.iS _ _ x gn bX iJ=>x::(gn.toList++bX.toList++iJ.toList)
section
variable{E:Env}(bq:E.F=.not)(ao:Nat→af)
include bq
theorem nC(v:Option af):∃o,∀s k,qC E s k v=gi o k s:=⟨v,fun s k=>by cases v<;> simp only[qC,bq,aW.not,gi]⟩
theorem oU(m:Option Nat)(cs:List af):∃o,∀s k,eV E s k m cs=gi o k s:=by
 cases m<;> simp only[eV,bq,aW.not]
 ·cases cs
  ·exact⟨none,fun _ _=>rfl⟩
  ·exact⟨some _,fun _ _=>rfl⟩
 ·cases Nat.ble _ _
  ·exact⟨none,fun _ _=>rfl⟩
  ·exact⟨some _,fun _ _=>rfl⟩
theorem xb(x:af)(gn bX:Option bC):∃o,∀s k,jN E ao s k x gn bX=gi o k s:=by
 cases x<;> simp only[jN,bq,aW.not]<;> try exact⟨none,fun _ _=>rfl⟩
 cases dH E.aw ao gn 0<;> try exact⟨none,fun _ _=>rfl⟩
 cases dH E.aw ao bX _<;> try exact⟨none,fun _ _=>rfl⟩
 simp only;cases(_&&_:Bool)
 ·exact⟨none,fun _ _=>rfl⟩
 ·exact⟨some _,fun _ _=>rfl⟩
theorem xc(z n:Nat)(x:af)(gn bX iJ:Option bC):∃o,∀s k,iD E ao s k z n x gn bX iJ=gi o k s:=by
 cases x<;> simp only[iD,bq,aW.not]<;> try exact⟨none,fun _ _=>rfl⟩
 cases dH E.aw ao gn 0<;> try exact⟨none,fun _ _=>rfl⟩
 cases dH E.aw ao bX _<;> try exact⟨none,fun _ _=>rfl⟩
 cases dH E.aw ao iJ _<;> try exact⟨none,fun _ _=>rfl⟩
 simp only;cases(_&&_:Bool)
 ·exact⟨none,fun _ _=>rfl⟩
 ·exact⟨some _,fun _ _=>rfl⟩
theorem yz(z:Nat)(x:af)(gn bX iJ:Option bC):∃o,∀s k,jZ E ao s k z x gn bX iJ=gi o k s:=by
 cases x<;> simp only[jZ,bq,aW.not]<;> try exact⟨none,fun _ _=>rfl⟩
 ·cases dH E.aw ao gn 0<;> try exact⟨none,fun _ _=>rfl⟩
  cases dH E.aw ao bX _<;> try exact⟨none,fun _ _=>rfl⟩
  cases iJ with
  |none=>
   simp only;cases(_&&_:Bool)
   ·exact⟨none,fun _ _=>rfl⟩
   ·exact⟨some _,fun _ _=>rfl⟩
  |some x=>
   simp only;rename_i g _ _;cases e2 (aq E.aw ao x)<;> cases g<;> try exact⟨none,fun _ _=>rfl⟩
   all_goals
    simp only;cases(_&&_:Bool)
    ·exact⟨none,fun _ _=>rfl⟩
    ·exact⟨some _,fun _ _=>rfl⟩
 ·cases dH E.aw ao gn 0<;> try exact⟨none,fun _ _=>rfl⟩
  cases dH E.aw ao bX _<;> try exact⟨none,fun _ _=>rfl⟩
  cases dH E.aw ao iJ _<;> try exact⟨none,fun _ _=>rfl⟩
  simp only;cases(_&&_:Bool)
  ·exact⟨none,fun _ _=>rfl⟩
  ·exact⟨some _,fun _ _=>rfl⟩
theorem Dg(sz:Nat)(x i:af):∃o,∀s k,kL E s k sz x i=gi o k s:=by
 simp only[kL,bq,aW.not];cases e2 i<;> try exact⟨none,fun _ _=>rfl⟩
 rename_i i;cases x<;> try exact⟨none,fun _ _=>rfl⟩
 ·simp only;cases Nat.beq _ _
  ·exact⟨none,fun _ _=>rfl⟩
  rename_i es _;simp only[b2];cases es[i]?
  ·exact⟨none,fun _ _=>rfl⟩
  ·exact⟨some _,fun _ _=>rfl⟩
 ·simp only;cases(_&&_:Bool)
  ·exact⟨none,fun _ _=>rfl⟩
  ·exact⟨some _,fun _ _=>rfl⟩
theorem xd(sz len:Nat)(x i:af):∃o,∀s k,hR E s k sz len x i=gi o k s:=by
 simp only[hR,bq,aW.not];cases e2 i<;> try exact⟨none,fun _ _=>rfl⟩
 simp only;cases Nat.blt _ _<;> try exact⟨none,fun _ _=>rfl⟩
 cases x<;> first|exact⟨none,fun _ _=>rfl⟩|exact⟨some _,fun _ _=>rfl⟩
theorem q5(f:Nat)(args:List af):∃o,∀s k,hF E s k f args=gi o k s:=by
 simp only[hF];cases af.aY args<;> try exact⟨none,fun _ _=>rfl⟩
 simp only[b2];cases E.call f args _<;> try exact⟨none,fun _ _=>rfl⟩
 rename_i v _;simp only;cases v.bd
 ·exact⟨none,fun _ _=>rfl⟩
 ·exact⟨some _,fun _ _=>rfl⟩
theorem sv(off:Nat)(v:af):∃o,∀s k,gO E s k off v=gi o k s:=by cases v<;> simp only[gO,bq,aW.not]<;> first|exact⟨none,fun _ _=>rfl⟩|exact⟨some _,fun _ _=>rfl⟩
theorem yA(off:Nat)(n:Option Nat)(v:af):∃o,∀s k,lP E s k off n v=gi o k s:=by
 cases v<;> simp only[lP]<;> try exact⟨none,fun _ _=>rfl⟩
 exact oU bq _ _
theorem xe(v i:af):∃o,∀s k,h8 E s k v i=gi o k s:=by
 cases v<;> simp only[h8,bq,aW.not]<;> try exact⟨none,fun _ _=>rfl⟩
 cases e2 i<;> try exact⟨none,fun _ _=>rfl⟩
 rename_i fc i;simp only;cases fc[i]?
 ·exact⟨none,fun _ _=>rfl⟩
 ·exact⟨some _,fun _ _=>rfl⟩
theorem xf(sz len:Nat)(n:Option Nat)(v i:af):∃o,∀s k,kr E s k sz len n v i=gi o k s:=by
 cases v<;> simp only[kr]<;> try exact⟨none,fun _ _=>rfl⟩
 cases e2 i<;> try exact⟨none,fun _ _=>rfl⟩
 simp only;cases Nat.blt _ _<;> try exact⟨none,fun _ _=>rfl⟩
 exact oU bq _ _
theorem uV(i:Nat)(v:af):∃o,∀s k,kc E s k i v=gi o k s:=by
 cases v<;> simp only[kc]<;> try exact⟨none,fun _ _=>rfl⟩
 exact nC bq _
theorem Dh(b:Bool)(v:af):∃o,∀s k,pL E s k b v=gi o k s:=by cases b<;> cases v<;> simp only[pL,bq,aW.not]<;> first|exact⟨none,fun _ _=>rfl⟩|exact⟨some _,fun _ _=>rfl⟩
theorem uW(d:IntKind)(v:af):∃o,∀s k,kd E s k d v=gi o k s:=by cases v<;> simp only[kd,bq,aW.not]<;> first|exact⟨none,fun _ _=>rfl⟩|exact⟨some _,fun _ _=>rfl⟩
omit bq in
theorem xg(v:af):∃o,∀s k,ml s k v=gi o k s:=by cases v<;> simp only[ml]<;> first|exact⟨none,fun _ _=>rfl⟩|exact⟨some _,fun _ _=>rfl⟩
theorem q6(v:af):∃o,∀s k,hj E s k v=gi o k s:=by cases v<;> simp only[hj,bq,aW.not]<;> first|exact⟨none,fun _ _=>rfl⟩|exact⟨some _,fun _ _=>rfl⟩
theorem z9(c a b:af):∃o,∀s k,nf E s k c a b=gi o k s:=by cases c<;> simp only[nf,bq,aW.not]<;> first|exact⟨none,fun _ _=>rfl⟩|exact⟨some _,fun _ _=>rfl⟩
theorem tH(v:af):∃o,∀s k,i6 E s k v=gi o k s:=by
 simp only[i6,bq,aW.not];cases isNil v<;> try exact⟨none,fun _ _=>rfl⟩
 rename_i b;cases b
 ·exact⟨some _,fun _ _=>rfl⟩
 ·exact⟨none,fun _ _=>rfl⟩
theorem q7(sz:Nat)(es:List af):∃o,∀s k,hS E s k sz es=gi o k s:=by
 simp only[hS,bq,aW.not];cases(_&&_:Bool)
 ·exact⟨none,fun _ _=>rfl⟩
 ·exact⟨some _,fun _ _=>rfl⟩
theorem xh(f:af)(args:List af):∃o,∀s k,jQ E s k f args=gi o k s:=by
 cases f<;> simp only[jQ,bq,aW.not]<;> try exact⟨none,fun _ _=>rfl⟩
 exact q5 bq _ _
theorem q8(f:af→af→Option af)(xs:List af):∃o,∀s k,lc E s k f xs=gi o k s:=by
 cases xs<;> simp only[lc]<;> try exact⟨none,fun _ _=>rfl⟩
 exact nC bq _
theorem uX{op:gg}(a3:op.pG=0)(d:Nat):∃o,∀(s:ag) k kp,s.aa=d→aJ E ao s k kp op=gi o k s:=by
 have key:∀{f:ag→(af→ag→ah)→ah},(∃o,∀s k,f s k=gi o k s)→∃o,∀(s:ag) (k kp:af→ag→ah),s.aa=d→f s k=gi o k s:=fun⟨o,h⟩=>⟨o,fun s k kp _=>h s k⟩
 cases op<;> simp only[gg.pG] at a3<;> first|exact absurd a3 (by decide)|skip
 all_goals simp only[aJ]
 case nb x=>exact⟨some (nV (aq E.aw ao x)),fun s k kp _=>by simp only[bq,aW.not,gi]⟩
 case move x=>exact⟨some (aq E.aw ao x),fun s k kp _=>by simp only[bq,aW.not,gi]⟩
 case pick c a b=>exact key (z9 bq _ _ _)
 case e1 x=>
  cases bO:(aq E.aw ao x).fh
  ·exact⟨none,fun s k kp _=>by simp only[bq,aW.not,gi,cond_false]⟩
  ·exact⟨some (.bI ((aq E.aw ao x).ap d).cells),fun s k kp h=>by simp only[bq,aW.not,gi,b2,h]⟩
 case build zero parts=>exact⟨(fk E.aw d ao zero parts).map .agg,fun s k kp h=>by rw[h];cases fk E.aw d ao zero parts<;> simp only[qC,bq,aW.not,gi,ew,Option.map_none]⟩
 case buildSlice=>exact key (q7 bq _ _)
 case nilCheck=>exact key (tH bq _)
 case bin=>exact key (nC bq _)
 case eq=>exact key (nC bq _)
 case un=>exact key (nC bq _)
 case lj=>exact key (uW bq _ _)
 case nU=>exact key (xg _)
 case iY=>exact key (q6 bq _)
 case jI t x=>exact⟨some (.iface t ((aq E.aw ao x).ap d)),fun s k kp h=>by simp only[bq,aW.not,gi,h]⟩
 case ko f dI=>exact⟨some (.fn f (dI.map fun x=>(aq E.aw ao x).ap d)),fun s k kp h=>by simp only[bq,aW.not,gi,h]⟩
 case kq=>exact key (xb bq ao _ _ _)
 case slice=>exact key (yz bq ao _ _ _ _ _)
 case iS=>exact key (xc bq ao _ _ _ _ _ _)
 case fieldAddr=>exact key (sv bq _ _)
 case field=>exact key (yA bq _ _ _)
 case iZ=>exact key (Dg bq _ _ _)
 case e6=>exact key (xd bq _ _ _ _)
 case mP=>exact key (xe bq _ _)
 case mQ=>exact key (xf bq _ _ _ _ _)
 case extract=>exact key (uV bq _ _)
 case hA f args=>obtain⟨o,h⟩:=q5 bq f (args.map fun x=>(aq E.aw ao x).ap d);exact⟨o,fun s k kp cS=>by simp only[bq,aW.not,cS];exact h s k⟩
 case lM f args=>obtain⟨o,h⟩:=xh bq (aq E.aw ao f) (args.map fun x=>(aq E.aw ao x).ap d);exact⟨o,fun s k kp cS=>by simp only[cS];exact h s k⟩
 case no=>exact⟨none,fun s k kp _=>rfl⟩
 case ui=>exact key (nC bq _)
 case len=>exact key (Dh bq _ _)
 case min xs=>obtain⟨o,h⟩:=q8 bq min2 (xs.map fun x=>(aq E.aw ao x).ap d);exact⟨o,fun s k kp cS=>by simp only[cS];exact h s k⟩
 case max xs=>obtain⟨o,h⟩:=q8 bq max2 (xs.map fun x=>(aq E.aw ao x).ap d);exact⟨o,fun s k kp cS=>by simp only[cS];exact h s k⟩
theorem sW{op:gg}(a3:op.pG=1){s s':ag}{v:af}(h:aJ E ao s .ok .panic op=.ok v s'):s'=s:=by
 have lF:∀{m:Option af},qC E s .ok m=.ok v s'→s'=s:=fun {m} h=>by cases m<;> simp [qC,bq,aW.not] at h;exact h.2.symm
 have hJ:∀{n:Option Nat} {cs:List af},eV E s .ok n cs=.ok v s'→s'=s:=fun {n cs} h=>by obtain⟨o,e⟩:=oU bq n cs;rw[e] at h;cases o<;> simp [gi] at h;exact h.2.symm
 cases op<;> simp only[gg.pG] at a3<;> first|exact absurd a3 (by decide)|skip
 all_goals simp only[aJ] at h
 case load n a=>
  unfold d8 at h;split at h
  ·exact hJ h
  ·split at h
   ·exact hJ h
   ·cases h
  ·cases h
 case gN x=>
  unfold gD at h;split at h
  ·cases h
  ·split at h
   ·exact lF h
   ·cases h
 case lookup kJ z ok m x=>
  unfold lm at h;simp only[bq,aW.not] at h;cases dl:isKey kJ (af.ap s.aa (aq E.aw ao x)) with
  |false=>rw[dl] at h;cases h
  |true=>
   rw[dl,b2] at h;split at h
   ·split at h
    ·simp only[ah.ok.injEq] at h;exact h.2.symm
    ·simp only[ah.ok.injEq] at h;exact h.2.symm
    ·cases h
   ·cases h
end
theorem ag.j6{s s':ag}{a:Loc}{o:du}(h:s.set a o=some s'):s'.aa=s.aa:=by
 unfold ag.set at h;split at h
 ·simp only[bj] at h;subst h;rfl
 ·split at h
  ·simp only[bj] at h;subst h;rfl
  ·split at h
   ·simp only[bj] at h;subst h;simp [ag.aa]
   ·cases h
theorem ag.lW{s s':ag}{a l:Loc}{o:du}(h:s.hi a o=some (l,s')):s'.aa=s.aa:=by
 unfold ag.hi at h;split at h
 ·simp only[bj,e0] at h;rw[←h.2];rfl
 ·split at h
  ·simp only[bj,e0] at h;rw[←h.2];rfl
  ·split at h
   ·split at h
    ·simp only[bj,e0] at h;rw[←h.2];simp [ag.aa]
    ·cases h
   ·cases h
section
variable{E:Env}(bq:E.F=.not)(ao:Nat→af)
include bq
theorem pW{s s':ag}{v:af}{a:Loc}{off:Nat}{vs:List af}(h:iu E s .ok a off vs=.ok v s'):s'.aa=s.aa:=by
 simp only[iu,bq,aW.not] at h;split at h
 ·cases e:(Nat.ble (off+vs.length) _&&s.hB a vs&&vs.all af.eO) with
  |false=>rw[e] at h;cases h
  |true=>
   rw[e,b2] at h;split at h
   ·rename_i q;simp only[ah.ok.injEq] at h;rw[←h.2];exact ag.j6 q
   ·cases h
 ·cases h
theorem lX{s s':ag}{v:af}{f:Nat}{args:List af}(h:eA E s .ok .panic f args=.ok v s'):s'.aa=s.aa:=by
 simp only[eA] at h;split at h
 ·rename_i fG q a3;cases e:Nat.beq q.aa s.aa with
  |false=>rw[e] at h;cases h
  |true=>rw[e,b2] at h;simp only[ah.ok.injEq] at h;rw[←h.2];exact dk e
 ·cases h
 ·cases h
theorem n4{s s':ag}{v:af}{xs:List (Option Nat×af)}{f:Nat}{args:List af}(h:h3 E s .ok .panic xs f args=.ok v s'):eA E s .ok .panic f args=.ok v s'∧∀x,x∈xs→∃l,e3 s x.1 x.2=some l∧e3 s' x.1 x.2=some l:=by
 simp only[h3,eA] at h ⊢;cases a3:E.call f args s<;> rw[a3] at h<;> try cases h
 rename_i fG q;simp only at h ⊢;cases r:Nat.beq q.aa s.aa with
 |false=>rw[r] at h;cases h
 |true=>
  rw[r,b2] at h;cases e:xs.all fun x=>nW (e3 s x.1 x.2) (e3 q x.1 x.2) with
  |false=>rw[e] at h;cases h
  |true=>rw[e,b2] at h;simp only[ah.ok.injEq] at h;obtain⟨rfl,rfl⟩:=h;refine⟨by simp,fun x a8=>?_⟩;exact xu.1 (List.all_eq_true.1 e x a8)
theorem sX{s s':ag}{v:af}{m:Option Nat}{y:af}{n:Nat}{a u:af}(h:lk E s .ok m y n a u=.ok v s'):fl E s .ok n a u=.ok v s'∧∃l,e3 s m y=some l∧e3 s' m y=some l:=by
 unfold lk at h;rw[lf bq s _ .panic n a u] at h;cases a6:fl E s .ok n a u with
 |fail=>rw[a6] at h;cases h
 |panic fG t=>rw[a6] at h;cases h
 |ok fG t=>
  rw[a6] at h;simp only[ah.bind] at h;cases e:nW (e3 s m y) (e3 t m y) with
  |false=>rw[e] at h;cases h
  |true=>rw[e] at h;simp only[b2,ah.ok.injEq] at h;obtain⟨rfl,rfl⟩:=h;exact⟨rfl,xu.1 e⟩
theorem g1{b:Bool}{x:ah}{v:af}{s':ag}(h:(bif b then x else .fail)=.ok v s'):x=.ok v s':=by
 cases b with
 |true=>exact h
 |false=>cases h
theorem yB{s s':ag}{v:af}{d x:af}(h:copyV E s .ok d x=.ok v s'):s'.aa=s.aa:=by
 simp only[copyV,bq,aW.not] at h;split at h
 ·split at h
  ·split at h
   ·have h:=g1 bq h;split at h
    ·rename_i e;simp only[ah.ok.injEq] at h;rw[←h.2];exact ag.j6 e
    ·cases h
   ·cases h
  ·cases h
 ·cases h
theorem tI{s s':ag}{v:af}{q b:Nat}{l:Loc}{x y:af}(h:kb E s .ok q b l x y=.ok v s'):s'.aa=s.aa:=by
 simp only[kb,bq,aW.not] at h;split at h
 ·split at h
  ·have h:=g1 bq h;split at h
   ·cases h
   ·split at h
    ·have h:=g1 bq h;split at h
     ·rename_i e;simp only[ah.ok.injEq] at h;rw[←h.2];exact ag.lW e
     ·cases h
    ·split at h
     ·have h:=g1 bq h;split at h
      ·rename_i r;simp only[ah.ok.injEq] at h;rw[←h.2];exact ag.j6 r
      ·cases h
     ·cases h
    ·cases h
  ·cases h
 ·cases h
theorem oV{s s':ag}{v:af}{q b:Nat}{l:Loc}{x y:af}(h:h7 E s .ok q b l x y=.ok v s'):s'.aa=s.aa:=by
 simp only[h7,bq,aW.not] at h;split at h
 ·cases h
 ·split at h
  ·have h:=g1 bq h;split at h
   ·simp only[ah.ok.injEq] at h;rw[←h.2]
   ·split at h
    ·split at h
     ·rename_i e;simp only[ah.ok.injEq] at h;rw[←h.2];exact ag.lW e
     ·cases h
    ·split at h
     ·rename_i e;simp only[ah.ok.injEq] at h;rw[←h.2];exact ag.lW e
     ·cases h
    ·split at h
     ·have h:=g1 bq h;split at h
      ·rename_i r;simp only[ah.ok.injEq] at h;rw[←h.2];exact ag.j6 r
      ·cases h
     ·cases h
    ·cases h
  ·split at h
   ·have h:=g1 bq h;split at h
    ·rename_i r;simp only[ah.ok.injEq] at h;rw[←h.2];exact ag.j6 r
    ·cases h
   ·cases h
  ·cases h
theorem Aa{op:gg}{s s':ag}{v:af}(h:aJ E ao s .ok .panic op=.ok v s'):s'.aa=s.aa:=by
 by_cases eZ:op.pG=0
 ·obtain⟨o,e⟩:=uX bq ao eZ s.aa;rw[e s _ _ rfl] at h;cases o<;> simp [gi] at h;rw[h.2]
 by_cases au:op.pG=1
 ·rw[sW bq ao au h]
 cases op<;> simp only[gg.pG] at eZ au<;> first|exact absurd trivial eZ|exact absurd trivial au|skip
 all_goals simp only[aJ] at h
 case oK x=>
  unfold mS at h;split at h
  ·split at h
   ·simp only[bq,aW.not] at h;have h:=g1 bq h;simp only[ah.ok.injEq] at h;rw[←h.2];rfl
   ·cases h
  ·cases h
 case alloc z=>simp only[bq,aW.not,ah.ok.injEq] at h;rw[←h.2];rfl
 case jX x=>simp only[bq,aW.not] at h;have h:=g1 bq h;simp only[ah.ok.injEq] at h;rw[←h.2];rfl
 case store n a u=>
  unfold fl at h;split at h
  ·exact pW bq (g1 bq h)
  ·cases h
 case la m y n a u=>
  have h:=(sX bq h).1;unfold fl at h;split at h
  ·exact pW bq (g1 bq h)
  ·cases h
 case makeSlice z b l c=>
  unfold nd at h;split at h
  ·split at h
   ·simp only[bq,aW.not] at h;have h:=g1 bq h;simp only[ah.ok.injEq] at h;rw[←h.2];rfl
   ·cases h
  ·cases h
 case call f xs=>simp only[bq,aW.not] at h;exact lX bq h
 case eA f xs=>
  unfold lb at h;split at h
  ·simp only[bq,aW.not] at h;exact lX bq h
  ·cases h
 case lA iq f xs=>simp only[bq,aW.not] at h;exact lX bq (n4 bq h).1
 case jY iq f xs=>
  unfold ks at h;split at h
  ·simp only[bq,aW.not] at h;exact lX bq (n4 bq h).1
  ·cases h
 case append=>
  unfold gX at h;split at h
  ·exact oV bq h
  ·cases h
 case jK=>
  unfold mm at h;split at h
  ·exact tI bq h
  ·cases h
 case gB=>unfold jO at h;simp only[bq,aW.not] at h;have h:=g1 bq h;simp only[ah.ok.injEq] at h;rw[←h.2];rfl
 case gC=>unfold jP at h;simp only[bq,aW.not] at h;have h:=g1 bq h;simp only[ah.ok.injEq] at h;rw[←h.2];rfl
 case jL=>
  unfold l7 at h;simp only[bq,aW.not] at h;split at h
  ·cases h
  split at h
  ·cases h
  split at h
  ·have h:=g1 bq h;simp only[ah.ok.injEq] at h;rw[←h.2];rfl
  ·split at h
   ·have h:=g1 bq h;simp only[ah.ok.injEq] at h;rw[←h.2];rfl
   ·cases h
  ·cases h
 case jJ=>
  unfold kR at h;split at h
  ·unfold gX at h;split at h
   ·exact oV bq h
   ·cases h
  ·cases h
 case makeMap=>
  unfold l8 at h;split at h
  ·split at h
   ·rename_i r;simp only[bq,aW.not,ah.ok.injEq] at h;rw[←h.2];exact ag.lW r
   ·cases h
  ·cases h
 case mR kJ m x u=>
  unfold ll at h;split at h
  ·split at h
   ·have h:=g1 bq h;split at h
    ·split at h
     ·rename_i A;simp only[bq,aW.not,ah.ok.injEq] at h;rw[←h.2];exact ag.j6 A
     ·cases h
    ·cases h
   ·cases h
  ·cases h
 case copy q d x=>
  unfold lQ at h;split at h
  ·exact yB bq (g1 bq h)
  ·cases h
end
end Go.Ab
