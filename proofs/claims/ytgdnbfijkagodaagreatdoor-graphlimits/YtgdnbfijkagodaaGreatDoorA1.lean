/- A part of the proof: no condition. -/
import Derived.Test.YtgdnbfijkagodaaGreatDoorA0
import Derived.Laws.IdiomStrings
import Derived.MapKept
import Derived.RangeFuncRecord
import Derived.RangeFuncSeq
import Derived.RangeFuncLeaves
import Derived.RangeFuncCalls
import Derived.OrdersIn
import Derived.Laws.StructEq
set_option linter.unusedSectionVars false
set_option linter.unusedSimpArgs false
set_option linter.unusedVariables false
namespace Go.Ab
theorem sS(z:List ae)(v:Array Value)(hr:∀κ D,d9 κ D z v.toList)(n:Nat):∀κ D,d9 κ D (List.replicate n z).flatten (madeCells v (n*z.length)).toList:=by
 intro κ D;have bO:v.size=z.length:=by simpa using (hr κ D).1
 refine⟨by simp [madeCells],fun j c x aW aZ=>?_⟩;simp only[madeCells,Array.toList_map,iy] at aZ;by_cases eU:z.length=0
 ·have:z=[]:=jT eU;subst this;simp at aW
 ·have da:j<n*z.length:=by
   have:=(ez.1 aW).1;simpa using this
  have aJ:(Array.range (n*z.length)).toList[j]? =some j:=by simp [da]
  rw[aJ] at aZ;simp only[eb,a8] at aZ;have hm:j%z.length<z.length:=Nat.mod_lt _ (by omega);have kr:z[j%z.length]? =some c:=by
   have:∀(n j:Nat),j<n*z.length→(List.replicate n z).flatten[j]? =z[j%z.length]?:=by
    intro n
    induction n with
    |zero=>intro j da;simp at da
    |succ n e=>
     intro j da;rw[List.replicate_succ,List.flatten_cons];by_cases ar:j<z.length
     ·rw[g1 ar,g7 ar]
     ·rw[im (by omega),e _ (by rw[Nat.succ_mul] at da;omega),←Nat.mod_eq_sub_mod (by omega)]
   rw[←this n j da];exact aW
  have h:v.toList[j%z.length]? =some x:=by
   have p:j%v.size<v.size:=by rw[bO];exact hm
   rw[←aZ];simp only[bO] at p ⊢;simp [bO,hm]
  exact(hr κ D).2 _ c x kr h
section
variable{P:Program}{ty:TypeId}{ρ:Operand→Value}{κ:a5}{s:ag}{w:World}(aV:cL κ s w)
include aV
theorem rN{E:Env}(bh:E.F=.not){k:ae→ag→ah}{r:ah}(bg:r≠.fail){t el:TypeId}{z:List ae}{bytes:Nat}{l c:ae}{x y:Operand}(d6:P.underlying t=some (.slice el))(hr:jy P el z=true)(eF:eR P el=some z.length)(p:(P.info? el).map (·.bytes)=some bytes)(q:0<bytes)
  (aZ:ds κ (s.aa+1) (l.aq s.aa) (ρ x))(fb:ds κ (s.aa+1) (c.aq s.aa) (ρ y))(aJ:mJ E s k z bytes l c=r):∃fp s',k fp s'=r∧dB P (.makeSlice t x y) ty ρ κ s w fp s':=by
 unfold mJ at aJ;cases bO:eD l with
 |none=>rw[bO] at aJ;exact absurd aJ.symm bg
 |some m=>
  cases aW:eD c with
  |none=>rw[bO,aW] at aJ;exact absurd aJ.symm bg
  |some n=>
   rw[bO,aW] at aJ;simp only[bh,aN.not] at aJ;obtain⟨h,A⟩:=cP aJ bg;rw[bm] at h;have ar:=dL h.1;have ay:=dL h.2;obtain⟨B,rfl⟩:=iI bO;obtain⟨H,rfl⟩:=iI aW;obtain⟨v,e,bD,_,i,bN,I⟩:=kt hr w;have J:i.size=z.length:=by simpa [eR,bN] using eF
   have M:i.bytes=bytes:=by simpa [bN] using p
   have N:(n:Int)≤9223372036854775807:=by have:n*1≤n*bytes:=Nat.mul_le_mul_left _ q;omega
   have hmul:(i.bytes:Int)*(n:Int)≤281474976710656:=by
    have:(i.bytes:Int)*(n:Int)=((n*bytes:Nat):Int):=by rw[M,ed];simp
    omega
   have run:=run_make w t el i v d6 bN I B H m n (by omega) (by omega) hmul N;simp only[Int.toNat_natCast,J] at run;obtain⟨κ',gZ,g9,O,mh⟩:=aV.n4 (List.replicate n z).flatten (madeCells v.cells (n*z.length)) el (sS z v.cells bD n _ _) (w':=w.alloc (.cells (madeCells v.cells (n*z.length)) el)) rfl rfl rfl rfl;refine⟨_,_,A,.slice (some ⟨w.heap.size,0,none⟩) m n,κ',_,.inl (fun _ _ _ _=>?_),g9,gZ,?_⟩
   ·simp [execOp,aZ.ef,fb.ef,run]
   ·simp only[ae.aq,Loc.aq];rw[←O];exact .cD _ _ _ _ _ _ _ (Nat.lt_succ_self _) mh ar (.inl rfl)
omit aV in
theorem m3{vs:List ae}(h:vs.all ae.eO=true){D:Nat}{xs:List Value}(bD:d9 κ D vs xs):∀x∈xs,x.oneCell'=true:=by
 intro x aZ;obtain⟨j,da⟩:=List.mem_iff_getElem?.1 aZ;have e:=(ez.1 da).1;have p:j<vs.length:=by rw[←bD.1];exact e
 have aW:vs[j]? =some vs[j]:=fB p;exact(bD.2 j _ x aW da).Hg (List.all_eq_true.1 h _ (List.mem_of_getElem? aW))
theorem mO{d i off:Nat}{cs:List ae}{xs:List Value}(cE:s.get (.g d i)=some (.cells cs))(y:off+xs.length≤cs.length)(ar:∀x∈xs,x.oneCell'=true):
  (storeCells ⟨κ.loc d i,off,none⟩ xs).run P w=.ok () (w.setCells (κ.loc d i) off xs):=by
 obtain⟨⟨C,e,ix,dY,q,r,_⟩,A⟩:=aV.obj d i _ cE;have B:cs.length≤C.size:=by have:=r.1;simp at this;omega
 have:=run_storeCells_cells (P:=P) (κ.loc d i) off xs 0 w (fun j da=>by rw[e4 dY];simp;omega) (fun j da=>?_) ar
 ·simpa using this
 ·have hu:=q (off+0+j) (by omega);simp only[World.frozen?,dY];rw[Bool.and_eq_false_iff];by_cases p:ix.1≤off+0+j
  ·right;simp only[decide_eq_false_iff_not];exact fun h=>hu ⟨p,h⟩
  ·left;simpa using p
omit aV in
theorem mr{a:Loc}{d i:Nat}(p:a.aq s.aa=.g d i){vs:List ae}{xs:List Value}(bD:d9 κ (s.aa+1) vs xs)(h:s.h8 a vs=true):d9 κ (d+1) vs xs:=by
 unfold ag.h8 at h;rcases Bool.or_eq_true _ _ ▸ h with h|ay
 rcases Bool.or_eq_true _ _ ▸ h with ar|ar
 ·have:d=s.aa:=by
   cases a with
   |l j=>simp [Loc.aq] at p;exact p.1.symm
   |g e3 j=>simp [Loc.aq] at p;simp [ag.rz] at ar;omega
  subst this;exact bD
 ·exact bD.bj ar _ (fun _ _ h=>h)
 ·cases a with
  |l j=>cases ay
  |g e j=>simp only[Loc.aq,Loc.g.injEq] at p;obtain⟨rfl,rfl⟩:=p;exact⟨bD.1,fun j c x aW aZ=>(bD.2 j c x aW aZ).lower (mZ ay aW)⟩
theorem p8{E:Env}(bh:E.F=.not){k:ae→ag→ah}{r:ah}(bg:r≠.fail){t:TypeId}{n:Nat}{x y:Operand}{v u:ae}(df:eR P t=some n)(aZ:ds κ (s.aa+1) (v.aq s.aa) (ρ x))(fb:ds κ (s.aa+1) u (ρ y))
  (aJ:fr E s k n v u=r):∃fp s',k fp s'=r∧dB P (.store t x y) ty ρ κ s w fp s':=by
 cases v<;> simp only[ae.aq] at aZ<;> simp only[fr] at aJ<;> try exact absurd aJ.symm bg
 rename_i a off;obtain⟨B,h⟩:=cP aJ bg;rw[bm] at B;have hlen:=c4 B.2;have H:=fb.cells B.1;unfold iT at h;rw[←ag.hA] at h;cases q:a.aq s.aa with
 |l i=>cases a<;> simp [Loc.aq] at q
 |g d i=>
  rw[q] at h aZ;obtain⟨e,cF,bN⟩:=aZ.l1;cases cE:s.get (.g d i) with
  |none=>rw[cE] at h;exact absurd h.symm bg
  |some o=>
   rw[cE] at h;cases o<;> try exact absurd h.symm bg
   rename_i cs;obtain⟨A,p⟩:=cP h bg;rw[bm,bm] at A;have ar:=dL A.1.1;simp only[bh,aN.not] at p;rw[←ag.kX,q] at p;cases I:s.set (.g d i) (.cells (dO cs off u.cells)) with
   |none=>rw[I] at p;exact absurd p.symm bg
   |some s'=>
    rw[I] at p;have J:(ρ y).cells.toList.length=u.cells.length:=H.1;have M:=mr q H A.1.2;obtain⟨gZ,g9⟩:=aV.store cE I M ar;have N:=mO (P:=P) aV cE (off:=off) (xs:=(ρ y).cells.toList) (by omega) (m3 A.2 H);have eF:(ρ y).cells.size=n:=by rw[←Array.length_toList,J,hlen]
    refine⟨_,_,p,undef,κ,_,.inr ⟨fun _ _ _ _=>?_,rfl⟩,g9,gZ,.dead _⟩;simp [execOp,Instr.storeAt,e,Instr.sureAddr,storeVar,eg df,eF,N]
theorem j1{v:ae}{X:Value}{sz:Nat}{es:List ae}(bD:ds κ (s.aa+1) (v.aq s.aa) X)(h:dD s v=some (sz,es)):
  ((∃eB a,v=.str eB∧X=.string a∧a.data.toList.map UInt8.toNat=eB∧sz=1∧es=eB.map fun b=>.int .u8 (b:Nat))∨
   (∃A c,X=.slice A es.length c∧(A=none→es=[])∧∀a,A=some a→Reads κ (s.aa+1) w a (es.flatMap ae.cells)))∧
  ae.a6 es=true∧∀e,e∈es→e.cells.length=sz:=by
 cases v
 all_goals first|(simp [dD] at h;done)|skip
 case str eB=>
  simp only[dD,a8,eC] at h;obtain⟨rfl,rfl⟩:=h;obtain⟨a,rfl,p⟩:=bD.hW;refine⟨.inl ⟨eB,a,rfl,rfl,p,rfl,rfl⟩,d5.2 (fun c aW=>?_),fun e he=>?_⟩
  ·obtain⟨b,_,rfl⟩:=List.mem_map.1 aW;rfl
  ·obtain⟨b,_,rfl⟩:=List.mem_map.1 he;rfl
 case cm z l g=>
  have key:(z=sz∧l=es)∧(ae.a6 es=true∨∀a,g≠.dW a):=by
   cases g with
   |dW a=>
    simp only[dD] at h;split at h
    ·rename_i aJ;simp only[a8,eC] at h;exact⟨h,.inl (h.2 ▸ aJ)⟩
    ·cases h
   |nil=>simp only[dD,a8,eC] at h;exact⟨h,.inr fun a e=>by cases e⟩
   |exact=>simp only[dD,a8,eC] at h;exact⟨h,.inr fun a e=>by cases e⟩
   |any=>simp only[dD,a8,eC] at h;exact⟨h,.inr fun a e=>by cases e⟩
  obtain⟨⟨rfl,rfl⟩,q⟩:=key;rcases bD.hf with⟨rfl,_,rfl⟩|⟨a,cap,di,rfl,_,_,_,dk,r,y,B⟩
  ·exact⟨.inr ⟨none,0,rfl,fun _=>rfl,fun a p=>(by cases p)⟩,rfl,fun e he=>(by simp at he)⟩
  ·refine⟨.inr ⟨some a,cap,rfl,fun p=>(by cases p),fun fz p=>?_⟩,?_,dk⟩
   rotate_left
   ·rcases q with c3|c3
    ·exact c3
    ·exact d5.2 (r.left fun d j e=>by cases g<;> first|exact c3 _ rfl |cases e)
   cases p;exact⟨di,fun j da=>(aV.h6 _ _ (y j da)).2,B⟩
 case cD a off len cap z=>
  simp only[dD] at h;rw[←ag.hA] at h;cases p:a.aq s.aa with
  |l i=>cases a<;> simp [Loc.aq] at p
  |g d i=>
   rw[p] at h;simp only[ae.aq,p] at bD;obtain⟨lh,rfl,cF,bN,_⟩:=bD.jq;cases cE:s.get (.g d i) with
   |none=>rw[cE] at h;cases h
   |some o=>
    rw[cE] at h;cases o<;> first|(simp at h;done)|skip
    rename_i cs;simp only at h;split at h
    ·rename_i aW;simp only[a8,eC] at h;obtain⟨rfl,rfl⟩:=h;simp only[bm,Bool.not_eq_true'] at aW;have hr:z≠0:=fun eU=>by rw[eU] at aW;simp at aW
     have hle:=dL aW.1.2;obtain⟨F,H⟩:=j0 z hr len (cs.drop off) (by simp;omega);refine⟨.inr ⟨some ⟨κ.loc d i,off,none⟩,lh,(by rw[e5]),fun p=>(by cases p),fun fz p=>?_⟩,aW.1.1,H⟩;cases p;rw[F];obtain⟨di,p3,rF⟩:=rH (nw aV cE off) (show d+1≤s.aa+1 by omega);refine⟨di,fun j da=>p3 j (by simp at da ⊢;omega),fun j c da=>rF j c ?_⟩;rw[List.getElem?_take] at da;split at da
     ·exact da
     ·cases da
    ·cases h
end
section
variable{P:Program}{ty:TypeId}{ρ:Operand→Value}{κ:a5}{s:ag}{w:World}(aV:cL κ s w)
theorem xg(b:ByteArray)(n:Nat)(κ:a5)(D:Nat):d9 κ D (((b.data.toList.map UInt8.toNat).take n).map fun m=>ae.int .u8 (m:Nat)) ((b.extract 0 n).data.map fun c=>Value.int .u8 c.toNat).toList:=by
 have eU:(b.extract 0 n).data.toList=b.data.toList.take n:=by rw[m2];simp
 have bO:b.data.toList.length=b.size:=Array.length_toList;refine⟨?_,fun j c x aW aZ=>?_⟩
 ·rw[Array.toList_map,ht,eU];simp only[ht,List.length_take]
 ·rw[Array.toList_map,eU,iy] at aZ;rw[←List.map_take,List.map_map,iy] at aW;cases f8:(b.data.toList.take n)[j]? with
  |none=>rw[f8] at aZ;cases aZ
  |some q=>rw[f8] at aZ aW;simp only[eb,a8,Function.comp] at aZ aW;rw[←aZ,←aW];exact .int _ _
theorem e1{X:Value}{sz:Nat}{es:List ae}{v:ae}(h:(∃eB a,v=.str eB∧X=.string a∧a.data.toList.map UInt8.toNat=eB∧sz=1∧es=eB.map fun b=>.int .u8 (b:Nat))∨
   (∃A c,X=.slice A es.length c∧(A=none→es=[])∧∀a,A=some a→Reads κ (s.aa+1) w a (es.flatMap ae.cells)))(eF:∀e,e∈es→e.cells.length=sz)(n:Nat)(df:n≤es.length)(w':World)(hw:∀a,w'.cell? a=w.cell? a):
  (Builtin.lenOf X).run P w'=.ok es.length w'∧∃xs:List Value,(Builtin.firstCells sz n X).run P w'=.ok xs.toArray w'∧d9 κ (s.aa+1) ((es.take n).flatMap ae.cells) xs:=by
 rcases h with⟨eB,a,_,rfl,p,rfl,rfl⟩|⟨A,c,rfl,ar,ay⟩
 ·have q:a.size=eB.length:=by have:=congrArg List.length p;rw[ht,Array.length_toList] at this;exact this
  simp only[ht] at df ⊢;refine⟨by simp [Builtin.lenOf,q],((a.extract 0 n).data.map fun c=>Value.int .u8 c.toNat).toList,by simp only[Builtin.firstCells,Array.toArray_toList,Sem.run_pure],?_⟩
  have:=xg a n κ (s.aa+1);rw[p] at this;have e:(List.map (fun b=>ae.int IntKind.u8 ((b:Nat):Int)) eB).take n=(eB.take n).map fun m=>ae.int .u8 (m:Nat):=by rw[List.map_take]
  rw[e];have r:∀l:List Nat,(l.map fun m=>ae.int .u8 (m:Nat)).flatMap ae.cells=l.map fun m=>ae.int .u8 (m:Nat):=by
   intro l
   induction l with
   |nil=>rfl
   |cons x l y=>simp [List.flatMap_cons,y,ae.cells]
  rw[r];exact this
 ·refine⟨by simp [Builtin.lenOf],?_⟩;cases A with
  |none=>
   have:=ar rfl;subst this
   have:n=0:=by simpa using df
   subst this;exact⟨[],by simp [Builtin.firstCells],.nil _ _⟩
  |some a=>
   have aJ:=ay a rfl;have B:=eI es sz eF;have h4:Reads κ (s.aa+1) w' a (es.flatMap ae.cells):=by obtain⟨di,p3,rF⟩:=aJ;exact⟨di,fun j da=>by rw[hw];exact p3 j da,rF⟩
   have hle:n*sz≤(es.flatMap ae.cells).length:=by rw[B];exact fi _ df
   obtain⟨xs,e,aZ⟩:=r7 (P:=P) h4 hle;refine⟨xs,by simp only[Builtin.firstCells];exact e,?_⟩
   have:(es.flatMap ae.cells).take (n*sz)=(es.take n).flatMap ae.cells:=by
    have ch:es.flatMap ae.cells=(es.take n).flatMap ae.cells++(es.drop n).flatMap ae.cells:=by rw[←List.flatMap_append,List.take_append_drop]
    have dk:((es.take n).flatMap ae.cells).length=n*sz:=by rw[eI _ sz (fun e he=>eF e (List.mem_of_mem_take he)),List.length_take,Nat.min_eq_left df]
    rw[ch,←dk,List.take_left]
   rw[←this];exact aZ
theorem BJ(e:Nat):∀(r c:Nat),Builtin.growBy e r c≤max c (e+(e+768)/4):=by
 intro r
 induction r with
 |zero=>intro c;simp only[Builtin.growBy];omega
 |succ r h=>
  intro c;simp only[Builtin.growBy];split
  ·omega
  ·have:=h (c+(c+768)/4);omega
theorem nextslicecap_le{e BK:Nat}(h:BK<e):Builtin.nextslicecap e BK≤2*e+400:=by
 unfold Builtin.nextslicecap;split
 ·omega
 ·split
  ·omega
  ·have:=BJ e 4 BK;omega
structure mP (P:Program) (t t2 el:TypeId) (sz bytes:Nat) (z:Value):Prop where
 d6:P.underlying t=some (.slice el)
 lq:(∃hJ,P.underlying t2=some (.slice hJ))∨P.underlying t2=some .string
 info:∃i,P.info? el=some i∧i.size=sz∧i.bytes=bytes∧i.zero=some z
 YJ:z.cells.size=sz
 fl:0<bytes
 eW:bytes≤1048576
theorem mP.size{t t2 el:TypeId}{sz bytes:Nat}{z:Value}(h:mP P t t2 el sz bytes z):eR P el=some sz:=by obtain⟨i,ar,ay,_⟩:=h.info;simp [eR,ar,ay]
theorem run_append_fits{t t2 el:TypeId}{sz bytes:Nat}{z:Value}(h:mP P t t2 el sz bytes z){base:Option Addr}{fq iK n:Nat}{X:Value}{xs:List Value}(bO:(Builtin.lenOf X).run P w=.ok n w)(aW:(Builtin.firstCells sz n X).run P w=.ok xs.toArray w)(df:fq+n≤iK)
  {w':World}(e:match base with
   |some a=>(storeCells (a.add (fq*sz)) xs).run P w=.ok () w'
   |none=>w'=w):(Builtin.append_ #[t,t2] ty #[.slice base fq iK,X]).run P w=.ok (.slice base (fq+n) iK) w':=by
 cases base with
 |none=>subst e;rcases h.lq with⟨hJ,cF⟩|cF<;> simp [Builtin.append_,run_underlying h.d6,run_underlying cF,eg h.size,bO,aW,df]
 |some a=>simp only at e;rcases h.lq with⟨hJ,cF⟩|cF<;> simp [Builtin.append_,run_underlying h.d6,run_underlying cF,eg h.size,bO,aW,df,e]
theorem iu{t t2 el:TypeId}{sz bytes:Nat}{z:Value}(h:mP P t t2 el sz bytes z){base:Option Addr}{fq iK n:Nat}{X:Value}{os xs:List Value}(bO:(Builtin.lenOf X).run P w=.ok n w)
  (aW:(Builtin.firstCells sz n X).run P w.drew=.ok xs.toArray w.drew)(q:(Builtin.firstCells sz fq (.slice base fq iK)).run P w.drew=.ok os.toArray w.drew)
  (e:xs.length=n*sz)(p:os.length=fq*sz)(df:iK<fq+n)(M:(fq+n)*bytes≤1099511627776):
  ∃cap C,fq+n≤cap∧C.size=cap*sz∧(∀j,j<(fq+n)*sz→C[j]? =(os++xs)[j]?)∧
   (Builtin.append_ #[t,t2] ty #[.slice base fq iK,X]).run P w=.ok (.slice (some ⟨w.heap.size,0,none⟩) (fq+n) cap) (w.drew.alloc (.cells C el)):=by
 obtain⟨i,bN,N,r,y⟩:=h.info;have O:(fq+n)*1≤(fq+n)*bytes:=Nat.mul_le_mul_left _ h.fl;have A:¬(fq+n≤iK):=by omega
 have U:Builtin.nextslicecap (fq+n) iK*bytes≤281474976710656:=by
  have ar:=nextslicecap_le df;have ay:Builtin.nextslicecap (fq+n) iK*bytes≤(2*(fq+n)+400)*bytes:=fi _ ar;have ch:(2*(fq+n)+400)*bytes=2*((fq+n)*bytes)+400*bytes:=by rw[eL,gr]
  have dk:=h.eW;omega
 let cap:=(Question.appendCap (fq+n) iK el).cut (w.tape w.drawn (.appendCap (fq+n) iK el))
 have sb:fq+n≤cap:=by simp only[cap,Question.cut];omega
 let C:Array Value:=os.toArray++xs.toArray++Builtin.zeroCells z.cells (cap-(fq+n))
 have B:C.size=cap*sz:=by
  have dI:(fq+n)*sz+(cap-(fq+n))*sz=cap*sz:=by rw[←eL];congr 1;omega
  have F:fq*sz+n*sz=(fq+n)*sz:=by rw[eL]
  simp only[C,Array.size_append,List.size_toArray,e,p,Builtin.zeroCells,Array.size_map,Array.size_range,h.YJ];omega
 refine⟨cap,C,sb,B,fun j da=>?_,?_⟩
 ·have F:fq*sz+n*sz=(fq+n)*sz:=by rw[eL]
  simp only[C];rw[Array.getElem?_append_left (by simp only[Array.size_append,List.size_toArray,e,p];omega)];simp
 ·have H:¬(9223372036854775807<((fq:Int)+(n:Int))):=by omega
  have I:¬(281474976710656<Builtin.nextslicecap (fq+n) iK*i.bytes):=by rw[r];omega
  have f8:(Question.appendCap (fq+n) iK el).forced=false:=rfl;have J:¬(fq+n≤iK):=A;rcases h.lq with⟨hJ,cF⟩|cF<;> simp [Builtin.append_,run_underlying h.d6,run_underlying cF,eg h.size,typeInfo,bN,bO,J,H,I,f8,aW,q,zeroValue,y,newRow,C,cap]
end
section
variable{P:Program}{ty:TypeId}{ρ:Operand→Value}{κ:a5}{s:ag}{w:World}(aV:cL κ s w)
theorem hB{t t2:TypeId}{x y:Operand}{z:Value}{w':World}(h:(Builtin.append_ #[t,t2] ty #[ρ x,ρ y]).run P w=.ok z w')(dst:Option Tmp)(pos:String)(after:Array Edge)(guard:Option (Nat×Bool)):
  (execOp ρ ⟨dst,.call {callee:=.builtin .append,args:= #[x,y],argTypes:= #[t,t2]},ty,pos,after,guard⟩).run P w=.ok (.value z) w':=by
 simp [execOp,resolve,invoke,builtin,h]
theorem ds.xh{κ':a5}{D d i n sz cap b:Nat}{es:List ae}{xs:List Value}(cF:d<D)(bN:i<κ'.n d)(d6:κ'.kL d i es.length=some (⟨b,0,none⟩,cap,sz))(df:es.length≤cap)(eF:∀e,e∈es→e.cells.length=sz)(aJ:∀e,e∈es→e.low d=true)
  (aZ:d9 κ' D (es.flatMap ae.cells) xs)(ka:∀j,j<(es.flatMap ae.cells).length→κ'.F ⟨b,j,none⟩=xs[j]?)(bO:n=es.length):ds κ' D (.cm sz es (.dW (.g d i))) (.slice (some ⟨b,0,none⟩) n cap):=by
 subst bO;refine .cm sz es _ _ _ (fun j=>xs.getD j undef) ⟨cF,bN,d6⟩ df (fun _=>rfl) eF (.inr ⟨d,i,rfl,aJ⟩) (fun j da=>?_) (fun j c aW=>?_)
 ·rw[fF rfl];simp only[bc];rw[ka j da]
  have:j<xs.length:=by rw[aZ.1];exact da
  simp [List.getD,this]
 ·obtain⟨y,fb,bD⟩:=aZ.get aW
  have:xs.getD j undef=y:=by simp [List.getD,fb]
  rw[this];exact bD
include aV
def Form(κ:a5)(s:ag)(w:World)(v:ae)(X:Value)(sz:Nat)(es:List ae):Prop:=
 (∃eB a,v=.str eB∧X=.string a∧a.data.toList.map UInt8.toNat=eB∧sz=1∧es=eB.map fun b=>.int .u8 (b:Nat))∨
   (∃A c,X=.slice A es.length c∧(A=none→es=[])∧∀a,A=some a→Reads κ (s.aa+1) w a (es.flatMap ae.cells))
theorem p9{t t2 el:TypeId}{sz bytes:Nat}{z:Value}(h:mP P t t2 el sz bytes z){x y:Operand}{es new:List ae}{base:Option Addr}{q:Nat}{Y:ae}(kg:ρ x=.slice base es.length q)(B:Form κ s w Y (ρ y) sz new)(p:∀e,e∈new→e.cells.length=sz)
  (M:(∃A c,ρ x=.slice A es.length c∧(A=none→es=[])∧∀a,A=some a→Reads κ (s.aa+1) w a (es.flatMap ae.cells)))(eF:∀e,e∈es→e.cells.length=sz)(sb:q<es.length+new.length)(N:(es.length+new.length)*bytes≤1099511627776){kf l:Loc}{s':ag}(O:s.hk kf (.tok (es.length+new.length))=some (l,s'))
  (aJ:∀d i,l.aq s.aa=.g d i→∀e,e∈es++new→e.low d=true):
  dB P (.call {callee:=.builtin .append,args:= #[x,y],argTypes:= #[t,t2]}) ty ρ κ s w (.cm sz (es++new) (.dW l)) s':=by
 obtain⟨U,V,bO,F⟩:=hV.by O
 obtain⟨hlen,xs,aW,fG⟩:=e1 (P:=P) B p new.length (aC _) w.drew (fun _=>rfl);have Z:=(e1 (P:=P) B p new.length (aC _) w (fun _=>rfl)).1;obtain⟨_,os,H,r⟩:=e1 (P:=P) (X:=ρ x) (v:=.dead) (.inr M) eF es.length (aC _) w.drew (fun _=>rfl);simp only[List.take_length] at fG r;have ab:xs.length=new.length*sz:=by rw[fG.1,eI new sz p]
 have ac:os.length=es.length*sz:=by rw[r.1,eI es sz eF]
 rw[kg] at H;obtain⟨cap,C,I,ad,af,ah⟩:=iu (ty:=ty) h (base:=base) (fq:=es.length) (iK:=q) Z aW H ab ac sb N;obtain⟨κ',gZ,g9,ai,mh,n7⟩:=aV.DF (w':=w.drew.alloc (.cells C el)) C el (es.length+new.length) sz cap F ad I rfl rfl rfl rfl;refine⟨_,κ',_,.inl (hB (by rw[kg];exact ah)),g9,gZ,?_⟩;simp only[ae.aq,ga.aq,bO];have J:∀e,e∈es++new→e.cells.length=sz:=fun e he=>by
  rcases List.mem_append.1 he with he|he
  ·exact eF e he
  ·exact p e he
 refine ds.xh (Nat.lt_succ_of_le F.le) ai (by rw[f9];exact mh) (by rw[f9];exact I) J (aJ U V bO) (xs:=os++xs) (by rw[List.flatMap_append];exact(r.append fG).mono g9.k) (fun j da=>?_) (by rw[f9]);rw[eI _ sz J,f9] at da;rw[n7 j da,af j da]
theorem sc{t t2 el:TypeId}{sz bytes:Nat}{z:Value}(h:mP P t t2 el sz bytes z){x y:Operand}{es new:List ae}{base:Option Addr}{p:Nat}{Y:ae}(kg:ρ x=.slice base es.length p)(q:ds κ (s.aa+1) (Y.aq s.aa) (ρ y))(iJ:dD s Y=some (sz,new))
  (r:(∃A c,ρ x=.slice A es.length c∧(A=none→es=[])∧∀a,A=some a→Reads κ (s.aa+1) w a (es.flatMap ae.cells)))(eF:∀e,e∈es→e.cells.length=sz)(aJ:∀e,e∈es→e.bj=true)(sb:p<es.length+new.length)(B:(es.length+new.length)*bytes≤1099511627776){kf l:Loc}{s':ag}(F:s.hk kf (.tok (es.length+new.length))=some (l,s')):
  dB P (.call {callee:=.builtin .append,args:= #[x,y],argTypes:= #[t,t2]}) ty ρ κ s w (.cm sz (es++new) (.dW l)) s':=by
 obtain⟨H,I,J⟩:=j1 aV q iJ;refine p9 aV h kg H J r eF sb B F fun d i _ e he=>ae.lp _ _ ?_
 rcases List.mem_append.1 he with he|he
 ·exact aJ e he
 ·exact d5.1 I e he
theorem sd{t t2 el:TypeId}{q bytes:Nat}{z:Value}(h:mP P t t2 el q bytes z){x y:Operand}{es new:List ae}{Y:ae}(O:Form κ s w Y (ρ y) q new)(r:∀e,e∈new→e.cells.length=q)(l2:0<new.length){a:Loc}{s':ag}(kg:ds κ (s.aa+1) (.cm q es (.dW (a.aq s.aa))) (ρ x))
  (H:s.get a=some (.tok es.length))(an:(new.flatMap ae.cells).all ae.eO=true)(I:s.set a (.tok (es.length+new.length))=some s')(ad:rB s a new=true)(ao:(es.length+new.length)*bytes≤1099511627776):
  dB P (.call {callee:=.builtin .append,args:= #[x,y],argTypes:= #[t,t2]}) ty ρ κ s w (.cm q (es++new) (.dW a)) s':=by
 rw[←ag.hA] at H;rw[←ag.kX] at I;rcases kg.hf with⟨_,cE,_⟩|⟨A,cap,di,e,cE,df,aI,dk,B,af,ah⟩
 ·cases cE
 cases p:a.aq s.aa with
 |l i=>cases a<;> simp [Loc.aq] at p
 |g d i=>
  rw[p] at H I cE B;obtain⟨cF,bN,ai⟩:=cE;have ap:∀e,e∈new→e.low d=true:=by
   cases a with
   |l j=>simp only[Loc.aq,Loc.g.injEq] at p;exact ko.1 (p.1 ▸ ad)
   |g e3 j=>simp only[Loc.aq,Loc.g.injEq] at p;exact ko.1 (p.1 ▸ ad)
  have as:∀e,e∈es→e.low d=true:=by
   rcases B with B|⟨e3,gX,hJ,B⟩
   ·exact fun e he=>ae.lp _ _ (B e he)
   ·cases hJ;exact B
  obtain⟨b,aJ,aK,t1,aL,⟨au,nY,av,t3,t4,t5⟩,t6,t7⟩:=aV.obj d i _ H;rw[ai] at t1;simp only[a8,eC] at t1;obtain⟨rfl,rfl,rfl⟩:=t1;have J:∀e,e∈es++new→e.cells.length=q:=fun e he=>by
   rcases List.mem_append.1 he with he|he
   ·exact dk e he
   ·exact r e he
  have aj:∀e,e∈es++new→e.low d=true:=fun e he=>by
   rcases List.mem_append.1 he with he|he
   ·exact as e he
   ·exact ap e he
  have aw:Reads κ (s.aa+1) w ⟨b,0,none⟩ (es.flatMap ae.cells):=⟨di,fun j da=>(aV.h6 _ _ (af j da)).2,ah⟩;have M:=eI es q dk;by_cases N:es.length+new.length≤cap
  ·
   obtain⟨hlen,xs,aW,fG⟩:=e1 (P:=P) O r new.length (aC _) w (fun _=>rfl);simp only[List.take_length] at fG;have U:xs.length=new.length*q:=by rw[fG.1,eI new q r]
   have ax:(es.length+new.length)*q≤au.size:=Nat.le_trans (fi _ N) t4;rw[eL] at ax;have ar:=m3 an fG;have ay:=run_storeCells_cells (P:=P) b (es.length*q) xs 0 w (fun j da=>by rw[e4 t3];simp;omega) (fun j da=>by
    have hu:=t5 (es.length*q+0+j) (by omega);simp only[World.frozen?,t3];rw[Bool.and_eq_false_iff];by_cases ak:av.1≤es.length*q+0+j
    ·right;simp only[decide_eq_false_iff_not];exact fun h=>hu ⟨ak,h⟩
    ·left;simpa using ak) ar
   have az:=run_append_fits (ty:=ty) h (base:=some ⟨b,0,none⟩) (fq:=es.length) (iK:=cap) hlen aW N (w':=w.setCells b (es.length*q) xs) (by
    have aA:(⟨b,0,none⟩:Addr).add (es.length*q)=⟨b,es.length*q,none⟩:=by rw[fF rfl];simp
    simp only[aA];simpa using ay)
   obtain⟨κ',gZ,g9,V,mh⟩:=aV.He H ai I (by omega) N xs (by rw[U];congr 1;omega);refine⟨_,κ',_,.inl (hB (by rw[e];exact az)),g9,gZ,?_⟩;simp only[ae.aq,ga.aq,p];have hold:d9 κ (s.aa+1) (es.flatMap ae.cells) ((List.range (es.length*q)).map di):=by
    refine⟨by simp [M],fun j c x aW aZ=>?_⟩;have da:j<es.length*q:=by rw[←M];exact(ez.1 aW).1
    have:(List.range (es.length*q))[j]? =some j:=by simp [da]
    rw[iy,this] at aZ;simp only[eb,a8] at aZ;exact aZ ▸ ah j c aW
   refine ds.xh cF (fL bN (g9.k.n d cF)) (by rw[f9];exact V) (by rw[f9];exact N) J aj (xs:=(List.range (es.length*q)).map di++xs) (by rw[List.flatMap_append];exact(hold.append fG).mono g9.k) (fun j da=>?_) (by rw[f9]);rw[eI _ q J,f9,eL] at da;by_cases Z:j<es.length*q
   ·rw[g1 (by simpa using Z)];have ab:=g9.k.F _ _ (af j (by rw[M];exact Z));rw[fF rfl] at ab;simp only[bc] at ab;rw[ab];simp [Z]
   ·rw[im (by simp;omega)];obtain⟨m,rfl⟩:∃m,j=es.length*q+m:=⟨j-es.length*q,by omega⟩;have hm:m<xs.length:=by omega
    rw[mh m xs[m] (fB hm)];simp [hm]
  ·
   obtain⟨hlen,xs,aW,fG⟩:=e1 (P:=P) O r new.length (aC _) w.drew (fun _=>rfl);have aB:=(e1 (P:=P) O r new.length (aC _) w (fun _=>rfl)).1;obtain⟨_,os,al,ac⟩:=e1 (P:=P) (X:=ρ x) (v:=.dead) (.inr ⟨some ⟨b,0,none⟩,cap,e,fun p=>(by cases p),fun fz p=>(by cases p;exact aw)⟩) dk es.length (aC _) w.drew (fun _=>rfl);simp only[List.take_length] at fG ac;have U:xs.length=new.length*q:=by rw[fG.1,eI new q r]
   have aD:os.length=es.length*q:=by rw[ac.1,M]
   rw[e] at al;obtain⟨aE,C,am,aF,aG,aH⟩:=iu (ty:=ty) h (base:=some ⟨b,0,none⟩) (fq:=es.length) (iK:=cap) aB aW al U aD (by omega) ao;obtain⟨κ',gZ,g9,V,mh⟩:=aV.Hf (w':=w.drew.alloc (.cells C el)) H I (by omega) C el aE q aF am rfl rfl rfl rfl;refine⟨_,κ',_,.inl (hB (by rw[e];exact aH)),g9,gZ,?_⟩;simp only[ae.aq,ga.aq,p];refine ds.xh cF (fL bN (g9.k.n d cF)) (by rw[f9];exact V) (by rw[f9];exact am) J aj (xs:=os++xs) (by rw[List.flatMap_append];exact(ac.append fG).mono g9.k) (fun j da=>?_) (by rw[f9]);rw[eI _ q J,f9] at da;rw[mh j da,aG j da]
theorem o6{E:Env}(bh:E.F=.not){k:ae→ag→ah}{r:ah}(bg:r≠.fail){t t2 el:TypeId}{sz bytes:Nat}{z:Value}(h:mP P t t2 el sz bytes z){x y:Operand}{X Y:ae}
  (kg:ds κ (s.aa+1) (X.aq s.aa) (ρ x))(U:ds κ (s.aa+1) (Y.aq s.aa) (ρ y)){kf:Loc}(aJ:iD E s k sz bytes kf X Y=r):∃fp s',k fp s'=r∧dB P (.call {callee:=.builtin .append,args:= #[x,y],argTypes:= #[t,t2]}) ty ρ κ s w fp s':=by
 unfold iD at aJ;cases iJ:dD s Y with
 |none=>rw[iJ] at aJ;exact absurd aJ.symm bg
 |some p=>
  obtain⟨aj,new⟩:=p;rw[iJ] at aJ;obtain⟨V,ak,O⟩:=j1 aV U iJ;cases X<;> simp only[ae.aq] at kg<;> simp only[bh,aN.not] at aJ<;> try exact absurd aJ.symm bg
  case cm q es g=>
   obtain⟨I,B⟩:=cP aJ bg;clear aJ;rw[bm,bm] at I;have Z:aj=sz:=c4 I.1.1;have ab:q=sz:=c4 I.1.2;have ac:=dL I.2;subst Z;subst ab;cases new with
   |nil=>
    simp only at B;refine⟨_,_,B,?_⟩;obtain⟨hlen,xs,aW,fG⟩:=e1 (P:=P) V O 0 (aC _) w (fun _=>rfl);have ao:xs=[]:=jT (by rw[fG.1];rfl);subst ao
    have:∃A cap,ρ x=.slice A es.length cap∧es.length≤cap:=by
     rcases kg.hf with⟨rfl,_,e⟩|⟨a,cap,_,e,_,df,_⟩
     ·exact⟨none,0,e,aC _⟩
     ·exact⟨some a,cap,e,df⟩
    obtain⟨A,cap,e,df⟩:=this;have ad:=run_append_fits (ty:=ty) h (base:=A) (fq:=es.length) (iK:=cap) hlen aW (by simpa using df) (w':=w) (by cases A with
     |none=>rfl
     |some a=>simp [storeCells])
    refine bs aV _ (hB (by rw[e];exact ad)) ?_;simp only[ae.aq,cr,Nat.add_zero];rw[←e];exact kg
   |cons et LO=>
    simp only at B;generalize ap:et::LO=new at *;have l2:0<new.length:=by rw[←ap];simp
    cases g with
    |any=>exact absurd B.symm bg
    |nil=>
     simp only at B;cases J:s.hk kf (.tok (es.length+new.length)) with
     |none=>rw[J] at B;exact absurd B.symm bg
     |some p=>
     obtain⟨l,ar⟩:=p;rw[J] at B;refine⟨_,_,B,?_⟩;rcases kg.hf with⟨rfl,_,e⟩|⟨a,cap,_,e,cE,_⟩
     ·exact sc aV h e U iJ ⟨none,0,e,fun _=>rfl,fun a H=>(by cases H)⟩ (fun e he=>by simp at he) (fun e he=>by simp at he) (by simpa using l2) ac J
     ·simp [ga.aq,iF] at cE
    |exact=>
     simp only at B;cases J:s.hk kf (.tok (es.length+new.length)) with
     |none=>rw[J] at B;exact absurd B.symm bg
     |some p=>
     obtain⟨l,ar⟩:=p;rw[J] at B;refine⟨_,_,B,?_⟩;rcases kg.hf with⟨_,cE,_⟩|⟨a,cap,di,e,cE,df,aK,dk,al,am,as⟩
     ·simp [ga.aq] at cE
     ·simp only[ga.aq,iF] at cE;subst cE;exact sc aV h e U iJ ⟨some a,_,e,fun H=>(by cases H),fun fz H=>(by cases H;exact⟨di,fun j da=>(aV.h6 _ _ (am j da)).2,as⟩)⟩ dk (al.left fun d j e=>(by cases e)) (by omega) ac J
    |dW a=>
     simp only at B
     ·rw[←ag.hA] at B;cases H:a.aq s.aa with
      |l i=>cases a<;> simp [Loc.aq] at H
      |g d i=>
       rw[H] at B;cases af:s.get (.g d i) with
       |none=>rw[af] at B;exact absurd B.symm bg
       |some o=>
        rw[af] at B;cases o<;> try exact absurd B.symm bg
        rename_i n;obtain⟨ai,N⟩:=cP B bg;rw[bm] at ai;have au:n=es.length:=c4 ai.1;subst au;rw[←ag.kX,H] at N;cases M:s.set (.g d i) (.tok (es.length+new.length)) with
        |none=>rw[M] at N;exact absurd N.symm bg
        |some s'=>
         rw[M] at N;refine⟨_,_,N,?_⟩;have av:s.get a=some (.tok es.length):=by rw[←ag.hA,H];exact af
         have aw:s.set a (.tok (es.length+new.length))=some s':=by rw[←ag.kX,H];exact M
         refine sd aV h V O l2 kg av ai.2 aw ?_ ac;unfold rB;cases a<;> exact ae.ik _ _ ak
  case cD a off len cap q=>
   rw[←ag.hA] at aJ;cases H:a.aq s.aa with
   |l i=>cases a<;> simp [Loc.aq] at H
   |g d i=>
    rw[H] at aJ kg;obtain⟨lh,e,cF,bN,aL,tS⟩:=kg.jq;cases cE:s.get (.g d i) with
    |none=>rw[cE] at aJ;exact absurd aJ.symm bg
    |some o=>
     rw[cE] at aJ;cases o<;> try exact absurd aJ.symm bg
     rename_i cs;obtain⟨I,B⟩:=cP aJ bg;simp only[bm] at I;obtain⟨⟨⟨⟨⟨ax,ay⟩,az⟩,aA⟩,aM⟩,aB⟩:=I;have Z:aj=sz:=c4 ax;have ab:q=sz:=c4 ay;subst Z;subst ab;have ch:=dL az;have dk:=dL aA;rw[←ag.kX,H] at B;have an:=eI new q O;cases M:s.set (.g d i) (.cells (dO cs (off+len*q) (new.flatMap ae.cells))) with
     |none=>rw[M] at B;exact absurd B.symm bg
     |some s'=>
      rw[M] at B;refine⟨_,_,B,?_⟩;obtain⟨hlen,xs,aW,fG⟩:=e1 (P:=P) V O new.length (aC _) w (fun _=>rfl);simp only[List.take_length] at fG;have hmul:off+(len+new.length)*q=off+len*q+new.length*q:=by rw[eL];omega
      have aO:xs.length=new.length*q:=by rw[fG.1,an]
      have tN:ae.a6 (new.flatMap ae.cells)=true:=d5.2 (fun c aW=>by obtain⟨hJ,aD,aE⟩:=List.mem_flatMap.1 aW;exact hU (d5.1 ak hJ aD) aE)
      have aF:=mr H fG (by simp [ag.h8,tN]);obtain⟨gZ,g9⟩:=aV.store cE M aF (by rw[an];omega);have aG:=mO (P:=P) aV cE (off:=off+len*q) (xs:=xs) (by omega) (m3 aB fG);have aH:lh=cap:=by
       rcases tS with h|⟨al,am,_⟩
       ·exact h
       ·omega
      subst aH;have ad:=run_append_fits (ty:=ty) h (base:=some ⟨κ.loc d i,off,none⟩) (fq:=len) (iK:=lh) hlen aW ch (w':=w.setCells (κ.loc d i) (off+len*q) xs) (by
       have aI:(⟨κ.loc d i,off,none⟩:Addr).add (len*q)=⟨κ.loc d i,off+len*q,none⟩:=by rw[fF rfl]
       simp only[aI];exact aG)
      refine⟨_,κ,_,.inl (hB (by rw[e];exact ad)),g9,gZ,?_⟩;simp only[ae.aq,H];exact .cD d i off _ lh lh q cF bN ch (.inl rfl)
theorem tT{E:Env}(bh:E.F=.not){k:ae→ag→ah}{r:ah}(bg:r≠.fail){t t2 el:TypeId}{sz bytes:Nat}{z:Value}(h:mP P t t2 el sz bytes z){x y:Operand}{X Y:ae}
  (kg:ds κ (s.aa+1) (X.aq s.aa) (ρ x))(V:ds κ (s.aa+1) (Y.aq s.aa) (ρ y)){kf:Loc}(aJ:jF E s k sz bytes kf X Y=r):∃fp s',k fp s'=r∧dB P (.call {callee:=.builtin .append,args:= #[x,y],argTypes:= #[t,t2]}) ty ρ κ s w fp s':=by
 unfold jF at aJ;cases Y<;> simp only[ae.aq] at V<;> simp only[bh,aN.not] at aJ<;> try exact absurd aJ.symm bg
 rename_i ad new ao;cases X<;> simp only[ae.aq] at kg<;> try exact absurd aJ.symm bg
 rename_i q es g;obtain⟨M,B⟩:=cP aJ bg;clear aJ;rw[bm,bm] at M;have af:ad=sz:=c4 M.1.1;have ai:q=sz:=c4 M.1.2;have Z:=dL M.2;subst af;subst ai;have aj:Form κ s w .dead (ρ y) q new∧∀e,e∈new→e.cells.length=q:=by
  rcases V.hf with⟨rfl,_,e⟩|⟨a,cap,di,e,_,_,_,dk,_,ak,al⟩
  ·exact⟨.inr ⟨none,0,e,fun _=>rfl,fun a I=>(by cases I)⟩,fun e he=>(by simp at he)⟩
  ·exact⟨.inr ⟨some a,cap,e,fun I=>(by cases I),fun fz I=>(by cases I;exact⟨di,fun j da=>(aV.h6 _ _ (ak j da)).2,al⟩)⟩,dk⟩
 obtain⟨ab,ac⟩:=aj;cases new with
 |nil=>exact absurd B.symm bg
 |cons et LO=>
  simp only at B;generalize am:et::LO=new at *;have l2:0<new.length:=by rw[←am];simp
  cases g with
  |any=>exact absurd B.symm bg
  |exact=>exact absurd B.symm bg
  |nil=>
   simp only at B;obtain⟨J,H⟩:=cP B bg;cases A:s.hk kf (.tok (es.length+new.length)) with
   |none=>rw[A] at H;exact absurd H.symm bg
   |some p=>
   obtain⟨l,ap⟩:=p;rw[A] at H;refine⟨_,_,H,?_⟩;rcases kg.hf with⟨rfl,_,e⟩|⟨a,cap,_,e,cE,_⟩
   ·refine p9 aV h e ab ac ⟨none,0,e,fun _=>rfl,fun a I=>(by cases I)⟩ (fun e he=>by simp at he) (by simpa using l2) Z A fun d i bO e he=>?_
    simp only[List.nil_append] at he;have cF:rB s kf new=true→∀e,e∈new→e.low d=true:=by
     intro J;cases kf with
     |l j=>simp only[ag.hk,a8,eC] at A;obtain⟨rfl,_⟩:=A;simp only[Loc.aq,Loc.g.injEq] at bO;exact ko.1 (bO.1 ▸ J)
     |g e3 j=>
      simp only[ag.hk] at A;split at A
      ·rename_i ar;simp only[a8,eC] at A;obtain⟨rfl,_⟩:=A;simp only[Loc.aq,Loc.g.injEq] at bO
       have:e3=d:=by omega
       exact ko.1 (this ▸ J)
      ·split at A
       ·split at A
        ·simp only[a8,eC] at A;obtain⟨rfl,_⟩:=A;simp only[Loc.aq,Loc.g.injEq] at bO;exact ko.1 (bO.1 ▸ J)
        ·cases A
       ·cases A
    exact cF J e he
   ·simp [ga.aq,iF] at cE
  |dW a=>
   simp only at B;cases O:s.get a with
   |none=>rw[O] at B;exact absurd B.symm bg
   |some o=>
    rw[O] at B;cases o<;> try exact absurd B.symm bg
    rename_i n;obtain⟨N,H⟩:=cP B bg;rw[bm,bm] at N;have an:n=es.length:=c4 N.1.1;subst an;cases U:s.set a (.tok (es.length+new.length)) with
    |none=>rw[U] at H;exact absurd H.symm bg
    |some s'=>rw[U] at H;exact⟨_,_,H,sd aV h ab ac l2 kg O N.1.2 U N.2 Z⟩
theorem pB{G:Nat→ae}{an:Nat→ae}{a:Act}(bI:vj κ s an a)(dM:jR κ G){t el:TypeId}{sz:Nat}{z:List ae}{eo:List br}{r:List Operand}(d6:P.underlying t=some (.slice el))(eF:eR P el=some sz)(hr:jy P el z=true)(F:z.length=sz)
  (gC:¬(r.length*sz>2^24))(A:dp eo r=true){es:List ae}(B:eo.map (fun x=>(ap G an x).aq s.aa)=es)(aJ:ae.kc s.aa es=true)(bD:∀e,e∈es→e.fj=true∧e.cells.length=sz):
  dB P (.buildSlice t r.length (r.zipIdx.map fun p=>(p.2,p.1)).toArray) ty a.eval κ s w (.cm sz es (.dW (.l s.own.length))) (s.new (.tok es.length)):=by
 obtain⟨v,e,ar,_,_⟩:=kt hr w;have U:v.cells.size=sz:=by rw[←Array.length_toList,(ar κ 0).1,F]
 have hlen:es.length=r.length:=by
  have:∀(eo:List br) (r:List Operand),dp eo r=true→eo.length=r.length:=by
   intro eo
   induction eo with
   |nil=>intro r h;cases r<;> simp [dp] at h ⊢
   |cons p eo H=>intro r h;cases r with
    |nil=>simp [dp] at h
    |cons q r=>simp only[dp,bm] at h;simp [H r h.2]
  simp [←B,this eo r A]
 obtain⟨xs,hJ,fG⟩:=mq bI dM sz eo r 0 es [] ((Array.range (r.length*sz)).map (v.cells[· % v.cells.size]!)).toList A B.symm bD (by simp) (by simp);have I:∀dst pos after guard,(execOp a.eval ⟨dst,.buildSlice t r.length (r.zipIdx.map fun p=>(p.2,p.1)).toArray,ty,pos,after,guard⟩).run P w=.ok (.value (.slice (some ⟨w.heap.size,0,none⟩) r.length r.length)) (w.alloc (.cells xs.toArray el)):=by
  intro dst pos after guard;simp only[List.nil_append,Array.toArray_toList] at hJ;have J:=k8 (parts:=((r.zipIdx.map fun p=>(p.2,p.1)).toArray.map fun p=>(p.1,a.eval p.2))) d6 eF e gC (xs:=xs.toArray) (by rw[Array.toList_map,List.map_map];exact hJ)
  have aZ:∀(o:Oper),o.op=.buildSlice t r.length (r.zipIdx.map fun p=>(p.2,p.1)).toArray→execOp a.eval o=(do pure (.value (←Instr.buildSlice t r.length ((r.zipIdx.map fun p=>(p.2,p.1)).toArray.map fun p=>(p.1,a.eval p.2)))):Sem Next):=by intro o M;unfold execOp;rw[M]
  rw[aZ _ rfl,Sem.run_bind,J];rfl
 have y:∀e,e∈es→e.cells.length=sz:=fun e he=>(bD e he).2
 have N:xs.length=es.length*sz:=by rw[fG.1,eI _ sz y]
 obtain⟨κ',gZ,g9,O,mh,n7⟩:=aV.DF (w':=w.alloc (.cells xs.toArray el)) xs.toArray el es.length sz es.length (hV.new s _) (by simpa using N) (aC _) rfl rfl rfl rfl;refine⟨_,κ',_,.inl I,g9,gZ,?_⟩;simp only[ae.aq,ga.aq,Loc.aq];rw[←hlen];refine ds.xh (Nat.lt_succ_self _) O mh (aC _) y (ko.1 aJ) (xs:=xs) (fG.mono g9.k) (fun j da=>?_) rfl;rw[eI _ sz y] at da;rw[n7 j da];simp
theorem pC{G:Nat→ae}{an:Nat→ae}{a:Act}(bI:vj κ s an a)(dM:jR κ G){t el:TypeId}{sz:Nat}{z:List ae}{eo:List br}{r:List Operand}(d6:P.underlying t=some (.slice el))(eF:eR P el=some sz)(hr:jy P el z=true)(B:z.length=sz)
  (gC:¬(r.length*sz>2^24))(y:dp eo r=true){es:List ae}(A:eo.map (fun x=>(ap G an x).aq s.aa)=es)(bD:∀e,e∈es→e.fj=true∧e.cells.length=sz):
  dB P (.buildSlice t r.length (r.zipIdx.map fun p=>(p.2,p.1)).toArray) ty a.eval κ s w (.cD (.l s.own.length) 0 es.length es.length sz) (s.new (.cells (es.flatMap ae.cells))):=by
 obtain⟨v,e,ar,_,_⟩:=kt hr w;have N:v.cells.size=sz:=by rw[←Array.length_toList,(ar κ 0).1,B]
 have hlen:es.length=r.length:=by
  have:∀(eo:List br) (r:List Operand),dp eo r=true→eo.length=r.length:=by
   intro eo
   induction eo with
   |nil=>intro r h;cases r<;> simp [dp] at h ⊢
   |cons p eo F=>intro r h;cases r with
    |nil=>simp [dp] at h
    |cons q r=>simp only[dp,bm] at h;simp [F r h.2]
  simp [←A,this eo r y]
 obtain⟨xs,hJ,fG⟩:=mq bI dM sz eo r 0 es [] ((Array.range (r.length*sz)).map (v.cells[· % v.cells.size]!)).toList y A.symm bD (by simp) (by simp);have H:∀dst pos after guard,(execOp a.eval ⟨dst,.buildSlice t r.length (r.zipIdx.map fun p=>(p.2,p.1)).toArray,ty,pos,after,guard⟩).run P w=.ok (.value (.slice (some ⟨w.heap.size,0,none⟩) r.length r.length)) (w.alloc (.cells xs.toArray el)):=by
  intro dst pos after guard;simp only[List.nil_append,Array.toArray_toList] at hJ;have I:=k8 (parts:=((r.zipIdx.map fun p=>(p.2,p.1)).toArray.map fun p=>(p.1,a.eval p.2))) d6 eF e gC (xs:=xs.toArray) (by rw[Array.toList_map,List.map_map];exact hJ)
  have aZ:∀(o:Oper),o.op=.buildSlice t r.length (r.zipIdx.map fun p=>(p.2,p.1)).toArray→execOp a.eval o=(do pure (.value (←Instr.buildSlice t r.length ((r.zipIdx.map fun p=>(p.2,p.1)).toArray.map fun p=>(p.1,a.eval p.2)))):Sem Next):=by intro o J;unfold execOp;rw[J]
  rw[aZ _ rfl,Sem.run_bind,I];rfl
 obtain⟨κ',gZ,g9,M,mh⟩:=aV.n4 (es.flatMap ae.cells) xs.toArray el (by simpa using fG) (w':=w.alloc (.cells xs.toArray el)) rfl rfl rfl rfl;refine⟨_,κ',_,.inl H,g9,gZ,?_⟩;simp only[ae.aq,Loc.aq];rw[←M,←hlen];exact .cD _ _ _ _ _ _ _ (Nat.lt_succ_self _) mh (aC _) (.inl rfl)
end
theorem cL.tU{κ κ':a5}{s:ag}{w:World}(aV:cL κ s w)(o:cO)(c3:f6 κ κ' (s.aa+1))(df:∀d,κ'.n d=if d=s.aa then κ.n d+1 else κ.n d)(B:∀d i m,i<κ.n d→κ'.kL d i m=κ.kL d i m)(ka:κ'.F=κ.F)
  (H:wh κ' s.aa s.own.length w o)(A:∀b,aT κ' s.aa s.own.length o=some b→¬Live κ s b):cL κ' (s.new o) w:=by
 have y:=hV.new s o;have key:∀d i o,s.get (.g d i)=some o→wh κ' d i w o∧aT κ' d i o=aT κ d i o:=fun d i o h=>(aV.obj d i o h).bC (aV.mn h) (c3.low (by have:=ag.fR h;omega)) (fun m=>B d i m (aV.mn h)) (fun b I=>⟨rfl,fun x=>by rw[ka]⟩)
 refine⟨fun a v h=>aV.h6 a v (ka ▸ h),fun d l h=>?_,fun d i o' h=>?_,fun d i q e3 gX r b h p e hJ=>?_⟩
 ·rw[y.an] at h;rw[df];split at h
  ·rename_i cF;cases bg:s.an d with
   |none=>rw[bg] at h;cases h
   |some l'=>rw[bg] at h;simp only[eb,a8] at h;rw[←h,if_pos cF,←aV.len d l' bg];simp
  ·rename_i cF;rw[if_neg cF];exact aV.len d l h
 ·rw[y.get] at h;split at h
  ·rename_i aW;obtain⟨rfl,rfl⟩:=aW;simp only[a8] at h;exact h ▸ H
  ·exact(key d i o' h).1
 ·rw[y.get] at h p;split at h
  ·rename_i aW;obtain⟨rfl,rfl⟩:=aW;simp only[a8] at h;subst h;split at p
   ·rename_i kr;exact⟨kr.1.symm,kr.2.symm⟩
   ·rw[(key e3 gX r p).2] at hJ;exact absurd ⟨e3,gX,r,p,hJ⟩ (A b e)
  ·split at p
   ·rename_i kr;obtain⟨rfl,rfl⟩:=kr;simp only[a8] at p;subst p;rw[(key d i q h).2] at e;exact absurd ⟨d,i,q,h,e⟩ (A b hJ)
   ·rw[(key d i q h).2] at e;rw[(key e3 gX r p).2] at hJ;exact aV.inj d i q e3 gX r b h p e hJ
theorem cL.yL{κ:a5}{s:ag}{w:World}(aV:cL κ s w){i:Nat}{o:cO}(cE:s.own[i]? =some o):cL κ {s with own:=s.own.set i .gone} w∧e0 κ s w κ {s with own:=s.own.set i .gone} w:=by
 have p:s.get (.g s.aa i)=some o:=by simp [ag.get,cE]
 exact aV.setObj p (o':=.gone) (by simp [ag.set]) (.refl _ _) rfl (fun _ _ _ _=>rfl) (fun a v h=>aV.h6 a v h) (fun b e e6=>⟨rfl,fun _=>rfl⟩) (aC _) rfl rfl rfl trivial (fun b e=>by simp [aT] at e)
def a5.row(κ:a5)(D I b n cap sz:Nat):a5:=
 {κ with n:=fun d=>if d=D then κ.n d+1 else κ.n d,loc:=fun d i=>if d=D∧i=I then b else κ.loc d i,kL:=fun d i m=>if d=D∧i=I then(if m=n then some (⟨b,0,none⟩,cap,sz) else none) else κ.kL d i m}
theorem f6.row{κ:a5}{D I b n cap sz:Nat}(e:I=κ.n D)(E:Nat):f6 κ (κ.row D I b n cap sz) E:=by
 have e6:∀d i,i<κ.n d→¬(d=D∧i=I):=by
  rintro d i bN ⟨rfl,rfl⟩
  omega
 refine⟨fun _ _ h=>h,fun d _=>?_,fun d i _ bN=>?_,fun d i n x _ bN h=>?_⟩
 ·simp only[a5.row];split<;> omega
 ·simp only[a5.row];rw[if_neg (e6 d i bN)]
 ·simp only[a5.row];rw[if_neg (e6 d i bN)];exact h
theorem cL.newRow{κ:a5}{s:ag}{w w':World}(aV:cL κ s w)(cs:List ae)(xs:List Value)(C:Array Value)(e:TypeId)(n sz cap:Nat)(aZ:d9 κ (s.aa+1) cs xs)(ke:C.size=cap*sz)(hle:cs.length≤C.size)(da:∀j,j<cs.length→C[j]? =xs[j]?)
  (hw:w'.heap=w.heap.push (.cells C e (0,0)))(q:w'.os=w.os)(d6:w'.tape=w.tape)(hu:w'.output=w.output):
  cL (κ.row s.aa s.own.length w.heap.size n cap sz) (s.new (.cells cs)) w'∧e0 κ s w (κ.row s.aa s.own.length w.heap.size n cap sz) (s.new (.cells cs)) w':=by
 have r:s.own.length=κ.n s.aa:=aV.len s.aa s.own (by simp [ag.an]);have c3:f6 κ (κ.row s.aa s.own.length w.heap.size n cap sz) (s.aa+1):=f6.row r _;have y:w'.heap[w.heap.size]? =some (.cells C e (0,0)):=by rw[hw];simp
 have A:C.toList.take cs.length=xs:=by
  apply List.ext_getElem?;intro j;rw[List.getElem?_take];split
  ·rename_i B;rw[←da j B];simp
  ·rw[List.getElem?_eq_none (by rw[aZ.1];omega)]
 exact aV.newObj (w':=w') (.cells cs) c3 (hV.new s _) (fun d=>rfl) (fun d i m bN=>if_neg (by rintro ⟨rfl,rfl⟩;omega)) (.inl rfl) (fun b p=>by rw[hw,Array.getElem?_push];simp [Nat.ne_of_lt p]) (by rw[hw];simp) q d6 hu
  ⟨⟨C,e,(0,0),by simp [a5.row,y],fun j _=>by simp,by rw[A];exact aZ.mono c3,fun m b c z h=>by
   simp only[a5.row,and_self,if_true] at h;split at h
   ·simp only[a8,eC] at h;obtain⟨_,rfl,rfl⟩:=h;omega
   ·cases h⟩,fun o=>aV.py (by simp [a5.row])⟩ (fun b p=>by simp [aT,a5.row] at p;omega)
theorem cL.rename{κ:a5}{s:ag}{w:World}(aV:cL κ s w){i n m cap sz:Nat}{cs:List ae}(cE:s.own[i]? =some (.cells cs))(F:κ.kL s.aa i m=some (⟨κ.loc s.aa i,0,none⟩,cap,sz)):
  cL (κ.row s.aa s.own.length (κ.loc s.aa i) n cap sz) {s with own:=s.own.set i .gone++[.cells cs]} w∧e0 κ s w (κ.row s.aa s.own.length (κ.loc s.aa i) n cap sz) {s with own:=s.own.set i .gone++[.cells cs]} w:=by
 have H:s.own.length=κ.n s.aa:=aV.len s.aa s.own (by simp [ag.an]);have c3:f6 κ (κ.row s.aa s.own.length (κ.loc s.aa i) n cap sz) (s.aa+1):=f6.row H _;have bN:i<s.own.length:=(ez.1 cE).1;have q:s.get (.g s.aa i)=some (.cells cs):=by simp [ag.get,cE]
 obtain⟨ar,ay⟩:=aV.yL cE;obtain⟨⟨C,e,ix,dY,I,J,o7⟩,M⟩:=aV.obj _ _ _ q;have r:(κ.row s.aa s.own.length (κ.loc s.aa i) n cap sz).loc s.aa s.own.length=κ.loc s.aa i:=by simp [a5.row]
 have N:wh (κ.row s.aa s.own.length (κ.loc s.aa i) n cap sz) s.aa s.own.length w (.cells cs):=by
  refine⟨⟨C,e,ix,by rw[r];exact dY,I,J.mono c3,fun iS b c z h=>?_⟩,fun o=>by rw[r];exact M o⟩;simp only[a5.row,and_self,if_true] at h;split at h
  ·simp only[a8,eC] at h;obtain⟨_,rfl,rfl⟩:=h;exact o7 m _ _ _ F
  ·cases h
 have key:=ar.tU (κ':=κ.row s.aa s.own.length (κ.loc s.aa i) n cap sz) (.cells cs) c3 (fun d=>rfl) (fun d gX iS af=>if_neg (by rintro ⟨ch,dk⟩;have p:d=s.aa:=ch;subst p;have ah:gX=s.own.length:=dk;omega)) rfl (by
   show wh _ s.aa (s.own.set i .gone).length w _;rw[List.length_set];exact N) (fun b y=>by
   have O:b=κ.loc s.aa i:=by have:aT (κ.row s.aa s.own.length (κ.loc s.aa i) n cap sz) s.aa (s.own.set i .gone).length (.cells cs)=some b:=y;rw[List.length_set] at this;simp only[aT,r,a8] at this;exact this.symm
   subst O
   rintro ⟨e3,gX,o',ch,dk⟩
   have U:=ag.p1 (s:=s) (s':={s with own:=s.own.set i .gone}) (d:=s.aa) (i:=i) (o:=.gone) (by simp [ag.set]) q e3 gX;rw[U] at ch;split at ch
   ·simp only[a8] at ch;subst ch;simp [aT] at dk
   ·rename_i e6;obtain⟨A,B⟩:=aV.inj e3 gX o' s.aa i _ _ ch q dk rfl;exact e6 ⟨A,B⟩)
 refine⟨key,⟨c3,rfl,aC _,rfl,rfl,rfl,fun _ _ _=>rfl,fun b y bO=>?_,fun a V=>.inl V⟩⟩;obtain⟨e3,gX,o',ch,dk⟩:=bO;have Y:=(hV.new {s with own:=s.own.set i .gone} (.cells cs)).get e3 gX;have p:(({s with own:=s.own.set i .gone}:ag).new (.cells cs)).get (.g e3 gX)=some o':=ch;rw[Y] at p;split at p
 ·rename_i aW;simp only[a8] at p;subst p;obtain⟨A,B⟩:=aW;have Z:gX=s.own.length:=by rw[B];simp
  have ab:e3=s.aa:=A;subst Z ab;simp only[aT,r,a8] at dk;exact⟨s.aa,i,_,q,by simp [aT,dk]⟩
 ·rename_i aW;have ai:=ar.mn p;have aj:=ag.fR p;have ac:aT κ e3 gX o'=some b:=by
   have e6:¬(e3=s.aa∧gX=s.own.length):=by rintro ⟨ad,ak⟩;subst ad;omega
   cases o' with
   |cells al=>simp only[aT,a5.row,if_neg e6] at dk ⊢;exact dk
   |map es=>simp only[aT,a5.row,if_neg e6] at dk ⊢;exact dk
   |tok k=>simp only[aT,a5.row,if_neg e6] at dk ⊢;exact dk
   |gone=>simp [aT] at dk
  exact ay.live b y ⟨e3,gX,o',p,ac⟩
theorem cL.Hi{κ:a5}{s:ag}{w:World}(aV:cL κ s w){i len cap sz:Nat}{cs:List ae}(cE:s.own[i]? =some (.cells cs))(aW:cap*sz≤cs.length)(bO:len≤cap):
  ∃C e ix,w.heap[κ.loc s.aa i]? =some (.cells C e ix)∧d9 κ (s.aa+1) cs (C.toList.take cs.length)∧
   cL ((κ.freeze (κ.loc s.aa i) 0 (C.extract 0 (len*sz))).row s.aa s.own.length (κ.loc s.aa i) len cap sz) {s with own:=s.own.set i .gone++[.tok len]} w∧
   e0 κ s w ((κ.freeze (κ.loc s.aa i) 0 (C.extract 0 (len*sz))).row s.aa s.own.length (κ.loc s.aa i) len cap sz) {s with own:=s.own.set i .gone++[.tok len]} w:=by
 have B:s.get (.g s.aa i)=some (.cells cs):=by simp [ag.get,cE]
 have bN:i<s.own.length:=(ez.1 cE).1;obtain⟨⟨C,e,ix,dY,Z,N,o7⟩,O⟩:=aV.obj _ _ _ B;have aq:cs.length≤C.size:=by have:=N.1;simp at this;omega
 have as:len*sz≤C.size:=Nat.le_trans (fi _ bO) (by omega);have bh:(C.extract 0 (len*sz)).size=len*sz:=by simp;omega
 refine⟨C,e,ix,dY,N,?_⟩;obtain⟨p,A⟩:∃p:a5,p=κ.freeze (κ.loc s.aa i) 0 (C.extract 0 (len*sz)):=⟨_,rfl⟩;obtain⟨ar,ay⟩:cL p {s with own:=s.own.set i .gone} w∧e0 κ s w p {s with own:=s.own.set i .gone} w:=by
  subst A;refine aV.setObj B (o':=.gone) (by simp [ag.set]) (f6.freeze (fun j _=>O j) _) rfl (fun _ _ _ _=>rfl) (fun a v h=>?_) (fun b _ y=>⟨rfl,fun x=>?_⟩) (aC _) rfl rfl rfl trivial (fun b y=>by simp [aT] at y)
  ·simp only[a5.freeze] at h;split at h
   ·rename_i aW;refine⟨aW.2.1,?_⟩;have H:a=⟨κ.loc s.aa i,a.off,none⟩:=by cases a;simp_all
    have dk:=aW.2.2.2;rw[bh] at dk;rw[H,e4 dY];rw[Array.getElem?_extract] at h;split at h
    ·simpa using h
    ·cases h
   ·exact aV.h6 a v h
  ·simp only[aT,ne_eq,a8] at y;simp [a5.freeze,Ne.symm y]
 rw[←A];have ab:∀d,p.n d=κ.n d:=fun d=>by rw[A];rfl
 have U:∀d j,p.loc d j=κ.loc d j:=fun d j=>by rw[A];rfl
 have ac:∀d j m,p.kL d j m=κ.kL d j m:=fun d j m=>by rw[A];rfl
 have ad:s.own.length=p.n s.aa:=by rw[ab];exact aV.len s.aa s.own (by simp [ag.an])
 have V:f6 p (p.row s.aa s.own.length (κ.loc s.aa i) len cap sz) (s.aa+1):=f6.row ad _;have c3:f6 κ (p.row s.aa s.own.length (κ.loc s.aa i) len cap sz) (s.aa+1):=ay.k.trans V;have I:(p.row s.aa s.own.length (κ.loc s.aa i) len cap sz).kL s.aa s.own.length len=some (⟨κ.loc s.aa i,0,none⟩,cap,sz):=by simp [a5.row]
 have af:wh (p.row s.aa s.own.length (κ.loc s.aa i) len cap sz) s.aa s.own.length w (.tok len):=by
  refine⟨κ.loc s.aa i,cap,sz,I,bO,⟨C,e,ix,dY,by omega,Z⟩,fun o au=>?_,fun m hm=>?_⟩
  ·show p.F _=none;rw[A];simp only[a5.freeze];rw[if_neg]
   ·exact O o
   ·rintro ⟨_,_,_,q⟩
    rw[bh] at q;omega
  ·simp only[a5.row,and_self,if_true];rw[if_neg (by omega)]
 have key:=ar.tU (κ':=p.row s.aa s.own.length (κ.loc s.aa i) len cap sz) (.tok len) V (fun d=>rfl) (fun d gX iS av=>if_neg (by rintro ⟨ch,dk⟩;have r:d=s.aa:=ch;subst r;have Y:gX=s.own.length:=dk;omega)) rfl (by
   show wh _ s.aa (s.own.set i .gone).length w _;rw[List.length_set];exact af) (fun b y=>by
   have ah:b=κ.loc s.aa i:=by have:aT (p.row s.aa s.own.length (κ.loc s.aa i) len cap sz) s.aa (s.own.set i .gone).length (.tok len)=some b:=y;rw[List.length_set] at this;simp only[aT,I,eb,a8] at this;exact this.symm
   subst ah
   rintro ⟨e3,gX,o',ch,dk⟩
   have ai:=ag.p1 (s:=s) (s':={s with own:=s.own.set i .gone}) (d:=s.aa) (i:=i) (o:=.gone) (by simp [ag.set]) B e3 gX;rw[ai] at ch;split at ch
   ·simp only[a8] at ch;subst ch;simp [aT] at dk
   ·rename_i e6;have Y:aT κ e3 gX o'=some (κ.loc s.aa i):=by
     cases o' with
     |cells aj=>simp only[aT,U] at dk ⊢;exact dk
     |map es=>simp only[aT,U] at dk ⊢;exact dk
     |tok k=>simp only[aT,ac] at dk ⊢;exact dk
     |gone=>simp [aT] at dk
    obtain⟨J,M⟩:=aV.inj e3 gX o' s.aa i _ _ ch B Y rfl;exact e6 ⟨J,M⟩)
 refine⟨key,⟨c3,rfl,aC _,rfl,rfl,rfl,fun _ _ _=>rfl,fun b y bO=>?_,fun a H=>ay.nX a H⟩⟩;obtain⟨e3,gX,o',ch,dk⟩:=bO;have ak:=(hV.new {s with own:=s.own.set i .gone} (.tok len)).get e3 gX;have r:(({s with own:=s.own.set i .gone}:ag).new (.tok len)).get (.g e3 gX)=some o':=ch;rw[ak] at r;split at r
 ·rename_i aW;simp only[a8] at r;subst r;obtain⟨J,M⟩:=aW;have al:gX=s.own.length:=by rw[M];simp
  have am:e3=s.aa:=J;subst al am;simp only[aT,I,eb,a8] at dk;exact⟨s.aa,i,_,B,by simp [aT,dk]⟩
 ·rename_i aW;have aw:=ar.mn r;have ax:=ag.fR r;have ao:aT p e3 gX o'=some b:=by
   have e6:¬(e3=s.aa∧gX=s.own.length):=by rintro ⟨ap,az⟩;subst ap;omega
   cases o' with
   |cells aj=>simp only[aT,a5.row,if_neg e6] at dk ⊢;exact dk
   |map es=>simp only[aT,a5.row,if_neg e6] at dk ⊢;exact dk
   |tok k=>simp only[aT,a5.row,if_neg e6] at dk ⊢;exact dk
   |gone=>simp [aT] at dk
  exact ay.live b y ⟨e3,gX,o',r,ao⟩
section
variable{P:Program}{ty:TypeId}{ρ:Operand→Value}{κ:a5}{s:ag}{w:World}(aV:cL κ s w)
include aV
theorem yM{E:Env}(bh:E.F=.not){k:ae→ag→ah}{r:ah}(bg:r≠.fail){t t2 el:TypeId}{sz:Nat}(d6:P.underlying t=some (.slice el))(hr:eR P el=some sz){x y:Operand}{X Y:ae}(f8:∀a off len cap q,X=.cD a off len cap q→q=sz)
  (kg:ds κ (s.aa+1) (X.aq s.aa) (ρ x))(N:ds κ (s.aa+1) (Y.aq s.aa) (ρ y))(aJ:copyV E s k X Y=r):∃fp s',k fp s'=r∧dB P (.call {callee:=.builtin .copy,args:= #[x,y],argTypes:= #[t,t2]}) ty ρ κ s w fp s':=by
 cases X<;> simp only[ae.aq] at kg<;> simp only[copyV] at aJ<;> try exact absurd aJ.symm bg
 rename_i a off len cap q;obtain rfl:=f8 _ _ _ _ _ rfl;cases iJ:dD s Y with
 |none=>rw[iJ] at aJ;exact absurd aJ.symm bg
 |some p=>
  obtain⟨h,es⟩:=p;rw[iJ] at aJ;obtain⟨O,U,I⟩:=j1 aV N iJ;simp only at aJ;rw[←ag.hA] at aJ;cases B:a.aq s.aa with
  |l i=>cases a<;> simp [Loc.aq] at B
  |g d i=>
   rw[B] at aJ kg;obtain⟨lh,e,cF,bN,_⟩:=kg.jq;cases cE:s.get (.g d i) with
   |none=>rw[cE] at aJ;exact absurd aJ.symm bg
   |some o=>
    rw[cE] at aJ;cases o<;> try exact absurd aJ.symm bg
    rename_i cs;simp only[bh,aN.not] at aJ;obtain⟨J,A⟩:=cP aJ bg;simp only[bm] at J;obtain⟨⟨V,Z⟩,ab⟩:=J;have ac:h=q:=c4 V;subst ac;have ay:=dL Z;rw[←ag.kX,B] at A;obtain⟨hlen,xs,aW,fG⟩:=e1 (P:=P) O I (min es.length len) (Nat.min_le_left _ _) w (fun _=>rfl);have M:((es.take (min es.length len)).flatMap ae.cells).length=min es.length len*h:=by rw[eI _ h (fun e he=>I e (List.mem_of_mem_take he)),List.length_take];congr 1;omega
    have hmul:min es.length len*h≤len*h:=fi _ (Nat.min_le_right _ _);have tN:ae.a6 ((es.take (min es.length len)).flatMap ae.cells)=true:=d5.2 (fun c aW=>by obtain⟨hJ,ad,af⟩:=List.mem_flatMap.1 aW;exact hU (d5.1 U hJ (List.mem_of_mem_take ad)) af)
    cases H:s.set (.g d i) (.cells (dO cs off ((es.take (min es.length len)).flatMap ae.cells))) with
    |none=>rw[H] at A;exact absurd A.symm bg
    |some s'=>
     rw[H] at A;refine⟨_,_,A,?_⟩;have ak:xs.length=min es.length len*h:=by rw[fG.1,M]
     have ai:=mr B fG (by simp [ag.h8,tN]);obtain⟨gZ,g9⟩:=aV.store cE H ai (by rw[M];omega);have aj:=mO (P:=P) aV cE (off:=off) (xs:=xs) (by omega) (m3 ab fG);have al:Nat.min es.length len=min es.length len:=rfl;refine⟨.int .i64 (min es.length len:Nat),κ,_,.inl (fun _ _ _ _=>?_),g9,gZ,.int _ _⟩;simp only[execOp,resolve,invoke,builtin,List.map_toArray,fM,List.map_nil,Sem.run_bind,Sem.run_pure,Result.andThen_ok]
     have:(Builtin.copy_ #[t,t2] ty #[ρ x,ρ y]).run P w=.ok (goInt (min es.length len:Nat)) (w.setCells (κ.loc d i) off xs):=by simp [Builtin.copy_,run_underlying d6,e,hlen,eg hr,aW,aj]
     simp [this,goInt]
omit aV in
theorem yN(s:ag)(v:ae):(mI s v).aq s.aa=v.aq s.aa:=by
 unfold mI;split
 ·rename_i d i o l c z;cases h:Nat.beq d s.aa with
  |true=>rw[c4 h];rfl
  |false=>rfl
 ·rfl
theorem qa{E:Env}(bh:E.F=.not){k:ae→ag→ah}{r:ah}(bg:r≠.fail){o:Op}{x:Operand}(N:∀dst pos after guard,(execOp ρ ⟨dst,o,ty,pos,after,guard⟩).run P w=.ok (.value (ρ x)) w){v:ae}
  (aZ:ds κ (s.aa+1) (v.aq s.aa) (ρ x))(aJ:kI E s k v=r):∃fp s',k fp s'=r∧dB P o ty ρ κ s w fp s':=by
 unfold kI at aJ;rw[←yN s v] at aZ;generalize mI s v=u at aJ aZ;cases u<;> try exact absurd aJ.symm bg
 rename_i a off len cap sz;cases a with
 |g d i=>exact absurd aJ.symm bg
 |l i=>
  cases off with
  |succ off=>exact absurd aJ.symm bg
  |zero=>
   simp only at aJ;cases cE:s.own[i]? with
   |none=>rw[cE] at aJ;exact absurd aJ.symm bg
   |some mM=>
    rw[cE] at aJ;cases mM<;> try exact absurd aJ.symm bg
    rename_i cs;simp only[bh,aN.not] at aJ;obtain⟨p,O⟩:=cP aJ bg;simp only[bm,Bool.not_eq_true'] at p;obtain⟨⟨⟨⟨eW,U⟩,V⟩,q⟩,A⟩:=p;have hr:sz≠0:=fun eU=>by rw[eU] at q;simp at q
    have ai:len≠0:=fun eU=>by rw[eU] at A;simp at A
    have B:=dL U;have H:=dL V;simp only[ae.aq,Loc.aq] at aZ;obtain⟨lh,e,cF,bN,sQ,tS⟩:=aZ.jq;have Y:lh=cap:=by rcases tS with ar|⟨ar,ay,_⟩<;> omega
    subst Y;obtain⟨C,el,ix,dY,I,Z,J⟩:=aV.Hi cE B H;have aj:s.own.length=κ.n s.aa:=aV.len s.aa s.own (by simp [ag.an]);have ak:cs.length≤C.size:=by have:=I.1;simp at this;omega
    have ab:len*sz≤cs.length:=Nat.le_trans (fi _ H) B;obtain⟨M,ac⟩:=j0 sz hr len cs ab;have ad:(C.extract 0 (len*sz)).size=len*sz:=by simp;omega
    refine⟨_,_,O,ρ x,_,_,.inl N,J,Z,?_⟩;rw[e];have key:ds ((κ.freeze (κ.loc s.aa i) 0 (C.extract 0 (len*sz))).row s.aa s.own.length (κ.loc s.aa i) len lh sz) (s.aa+1) (.cm sz (chunk sz len cs) (.dW (.g s.aa s.own.length))) (.slice (some ⟨κ.loc s.aa i,0,none⟩) (chunk sz len cs).length lh):=by
     refine .cm sz _ _ _ _ (fun j=>C.getD j undef) ?_ (by rw[e5];exact sQ) (fun _=>rfl) ac (.inl fun e he=>d5.1 eW e he) (fun j da=>?_) (fun j c aW=>?_)
     ·rw[e5];refine⟨by omega,?_,by simp [a5.row]⟩;show s.own.length<_;simp only[a5.row,if_true];show _<κ.n s.aa+1;omega
     ·rw[M] at da;simp at da;have h:j<C.size:=by omega
      rw[fF rfl];show(κ.freeze (κ.loc s.aa i) 0 (C.extract 0 (len*sz))).F ⟨κ.loc s.aa i,0+j,none⟩=_;rw[bc,nu (Nat.zero_le _) (by rw[ad];omega)];simp [Array.getD,h]
     ·rw[M,List.getElem?_take] at aW;split at aW
      ·obtain⟨y,fb,bD⟩:=I.get aW;have h:j<cs.length:=(ez.1 aW).1
       have:C.getD j undef=y:=by
        rw[List.getElem?_take,if_pos h] at fb;have af:C[j]? =some y:=by simpa using fb
        simp [Array.getD_eq_getD_getElem?,af]
       rw[this];exact bD.mono J.k
      ·cases aW
    rw[e5] at key;exact key
theorem qb{E:Env}(bh:E.F=.not){k:ae→ag→ah}{r:ah}(bg:r≠.fail){src dst el:TypeId}{x:Operand}{v:ae}(A:P.underlying src=some .string)(B:P.underlying dst=some (.slice el))(iJ:P.underlying el=some (.int .u8))
  (aZ:ds κ (s.aa+1) (v.aq s.aa) (ρ x))(aJ:gW E s k v=r):∃fp,k fp s=r∧dB P (.convert src dst x) ty ρ κ s w fp s:=by
 cases v<;> simp only[ae.aq] at aZ<;> simp only[gW,bh,aN.not] at aJ<;> try exact absurd aJ.symm bg
 rename_i eB;refine⟨_,aJ,?_⟩;obtain⟨a,ex,p⟩:=aZ.hW;have eF:a.size=eB.length:=by have:=congrArg List.length p;rw[ht,Array.length_toList] at this;exact this
 let cap:=grownCap w a.size 0 el
 let C:Array Value:=bytesRow a cap
 have sb:a.size≤cap:=by simp only[cap,grownCap,Question.cut];omega
 have J:C.size=cap:=by
  simp only[C,bytesRow,Array.size_append,Array.size_map,Array.size_replicate]
  have:a.data.size=a.size:=rfl;omega
 have e:=run_bytes_of_string (P:=P) w src dst el a A B iJ;obtain⟨gZ,g9⟩:=aV.p0 (w':=w.drew.alloc (.cells C el (C.size,C.size+1))) C el (C.size,C.size+1) rfl rfl rfl rfl;refine⟨.slice (some ⟨w.heap.size,0,none⟩) a.size cap,_,_,.inl (fun _ _ _ _=>?_),g9,gZ,?_⟩
 ·simp only[execOp,ex];simp [e,C,cap]
 ·simp only[ae.aq,ga.aq];have y:(eB.map fun b=>ae.int .u8 (b:Nat)).flatMap ae.cells=eB.map fun b=>ae.int .u8 (b:Nat):=by
   clear aJ eF p aZ
   induction eB with
   |nil=>rfl
   |cons x l H=>simp [List.flatMap_cons,H,ae.cells]
  have vE:(eB.map fun b=>ae.int .u8 (b:Nat)).length=a.size:=by rw[ht,eF]
  rw[←vE];refine .cm 1 _ .any _ _ (fun j=>C.getD j undef) trivial (by rw[vE];exact sb) (fun _=>rfl) (fun e he=>?_) (.inl fun e he=>?_) (fun j da=>?_) (fun j c aW=>?_)
  ·obtain⟨b,_,rfl⟩:=List.mem_map.1 he;rfl
  ·obtain⟨b,_,rfl⟩:=List.mem_map.1 he;rfl
  ·rw[y,vE] at da;rw[fF rfl];simp only[bc];rw[nu (Nat.zero_le _) (by omega)];simp [Array.getD,show j<C.size by omega]
  ·rw[y,iy] at aW;cases h:eB[j]? with
   |none=>rw[h] at aW;cases aW
   |some b=>
    rw[h] at aW;simp only[eb,a8] at aW;subst aW;rw[←p,iy] at h;cases f8:a.data.toList[j]? with
    |none=>rw[f8] at h;cases h
    |some q=>
     rw[f8] at h;simp only[eb,a8] at h;have da:j<a.data.size:=by have:=(ez.1 f8).1;simpa using this
     have:C[j]? =some (.int .u8 q.toNat):=by
      have I:a.data[j]? =some q:=by simpa using f8
      show(a.data.map (fun b=>Value.int .u8 b.toNat)++Array.replicate (cap-a.size) (.int .u8 0))[j]? =_;rw[Array.getElem?_append_left (by rw[Array.size_map];exact da),Array.getElem?_map,I];rfl
     simp only[Array.getD_eq_getD_getElem?,this,Option.getD_some,h];exact .int _ _
end
theorem o8:∀(es:List ae) (eB:List Nat),hR es=some eB→∃g2:List Int,es=g2.map (ae.int .u8)∧eB=g2.map Int.toNat∧∀n,n∈g2→n.toNat<256
 |[],eB,h=>by simp only[hR,a8] at h;subst h;exact⟨[],rfl,rfl,fun _ df=>by cases df⟩
 |e::es,eB,h=>by
  unfold hR at h;split at h
  ·rename_i p;simp at p
  ·rename_i n y p;simp only[List.cons.injEq] at p;obtain⟨rfl,rfl⟩:=p;split at h
   ·rename_i r;cases q:hR es with
    |none=>rw[q] at h;cases h
    |some l=>
     rw[q] at h;simp only[eb,a8] at h;subst h;obtain⟨g2,ar,ay,ch⟩:=o8 es l q;exact⟨n::g2,by rw[ar];rfl,by rw[ay];rfl,fun m hm=>by
      rcases List.mem_cons.1 hm with rfl |hm
      ·exact r
      ·exact ch m hm⟩
   ·cases h
  ·cases h
theorem foldl_push:∀(g2:List Int) (s:ByteArray),(g2.foldl (fun r n=>r.push (UInt8.ofNat n.toNat)) s).data.toList=s.data.toList++g2.map fun n=>UInt8.ofNat n.toNat
 |[],s=>by simp
 |n::g2,s=>by simp only[List.foldl_cons];rw[foldl_push g2];simp [ByteArray.push]
section
variable{P:Program}{ty:TypeId}{ρ:Operand→Value}{κ:a5}{s:ag}{w:World}(aV:cL κ s w)
include aV
theorem qc{E:Env}(bh:E.F=.not){k:ae→ag→ah}{r:ah}(bg:r≠.fail){src dst el:TypeId}{x:Operand}{v:ae}(y:P.underlying src=some (.slice el))(iJ:P.underlying el=some (.int .u8))(B:P.underlying dst=some .string)
  (aZ:ds κ (s.aa+1) (v.aq s.aa) (ρ x))(aJ:gk E s k v=r):∃fp,k fp s=r∧dB P (.convert src dst x) ty ρ κ s w fp s:=by
 have e6:∀eB,v≠.str eB:=fun eB h=>by subst h;exact absurd aJ.symm bg
 have h4:(match dD s v with
  |some (_,es)=>pQ E s k ((hR es).map .str)
  |none=>.fail)=r:=by
  unfold gk at aJ;split at aJ
  ·exact absurd aJ.symm bg
  ·exact aJ
 cases e:dD s v with
 |none=>rw[e] at h4;exact absurd h4.symm bg
 |some p=>
  obtain⟨z,es⟩:=p;rw[e] at h4;simp only at h4;cases q:hR es with
  |none=>rw[q] at h4;exact absurd h4.symm bg
  |some eB=>
   rw[q] at h4;simp only[eb,pQ,bh,aN.not] at h4;refine⟨_,h4,?_⟩;obtain⟨g2,ar,ay,ch⟩:=o8 es eB q;obtain⟨N,_,_⟩:=j1 aV aZ e;rcases N with⟨O,a,rfl,_⟩|⟨A,c,kg,H,I⟩
   ·exact absurd rfl (e6 O)
   have J:es.flatMap ae.cells=g2.map (ae.int .u8):=by
    rw[ar];clear ar ay ch q e I H kg
    induction g2 with
    |nil=>rfl
    |cons n g2 U=>simp [List.flatMap_cons,U,ae.cells]
   have hlen:es.length=g2.length:=by rw[ar,ht]
   have M:(g2.map fun n=>UInt8.ofNat n.toNat).map UInt8.toNat=eB:=by rw[ay,List.map_map];refine List.map_congr_left (fun n df=>?_);simp only[Function.comp,UInt8.toNat_ofNat'];exact g7 (ch n df)
   cases A with
   |none=>
    have:es=[]:=H rfl;have V:g2=[]:=jT (by rw[←hlen,this];rfl);subst V;refine bs aV (.string .empty) (fun _ _ _ _=>?_) ?_
    ·simp only[execOp,kg];have dI:=run_convert_bytes_string (P:=P) w src dst el none es.length c y iJ B;have Y:(Conv.bytesToString (.slice none es.length c)).run P w=.ok (.string .empty) w:=by simp [Conv.bytesToString]
     rw[Y] at dI;simp [dI]
    ·exact .str _ _ (by rw[←M];rfl)
   |some a=>
    obtain⟨di,p3,rF⟩:=I a rfl;have Z:∀j v,(g2.map (Value.int .u8))[j]? =some v→w.cell? (a.add j)=some v:=fun j v da=>by
     rw[iy] at da;cases f8:g2[j]? with
     |none=>rw[f8] at da;cases da
     |some n=>
      rw[f8] at da;simp only[eb,a8] at da;have tB:=(ez.1 f8).1;rw[p3 j (by rw[J,ht];exact tB)]
      have:=rF j (.int .u8 n) (by rw[J,iy,f8];rfl);rw[this.ef,←da]
    have bO:=run_loadCells_list (P:=P) w a (g2.map (Value.int .u8)) Z;rw[ht,←hlen] at bO;refine bs aV _ (fun _ _ _ _=>?_) (.str _ (g2.foldl (fun r n=>r.push (UInt8.ofNat n.toNat)) ByteArray.empty) ?_)
    ·simp only[execOp,kg];have dI:=run_convert_bytes_string (P:=P) w src dst el (some a) es.length c y iJ B;rw[run_bytesToString w a es.length c g2 bO] at dI;simp [dI]
    ·rw[foldl_push];rw[List.map_append,M];rfl
end
def kh:vn→TypeDesc→Bool
 |.int k,.int lk=>decide (k=lk)
 |.str,.string=>true
 |.bool,.bool=>true
 |_,_=>false
theorem ds.yO{κ:a5}{D:Nat}{v:ae}{x:Value}(h:ds κ D v x){d:Nat}:v.aq d=v:=by
 cases h<;> try rfl
 rename_i sz es g a cap di cE ar ay ch dk e p;cases g<;> try rfl
 rename_i l;cases l with
 |l i=>exact absurd cE (by simp [iF])
 |g d i=>rfl
theorem DH{κ:a5}{D:Nat}{kb:vn}{d:TypeDesc}{x:ae}{X:Value}(cF:kh kb d=true)(c3:isKey kb x=true)(aZ:ds κ D x X):MapKept.IsKey d X:=by
 cases kb<;> cases d<;> simp [kh] at cF<;> cases x<;> simp [isKey] at c3
 ·subst cF;subst c3;rw[aZ.ef];rfl
 ·obtain⟨s,rfl,_⟩:=aZ.hW;trivial
 ·rw[aZ.gB];trivial
theorem tV{κ:a5}{D:Nat}{kb:vn}{d:TypeDesc}{x y:ae}{X Y:Value}{b:Bool}(cF:kh kb d=true)(c3:isKey kb x=true)(aZ:ds κ D x X)(fb:ds κ D y Y)(h:rA x y=some b):Instr.sameNow d X Y=some b∧(b=true→X=Y):=by
 unfold rA at h;split at h
 ·rename_i k a lk fz;split at h
  ·rename_i q;subst q;simp only[a8] at h;rw[aZ.ef,fb.ef];cases kb<;> simp [isKey] at c3;cases d<;> simp [kh] at cF;refine⟨by simp [Instr.sameNow,←h],fun p=>?_⟩;subst p;simp at h;rw[h]
  ·cases h
 ·rename_i a fz;simp only[a8] at h;obtain⟨s,rfl,aV⟩:=aZ.hW;obtain⟨s',rfl,r⟩:=fb.hW;cases kb<;> simp [isKey] at c3;cases d<;> simp [kh] at cF;have key:s=s'↔a=fz:=by
   rw[←aV,←r];constructor
   ·rintro rfl;rfl
   ·intro e
    have:=(List.map_inj_right (f:=UInt8.toNat) (fun a b h=>UInt8.toNat_inj.1 h)).1 e;cases s;cases s';simp at this;rw[this]
  refine⟨?_,fun p=>?_⟩
  ·simp only[Instr.sameNow,a8];rw[←h,Bool.eq_iff_iff,MapKept.bytes_beq,key];simp
  ·subst p;simp at h;rw[key.2 h]
 ·simp only[a8] at h;rw[aZ.gB,fb.gB];cases kb<;> simp [isKey] at c3;cases d<;> simp [kh] at cF;refine⟨by simp [Instr.sameNow,←h],fun p=>?_⟩;subst p;simp at h;rw[h]
 ·cases h
theorem lU.s7{κ:a5}{D:Nat}{p:ae×ae}{es:List (ae×ae)}{l:List MapEntry}(h:lU κ D (p::es) l):∃e l',l=e::l'∧ds κ D p.1 e.key∧ds κ D p.2 e.val∧lU κ D es l':=by
 cases l with
 |nil=>exact absurd h.1 (by simp)
 |cons e l'=>refine⟨e,l',rfl,(h.2 0 p e rfl rfl).1,(h.2 0 p e rfl rfl).2,by have:=h.1;simpa using this,fun j q f f8 bg=>h.2 (j+1) q f (by simpa using f8) (by simpa using bg)⟩
theorem n8{κ:a5}{D:Nat}{kb:vn}{d:TypeDesc}{x:ae}{X:Value}(cF:kh kb d=true)(c3:isKey kb x=true)(aZ:ds κ D x X):∀(es:List (ae×ae)) (l:List MapEntry) (i:Nat) (r:Option ae),lU κ D es l→findKey x es=some r→
  (r=none∧Instr.findNow d X l i=some none)∨∃v j e,r=some v∧Instr.findNow d X l i=some (some (i+j,e.val))∧l[j]? =some e∧e.key=X∧ds κ D v e.val
 |[],l,i,r,hm,h=>by have:l=[]:=jT hm.1;subst this;simp only[findKey,a8] at h;exact .inl ⟨h.symm,rfl⟩
 |(y,v)::es,l,i,r,hm,h=>by
  obtain⟨e,l',rfl,fb,bD,A⟩:=hm.s7;simp only[findKey] at h;cases p:rA x y with
  |none=>rw[p] at h;cases h
  |some b=>
   rw[p] at h;obtain⟨ar,ay⟩:=tV cF c3 aZ fb p;cases b with
   |true=>simp only[a8] at h;exact .inr ⟨v,0,e,h.symm,by simp [Instr.findNow,ar],rfl,(ay rfl).symm,bD⟩
   |false=>
    simp only at h;rcases n8 cF c3 aZ es l' (i+1) r A h with⟨dI,q⟩|⟨fp,j,hJ,dI,q,B,F,H⟩
    ·exact .inl ⟨dI,by simp [Instr.findNow,ar,q]⟩
    ·refine .inr ⟨fp,j+1,hJ,dI,?_,by simpa using B,F,H⟩;simp [Instr.findNow,ar,q];omega
theorem o9{κ:a5}{D:Nat}{kb:vn}{d:TypeDesc}{x v:ae}{X V:Value}(cF:kh kb d=true)(c3:isKey kb x=true)(aZ:ds κ D x X)(bD:ds κ D v V):∀(es:List (ae×ae)) (l:List MapEntry) (i:Nat) (r:List (ae×ae)),lU κ D es l→putKey x v es=some r→
  (Instr.findNow d X l i=some none∧∀clock,lU κ D r (l++[{key:=X,val:=V,born:=clock}]))∨∃j e,Instr.findNow d X l i=some (some (i+j,e.val))∧l[j]? =some e∧e.key=X∧lU κ D r (l.set j {e with key:=X,val:=V})
 |[],l,i,r,hm,h=>by
  have:l=[]:=jT hm.1;subst this;simp only[putKey,a8] at h;subst h;refine .inl ⟨rfl,fun clock=>⟨rfl,fun j p e gb he=>?_⟩⟩;cases j with
  |zero=>simp at gb he;subst gb;subst he;exact⟨aZ,bD⟩
  |succ j=>simp at gb
 |(y,u)::es,l,i,r,hm,h=>by
  obtain⟨e,l',rfl,fb,hu,H⟩:=hm.s7;simp only[putKey] at h;cases A:rA x y with
  |none=>rw[A] at h;cases h
  |some b=>
   rw[A] at h;obtain⟨ar,ay⟩:=tV cF c3 aZ fb A;cases b with
   |true=>
    simp only[a8] at h;subst h;refine .inr ⟨0,e,by simp [Instr.findNow,ar],rfl,(ay rfl).symm,by have:=hm.1;simpa using this,fun j p q gb f8=>?_⟩;cases j with
    |zero=>simp at gb f8;subst gb;subst f8;exact⟨by rw[ay rfl];exact fb,bD⟩
    |succ j=>exact H.2 j p q (by simpa using gb) (by simpa using f8)
   |false=>
    simp only at h;cases gb:putKey x v es with
    |none=>rw[gb] at h;cases h
    |some B=>
     rw[gb] at h;simp only[eb,a8] at h;subst h;have cons:∀{I},lU κ D B I→lU κ D ((y,u)::B) (e::I):=fun J=>by
      refine⟨by simp [J.1],fun j p q gb f8=>?_⟩;cases j with
      |zero=>simp at gb f8;subst gb;subst f8;exact⟨fb,hu⟩
      |succ j=>exact J.2 j p q (by simpa using gb) (by simpa using f8)
     rcases o9 cF c3 aZ bD es l' (i+1) B H gb with⟨dI,F⟩|⟨j,hJ,dI,F,M,N⟩
     ·exact .inl ⟨by simp [Instr.findNow,ar,dI],fun clock=>by simpa using cons (F clock)⟩
     ·refine .inr ⟨j+1,hJ,?_,by simpa using F,M,by simpa using cons N⟩;simp [Instr.findNow,ar,dI];omega
section
variable{P:Program}{ty:TypeId}{ρ:Operand→Value}{κ:a5}{s:ag}{w:World}(aV:cL κ s w)
include aV
theorem tW{E:Env}(bh:E.F=.not){k:ae→ag→ah}{r:ah}(bg:r≠.fail){t:TypeId}{b:Option Loc}(aJ:lG E s k b=r):∃fp s',k fp s'=r∧dB P (.makeMap t none) ty ρ κ s w fp s':=by
 unfold lG at aJ;cases b with
 |none=>exact absurd aJ.symm bg
 |some b=>
  simp only at aJ;cases e:s.hk b (.map []) with
  |none=>rw[e] at aJ;exact absurd aJ.symm bg
  |some p=>
   obtain⟨l,s'⟩:=p;rw[e] at aJ;simp only[bh,aN.not] at aJ;obtain⟨q,y,bO,h⟩:=hV.by e
   obtain⟨κ',gZ,g9,A,mh⟩:=aV.LK (w':=w.alloc (.map #[] 0)) h rfl rfl rfl rfl;refine⟨_,_,aJ,.map (some w.heap.size),κ',w.alloc (.map #[] 0),.inl (fun dst pos after guard=>?_),g9,gZ,?_⟩
   ·simp [execOp,Instr.makeMap,Result.andThen]
   ·simp only[ae.aq,bO];rw[←A];exact .map q y (Nat.lt_succ_of_le h.le) mh
theorem vF{E:Env}(bh:E.F=.not){k:ae→ag→ah}{r:ah}(bg:r≠.fail){o:Op}{t J ab:TypeId}{d:TypeDesc}{kb:vn}(d6:P.underlying t=some (.map J ab))(p:P.underlying J=some d)(cF:kh kb d=true){m x v:ae}{M X V:Value}
  (hm:ds κ (s.aa+1) (m.aq s.aa) M)(aZ:ds κ (s.aa+1) x X)(bD:ds κ (s.aa+1) v V)(N:∀dst pos after guard,execOp ρ ⟨dst,o,ty,pos,after,guard⟩=(do Instr.mapUpdate t M X V;pure .skip:Sem Next))(aJ:kU E s k kb m x v=r):
  ∃fp s',k fp s'=r∧dB P o ty ρ κ s w fp s':=by
 cases m<;> simp only[kU] at aJ<;> try exact absurd aJ.symm bg
 rename_i a;simp only[ae.aq] at hm;rw[←ag.hA] at aJ;cases y:a.aq s.aa with
 |l i=>cases a<;> simp [Loc.aq] at y
 |g e i=>
  rw[y] at aJ hm;have ac:M=.map (some (κ.loc e i))∧e<s.aa+1∧i<κ.n e:=by cases hm;exact⟨rfl,by assumption,by assumption⟩
  obtain⟨rfl,he,bN⟩:=ac;cases cE:s.get (.g e i) with
  |none=>rw[cE] at aJ;exact absurd aJ.symm bg
  |some mM=>
   rw[cE] at aJ;cases mM<;> try exact absurd aJ.symm bg
   rename_i es;simp only[bh,aN.not] at aJ;obtain⟨A,h⟩:=cP aJ bg;simp only[bm] at A;cases gb:putKey x v es with
   |none=>rw[gb] at h;exact absurd h.symm bg
   |some O=>
    rw[gb] at h;simp only at h;rw[←ag.kX,y] at h;cases B:s.set (.g e i) (.map O) with
    |none=>rw[B] at h;exact absurd h.symm bg
    |some s'=>
     rw[B] at h;obtain⟨eZ,clock,ar,ay⟩:=aV.obj e i _ cE;have U:=mr y (d9.cons aZ (d9.cons bD (d9.nil _ _))) A.2;have Y:=U.2 0 x X rfl rfl;have ad:=U.2 1 v V rfl rfl;have I:=DH cF A.1.1 Y;rcases o9 cF A.1.1 Y ad es eZ.toList 0 O ay gb with⟨dI,H⟩|⟨j,Z,dI,H,af,ai⟩
     ·obtain⟨gZ,g9⟩:=aV.DE (eZ:=eZ.push {key:=X,val:=V,born:=clock}) (clock:=clock+1) cE B (by simpa using H clock);refine⟨_,_,h,undef,κ,_,.inr ⟨fun dst pos after guard=>?_,rfl⟩,g9,gZ,.dead _⟩;rw[N];simp [Instr.mapUpdate,run_underlying d6,MapKept.run_getObj_map ar,MapKept.run_checkKey p I,MapKept.run_findKey p dI,MapKept.run_setObj_map _ ar,Result.andThen]
     ·have da:eZ[j]? =some Z:=by simpa using H
      obtain⟨gZ,g9⟩:=aV.DE (eZ:=eZ.modify j fun e=>{e with key:=X,val:=V}) (clock:=clock) cE B (by
       have:(eZ.modify j fun e=>{e with key:=X,val:=V}).toList=eZ.toList.set j {Z with key:=X,val:=V}:=by
        apply List.ext_getElem?;intro q;simp only[Array.getElem?_toList,Array.getElem?_modify,List.getElem?_set];by_cases f8:j=q
        ·subst f8;have aj:j<eZ.toList.length:=(ez.1 H).1;rw[if_pos rfl,if_pos rfl,if_pos aj,da];rfl
        ·simp [f8]
       rw[this];exact ai)
      refine⟨_,_,h,undef,κ,_,.inr ⟨fun dst pos after guard=>?_,rfl⟩,g9,gZ,.dead _⟩;rw[N];simp only[bc] at dI;have ak:(eZ[j]?.map MapEntry.key).getD X=X:=by rw[da];exact af
      simp [Instr.mapUpdate,run_underlying d6,MapKept.run_getObj_map ar,MapKept.run_checkKey p I,MapKept.run_findKey p dI,MapKept.run_setObj_map _ ar,ak,MapKept.run_keyThatStays I,Result.andThen]
theorem vG{E:Env}(bh:E.F=.not){k:ae→ag→ah}{r:ah}(bg:r≠.fail){t ad J:TypeId}{x y:Operand}{d:TypeDesc}{kb:vn}{ok:Bool}{zero:ae}{i:TypeInfo}{Z:Value}(d6:P.underlying t=some (.map ad J))(H:P.underlying ad=some d)(cF:kh kb d=true)
  (bN:P.info? J=some i)(ak:i.zero=some Z)(hr:gY zero Z=true){m u:ae}
  (hm:ds κ (s.aa+1) (m.aq s.aa) (ρ x))(aZ:ds κ (s.aa+1) u (ρ y))(aJ:kV E s k kb zero ok m u=r):∃fp,k fp s=r∧dB P (.lookup t x y ok) ty ρ κ s w fp s:=by
 unfold kV at aJ;obtain⟨af,h⟩:=cP aJ bg;clear aJ;have M:=DH cF af aZ;have ai:(zeroValue J).run P w=.ok Z w:=by simp [zeroValue,typeInfo,bN,ak]
 cases A:entriesOf s m with
 |none=>rw[A] at h;exact absurd h.symm bg
 |some es=>
  rw[A] at h;simp only[bh,aN.not] at h;have al:∃l:Array MapEntry,lU κ (s.aa+1) es l.toList∧((ρ x=.map none∧l= #[])∨∃q clock,ρ x=.map (some q)∧w.heap[q]? =some (.map l clock)):=by
   cases m<;> simp only[entriesOf] at A<;> try cases A
   ·rename_i a;simp only[ae.aq] at hm;rw[←ag.hA] at A;cases B:a.aq s.aa with
    |l j=>cases a<;> simp [Loc.aq] at B
    |g e j=>
     rw[B] at A hm;have I:ρ x=.map (some (κ.loc e j))∧e<s.aa+1:=by generalize ρ x=q at hm;cases hm;exact⟨rfl,by assumption⟩
     cases cE:s.get (.g e j) with
     |none=>rw[cE] at A;cases A
     |some mM=>
      rw[cE] at A;cases mM<;> simp only[a8] at A<;> try cases A
      obtain⟨eZ,clock,ar,ay⟩:=aV.obj e j _ cE;refine⟨eZ,⟨ay.1,fun q p N gb aj=>⟨((ay.2 q p N gb aj).1).up (by have:=I.2;omega),((ay.2 q p N gb aj).2).up (by have:=I.2;omega)⟩⟩,?_⟩;exact .inr ⟨_,clock,I.1,ar⟩
   ·have I:ρ x=.map none:=by
     simp only[ae.aq] at hm;generalize ρ x=q at hm;cases hm;rfl
    exact⟨#[],⟨rfl,fun q p N gb=>by simp at gb⟩,.inl ⟨I,rfl⟩⟩
  obtain⟨l,bO,am⟩:=al;have hex:∀(a:Option (Nat×Value)) (V:Value),Instr.findNow d (ρ y) l.toList 0=some a→V=(match a with |some (_,v)=>v|none=>Z)→∀dst pos after guard,(execOp ρ ⟨dst,.lookup t x y ok,ty,pos,after,guard⟩).run P w=.ok (.value (if ok then .tuple #[V,.bool a.isSome] else V)) w:=by
   intro a V B O dst pos after guard;have dI:(Instr.lookup t (ρ x) (ρ y) ok).run P w=.ok (if ok then .tuple #[V,.bool a.isSome] else V) w:=by
    rcases am with⟨e,rfl⟩|⟨q,clock,e,ar⟩
    ·cases a with
     |none=>simp [Instr.lookup,run_underlying d6,e,MapKept.run_checkKey H M,MapKept.run_findKey H B,ai,O,Result.andThen]
     |some p=>simp [Instr.findNow] at B
    ·cases a with
     |none=>simp [Instr.lookup,run_underlying d6,e,MapKept.run_getObj_map ar,MapKept.run_checkKey H M,MapKept.run_findKey H B,ai,O,Result.andThen]
     |some p=>simp [Instr.lookup,run_underlying d6,e,MapKept.run_getObj_map ar,MapKept.run_checkKey H M,MapKept.run_findKey H B,O,Result.andThen]
   simp only[execOp,Sem.run_bind,dI,Result.andThen];rfl
  cases U:findKey u es with
  |none=>rw[U] at h;exact absurd h.symm bg
  |some an=>
   rw[U] at h;obtain⟨Y,ao⟩:=nv zero Z hr;rcases n8 cF af aZ es l.toList 0 an bO U with⟨rfl,ab⟩|⟨v,j,e,rfl,ab,ap,as,ac⟩
   ·simp only at h;refine⟨_,h,bs aV _ (hex none Z ab rfl) ?_⟩;cases ok with
    |true=>have:d9 κ (s.aa+1) [zero,.bool false] [Z,.bool false]:=.cons (Y _ _) (.cons (.bool _) (.nil _ _));exact .d7 _ _ this.1 this.2
    |false=>simp only[cond_false,bL,↓reduceIte];rw[(Y κ (s.aa+1)).yO];exact Y _ _
   ·simp only at h;refine⟨_,h,bs aV _ (hex _ e.val ab rfl) ?_⟩;cases ok with
    |true=>have:d9 κ (s.aa+1) [v,.bool true] [e.val,.bool true]:=.cons ac (.cons (.bool _) (.nil _ _));exact .d7 _ _ this.1 this.2
    |false=>simp only[cond_false,bL,↓reduceIte];rw[ac.yO];exact ac
end
abbrev vH(ro:Option Nat):Fence:={Fence.wide with round:=ro}
structure g3 (l:Nat) (κ:a5) (s:ag) (w:World) (κ':a5) (s':ag) (w':World):Prop where
 k:f6 κ κ' (s.aa+1)
 aa:s'.aa=s.aa
 size:w.heap.size≤w'.heap.size
 os:w'.os=w.os
 tape:w'.tape=w.tape
 output:w'.output=w.output
 kq:∀b,b<w.heap.size→b≠l→¬Live κ s b→w'.heap[b]? =w.heap[b]?
 live:∀b,b<w.heap.size→Live κ' s' b→Live κ s b
 nX:∀a,κ'.F a≠none→κ.F a≠none∨w.heap.size≤a.block∨Live κ s a.block
theorem e0.x{l:Nat}{κ κ':a5}{s s':ag}{w w':World}(h:e0 κ s w κ' s' w'):g3 l κ s w κ' s' w':=⟨h.k,h.aa,h.size,h.os,h.tape,h.output,fun b e _=>h.kq b e,h.live,h.nX⟩
theorem g3.trans{l:Nat}{κ p q:a5}{s r y:ag}{w A B:World}(h:g3 l κ s w p r A)(k:g3 l p r A q y B):g3 l κ s w q y B:=by
 refine⟨h.k.trans (h.aa ▸ k.k),k.aa.trans h.aa,Nat.le_trans h.size k.size,k.os.trans h.os,k.tape.trans h.tape,k.output.trans h.output,fun b e df bO=>?_,fun b e bO=>?_,fun a F=>?_⟩
 ·rw[k.kq b (fL e h.size) df (fun H=>bO (h.live b e H)),h.kq b e df bO]
 ·exact h.live b e (k.live b (fL e h.size) bO)
 ·rcases k.nX a F with ar|ar|ar
  ·exact h.nX a ar
  ·exact .inr (.inl (Nat.le_trans h.size ar))
  ·by_cases e:a.block<w.heap.size
   ·exact .inr (.inr (h.live _ e ar))
   ·exact .inr (.inl (by omega))
def yP(P:Program)(f j:Nat):Prop:=
 (∃fn,P.funcs[f]? =some fn∧fn.body.isSome=true∧(fn.name== "runtime.NumGoroutine")=false)∧
 ∀(dw xs:List ae) (κ:a5) (s:ag) (w:World) (di:List Value) (l:Nat),pU s j dw=some xs→cL κ s w→d9 κ (s.aa+1) dw di→l<w.heap.size→¬Live κ s l→(∀o,w.heap[l]? =some o→o.isCells=false)→
  ∀(J:Nat→ag→Prop) (r:ag→Option Obj→Prop),J 0 s→
  (∀(i:Nat) (x:ae) (y:Value) (κ':a5) (s':ag) (w':World),xs[i]? =some x→e0 κ s w κ' s' w'→cL κ' s' w'→J i s'→dw.all (fE s s')=true→ds κ' (s'.aa+1) x y→
   YieldAt Fence.wide 0 P l #[y] w' fun e p=>
    (e=.returned (.bool true)∧∃q h,e0 κ' s' w' q h p∧cL q h p∧J (i+1) h∧dw.all (fE s h)=true)∨
    (e=.returned (.bool false)∧∃q h,g3 l κ' s' w' q h p∧cL q h p∧r h p.heap[l]?))→
  CallsIn Fence.wide 0 P f (#[.func (.yield l) #[] #[]]++di.toArray) w fun e w'=>(∃v,e=.returned v)∧
   ((∃κ' s',e0 κ s w κ' s' w'∧cL κ' s' w'∧J xs.length s')∨∃κ' s',g3 l κ s w κ' s' w'∧cL κ' s' w'∧r s' w'.heap[l]?)
structure ki where
 dS:Nat→Option TypeDesc
 info:Nat→Option (Nat×Nat×Value)
 Su:Nat→List ae
 eqs:Nat→Bool
 BL:Nat→Nat→Bool:=fun _ _=>false
structure ki.oO (T:ki) (P:Program):Prop where
 dS:∀t d,T.dS t=some d→P.underlying t=some d
 info:∀t n b z,T.info t=some (n,b,z)→∃i,P.info? t=some i∧i.size=n∧i.bytes=b∧i.zero=some z
 eqs:∀t,T.eqs t=true→P.stoodInHeld t=false∧P.eqGuardType P.depth t=false
 BL:∀f j,T.BL f j=true→yP P f j
def iL(T:ki):Nat→List vn→List Field→Bool
 |_,[],[]=>true
 |j,k::h5,f::jD=>Nat.beq f.offset j&&decide (f.name≠ "_")&&(match T.dS f.type with
   |some d=>kh k d
   |none=>false)&&iL T (j+1) h5 jD
 |_,_,_=>false
def Sb(T:ki)(e:LH)(t:Nat)(d:TypeDesc):Bool:=
 match e,d with
 |.agg h5,.struct jD=>T.eqs t&&iL T 0 h5 jD.toList
 |.agg [.int _,.int _],.array 2 e=>T.eqs t&&(match T.dS e with
   |some (.int _)=>true
   |_=>false)&&(T.info e).map (·.1)==some 1
 |_,_=>false
def ki.size(T:ki)(t:Nat):Option Nat:=(T.info t).map (·.1)
def ki.bytes(T:ki)(t:Nat):Option Nat:=(T.info t).map (·.2.1)
def ki.zero(T:ki)(t:Nat)(z:List ae):Bool:=
 match T.info t with
 |some (_,_,v)=>mo z v.cells.toList
 |none=>false
def ki.load(T:ki)(t:Nat)(n:Option Nat):Bool:=
 match T.dS t with
 |some d=>match n with
  |none=>yE d==false
  |some n=>yE d==true&&T.size t==some n
 |none=>false
section
variable{P:Program}{T:ki}(eu:T.oO P)
include eu
theorem ki.oO.size{t n:Nat}(h:T.size t=some n):eR P t=some n:=by
 unfold ki.size at h;cases bN:T.info t with
 |none=>rw[bN] at h;cases h
 |some p=>obtain⟨e,b,z⟩:=p;rw[bN] at h;simp only[eb,a8] at h;obtain⟨i,ar,ay,_⟩:=eu.info _ _ _ _ bN;simp [eR,ar,ay,h]
theorem ki.oO.bytes{t n:Nat}(h:T.bytes t=some n):(P.info? t).map (·.bytes)=some n:=by
 unfold ki.bytes at h;cases bN:T.info t with
 |none=>rw[bN] at h;cases h
 |some p=>obtain⟨e,b,z⟩:=p;rw[bN] at h;simp only[eb,a8] at h;obtain⟨i,ar,_,ay,_⟩:=eu.info _ _ _ _ bN;simp [ar,ay,h]
theorem ki.oO.zero{t:Nat}{z:List ae}(h:T.zero t z=true):jy P t z=true:=by
 unfold ki.zero at h;cases bN:T.info t with
 |none=>rw[bN] at h;cases h
 |some p=>obtain⟨e,b,v⟩:=p;rw[bN] at h;obtain⟨i,ar,_,_,ay⟩:=eu.info _ _ _ _ bN;simp only[jy,ar,fZ,ay];exact h
theorem ki.oO.load{t:Nat}{n:Option Nat}(h:T.load t n=true):jx P t n=true:=by
 unfold ki.load at h;cases cF:T.dS t with
 |none=>rw[cF] at h;cases h
 |some d=>
  rw[cF] at h
  have:=eu.dS _ _ cF;cases n with
  |none=>simp only at h;simp [jx,ks,this];simpa using h
  |some n=>simp only[bm] at h;have ay:=eu.size (by simpa using h.2:T.size t=some n);simp [jx,ks,this,ay];simpa using h.1
end
def jK:Nat→List br→List (Nat×Operand)→Bool
 |_,[],[]=>true
 |i,x::xs,(j,y)::e=>Nat.beq i j&&cp x y&&jK (i+1) xs e
 |_,_,_=>false
theorem jz:∀(i:Nat) (xs:List br) (e:List (Nat×Operand)),jK i xs e=true→∃q:List Operand,e=(q.zipIdx i).map (fun p=>(p.2,p.1))∧dp xs q=true
 |_,[],[],_=>⟨[],rfl,rfl⟩
 |_,[],_::_,h=>by simp [jK] at h
 |_,_::_,[],h=>by simp [jK] at h
 |i,x::xs,(j,y)::e,h=>by simp only[jK,bm] at h;obtain⟨q,ar,ay⟩:=jz (i+1) xs e h.2;have r:=c4 h.1.1;subst r;exact⟨y::q,by simp [ar],by simp [dp,h.1.2,ay]⟩
def lI(T:ki):List Field→Option (List (Nat×Nat))
 |[]=>some []
 |f::jD=>(T.size f.type).bind fun n=>(lI T jD).map fun l=>(f.offset,n)::l
theorem nR{P:Program}{T:ki}(eu:T.oO P):∀(jD:List Field) (l:List (Nat×Nat)),lI T jD=some l→(jD.mapM fun f=>(eR P f.type).map fun n=>(f.offset,n))=some l
 |[],l,h=>by simp only[lI,a8] at h;subst h;rfl
 |f::jD,l,h=>by
  simp only[lI] at h;cases df:T.size f.type with
  |none=>rw[df] at h;cases h
  |some n=>
   rw[df] at h;cases bO:lI T jD with
   |none=>rw[bO] at h;cases h
   |some l'=>rw[bO] at h;simp only[fZ,eb,a8] at h;subst h;rw[List.mapM_cons];simp [eu.size df,nR eu jD l' bO]
def wl(a b:BinOp):Bool:=decide (a=b)
def en(T:ki)(B:fV)(op:Op):Bool:=
 match B with
 |.move x|.nl x|.nm x=>
  match op with
  |.move y|.assign y=>cp x y
  |_=>false
 |.pick c a b=>
  match op with
  |.pick nk fz F=>cp c nk&&cp a fz&&cp b F
  |_=>false
 |.alloc z=>
  match op with
  |.alloc t=>T.zero t z
  |_=>false
 |.e7 x|.ju x=>
  match op with
  |.box _ y=>cp x y
  |_=>false
 |.build z eo=>
  match op with
  |.build t h=>
   match T.dS t with
   |some (.struct jD)=>
    match lI T jD.toList with
    |some pl=>T.zero t z&&jZ (pl.toArray[·]?) eo h.toList
    |none=>false
   |some (.array _ el)=>
    match T.size el with
    |some sz=>T.zero t z&&jZ (fun i=>some (i*sz,sz)) eo h.toList
    |none=>false
   |_=>false
  |_=>false
 |.buildSlice sz eo=>
  match op with
  |.buildSlice t len h=>
   match T.dS t with
   |some (.slice el)=>T.size el==some sz&&T.zero el (T.Su el)&&Nat.beq (T.Su el).length sz&&Nat.beq len eo.length&&Nat.ble (len*sz) 16777216&&jK 0 eo h.toList
   |_=>false
  |_=>false
 |.load n x=>
  match op with
  |.load t y=>T.load t n&&cp x y
  |_=>false
 |.store n x v=>
  match op with
  |.store t y u=>T.size t==some n&&cp x y&&cp v u
  |_=>false
 |.kG _ _ n x v=>
  match op with
  |.store t y u=>T.size t==some n&&cp x y&&cp v u
  |_=>false
 |.nilCheck x=>
  match op with
  |.nilCheck y=>cp x y
  |_=>false
 |.bin o x y=>
  match op with
  |.binOp o' _ kH s5 _=>wl o o'&&cp x kH&&cp y s5
  |_=>false
 |.eq neg e x y=>
  match op with
  |.binOp o t kH s5 _=>
   match T.dS t with
   |some d=>wl o (if neg then .neq else .eql)&&(o5 e d||Sb T e t d)&&cp x kH&&cp y s5
   |none=>false
  |_=>false
 |.un o x=>
  match op with
  |.unOp o' _ y=>decide (o=o')&&cp x y
  |_=>false
 |.kS k x=>
  match op with
  |.convert src dst y=>
   match T.dS src,T.dS dst with
   |some _,some (.int lk)=>decide (k=lk)&&cp x y
   |_,_=>false
  |_=>false
 |.nn x=>
  match op with
  |.convert src dst y=>
   match T.dS src,T.dS dst with
   |some _,some .string=>cp x y
   |_,_=>false
  |_=>false
 |.gu x=>
  match op with
  |.convert src dst y=>
   match T.dS src,T.dS dst with
   |some (.slice el),some .string=>
    match T.dS el with
    |some (.int .u8)=>cp x y
    |_=>false
   |_,_=>false
  |_=>false
 |.iA x=>
  match op with
  |.convert src dst y=>
   match T.dS src,T.dS dst with
   |some .string,some (.slice el)=>
    match T.dS el with
    |some (.int .u8)=>cp x y
    |_=>false
   |_,_=>false
  |_=>false
 |.jf t x=>
  match op with
  |.makeInterface LC y=>
   match T.dS t with
   |some (.interface _)=>false
   |some _=>Nat.beq t LC&&cp x y
   |none=>false
  |_=>false
 |.jU f dw=>
  match op with
  |.makeFunc (.func vo) first H=>Nat.beq f vo&&Nat.beq first.size 0&&dp dw H.toList
  |_=>false
 |.makeSlice z bytes l c=>
  match op with
  |.makeSlice t l' nk=>
   match T.dS t with
   |some (.slice el)=>T.zero el z&&T.size el==some z.length&&T.bytes el==some bytes&&Nat.blt 0 bytes&&cp l l'&&cp c nk
   |_=>false
  |_=>false
 |.jV x fW bN=>
  match op with
  |.slice t y p q none=>
   match T.dS t with
   |some .string=>cp x y&&fa fW p&&fa bN q
   |_=>false
  |_=>false
 |.slice sz x fW bN ii=>
  match op with
  |.slice t y p q r=>
   match T.dS t with
   |some (.slice el)=>T.size el==some sz&&cp x y&&fa fW p&&fa bN q&&fa ii r&&(!ii.isSome||bN.isSome)
   |_=>false
  |_=>false
 |.ir sz len x fW bN ii=>
  match op with
  |.slice t y p q r=>
   match T.dS t with
   |some (.array n el)=>Nat.beq n len&&T.size el==some sz&&cp x y&&fa fW p&&fa bN q&&fa ii r&&(!ii.isSome||bN.isSome)
   |_=>false
  |_=>false
 |.jg sz bytes _ x y=>
  match op with
  |.call {callee:=.builtin .append,args:=⟨[kH,s5]⟩,argTypes:=⟨[t,t2]⟩}=>
   match T.dS t with
   |some (.slice el)=>
    match T.info el with
    |some (n,b,z)=>
     (match T.dS t2 with
      |some (.slice _)|some .string=>true
      |_=>false)&&Nat.beq n sz&&Nat.beq b bytes&&Nat.beq z.cells.size sz&&Nat.blt 0 bytes&&Nat.ble bytes 1048576&&cp x kH&&cp y s5
    |none=>false
   |_=>false
  |_=>false
 |.jh sz bytes _ x y=>
  match op with
  |.call {callee:=.builtin .append,args:=⟨[kH,s5]⟩,argTypes:=⟨[t,t2]⟩}=>
   match T.dS t with
   |some (.slice el)=>
    match T.info el with
    |some (n,b,z)=>
     (match T.dS t2 with
      |some (.slice _)|some .string=>true
      |_=>false)&&Nat.beq n sz&&Nat.beq b bytes&&Nat.beq z.cells.size sz&&Nat.blt 0 bytes&&Nat.ble bytes 1048576&&cp x kH&&cp y s5
    |none=>false
   |_=>false
  |_=>false
 |.ji sz bytes x y=>
  match op with
  |.call {callee:=.builtin .append,args:=⟨[kH,s5]⟩,argTypes:=⟨[t,t2]⟩}=>
   match T.dS t with
   |some (.slice el)=>
    match T.info el with
    |some (n,b,z)=>
     (match T.dS t2 with
      |some (.slice _)|some .string=>true
      |_=>false)&&Nat.beq n sz&&Nat.beq b bytes&&Nat.beq z.cells.size sz&&Nat.blt 0 bytes&&Nat.ble bytes 1048576&&cp x kH&&cp y s5
    |none=>false
   |_=>false
  |_=>false
 |.gi sz eo=>
  match op with
  |.buildSlice t len h=>
   match T.dS t with
   |some (.slice el)=>T.size el==some sz&&T.zero el (T.Su el)&&Nat.beq (T.Su el).length sz&&Nat.beq len eo.length&&Nat.ble (len*sz) 16777216&&jK 0 eo h.toList
   |_=>false
  |_=>false
 |.gj sz eo=>
  match op with
  |.buildSlice t len h=>
   match T.dS t with
   |some (.slice el)=>T.size el==some sz&&T.zero el (T.Su el)&&Nat.beq (T.Su el).length sz&&Nat.beq len eo.length&&Nat.ble (len*sz) 16777216&&jK 0 eo h.toList
   |_=>false
  |_=>false
 |.fieldAddr off x=>
  match op with
  |.fieldAddr t y i=>
   match T.dS t with
   |some (.struct jD)=>
    match jD[i]? with
    |some f=>
     match T.size f.type with
     |some n=>Nat.beq f.offset off&&Nat.blt 0 n&&cp x y
     |none=>false
    |none=>false
   |_=>false
  |_=>false
 |.field off n x=>
  match op with
  |.field t y i=>
   match T.dS t with
   |some (.struct jD)=>
    match jD[i]? with
    |some f=>Nat.beq f.offset off&&T.load f.type n&&cp x y
    |none=>false
   |_=>false
  |_=>false
 |.h7 sz x i=>
  match op with
  |.indexAddr t y j=>
   match T.dS t with
   |some (.slice el)=>T.size el==some sz&&cp x y&&cp i j
   |_=>false
  |_=>false
 |.e8 sz len x i=>
  match op with
  |.indexAddr t y j=>
   match T.dS t with
   |some (.array n el)=>Nat.beq n len&&T.size el==some sz&&cp x y&&cp i j
   |_=>false
  |_=>false
 |.ml x i=>
  match op with
  |.index t y j=>
   match T.dS t with
   |some .string=>cp x y&&cp i j
   |_=>false
  |_=>false
 |.np sz len n x i=>
  match op with
  |.index t y j=>
   match T.dS t with
   |some (.array m el)=>Nat.beq m len&&T.size el==some sz&&T.load el n&&cp x y&&cp i j
   |_=>false
  |_=>false
 |.extract x i=>
  match op with
  |.extract y j=>Nat.beq i j&&cp x y
  |_=>false
 |.call f xs|.hI f xs=>
  match op with
  |.call c=>
   match c.callee with
   |.value (.func vo)=>Nat.beq f vo&&dp xs c.args.toList
   |_=>false
  |_=>false
 |.ee f xs|.lj f xs=>
  match op with
  |.call c=>
   match c.callee with
   |.value g=>cp f g&&dp xs c.args.toList
   |_=>false
  |_=>false
 |.len b x=>
  match op with
  |.call {callee:=.builtin .len,args:=⟨[y]⟩,argTypes:=⟨[t]⟩}=>
   match T.dS t with
   |some .string=>b&&cp x y
   |some (.slice _)=> !b&&cp x y
   |_=>false
  |_=>false
 |.append sz bytes _ x y=>
  match op with
  |.call {callee:=.builtin .append,args:=⟨[kH,s5]⟩,argTypes:=⟨[t,t2]⟩}=>
   match T.dS t with
   |some (.slice el)=>
    match T.info el with
    |some (n,b,z)=>
     (match T.dS t2 with
      |some (.slice _)|some .string=>true
      |_=>false)&&Nat.beq n sz&&Nat.beq b bytes&&Nat.beq z.cells.size sz&&Nat.blt 0 bytes&&Nat.ble bytes 1048576&&cp x kH&&cp y s5
    |none=>false
   |_=>false
  |_=>false
 |.copy sz x y=>
  match op with
  |.call {callee:=.builtin .copy,args:=⟨[kH,s5]⟩,argTypes:=⟨[t,_]⟩}=>
   match T.dS t with
   |some (.slice el)=>T.size el==some sz&&cp x kH&&cp y s5
   |_=>false
  |_=>false
 |.min xs=>
  match op with
  |.call c=>
   match c.callee with
   |.builtin .min=>dp xs c.args.toList
   |_=>false
  |_=>false
 |.max xs=>
  match op with
  |.call c=>
   match c.callee with
   |.builtin .max=>dp xs c.args.toList
   |_=>false
  |_=>false
 |.makeMap _=>
  match op with
  |.makeMap _ none=>true
  |_=>false
 |.mm kb m x v=>
  match op with
  |.mapUpdate t iS kH fp|.insert t iS kH fp=>
   match T.dS t with
   |some (.map A _)=>
    match T.dS A with
    |some d=>kh kb d&&cp m iS&&cp x kH&&cp v fp
    |none=>false
   |_=>false
  |_=>false
 |.lookup kb z ok m x=>
  match op with
  |.lookup t iS kH I=>
   match T.dS t with
   |some (.map A J)=>
    match T.dS A,T.info J with
    |some d,some (_,_,Z)=>kh kb d&&gY z Z&&(ok==I)&&cp m iS&&cp x kH
    |_,_=>false
   |_=>false
  |_=>false
 |.k6 _ f xs=>
  match op with
  |.call c=>
   match c.callee with
   |.value (.func vo)=>Nat.beq f vo&&dp xs c.args.toList
   |_=>false
  |_=>false
 |.jv _ f xs=>
  match op with
  |.call c=>
   match c.callee with
   |.value g=>cp f g&&dp xs c.args.toList
   |_=>false
  |_=>false
 |.ts neg x=>
  match op with
  |.binOp o t kH (.const .nilIface) _=>
   match T.dS t with
   |some (.interface _)=>wl o (if neg then .neq else .eql)&&cp x kH
   |_=>false
  |_=>false
 |.no=>true
theorem ds.kM{κ:a5}{D:Nat}{v:ae}{x:Value}(h:ds κ D v x)(d:Nat):v.aq d=v:=by
 cases h<;> try rfl
 rename_i sz es g a cap di cE ar ay ch dk e p;cases g<;> try rfl
 rename_i l;cases l with
 |l i=>exact absurd cE (by simp [iF])
 |g d i=>rfl
theorem wm{P:Program}{w:World}{κ:a5}{D:Nat}(f:ae→ae→Option ae)(g:Value→Value→Sem Value)
  (r:∀x y z X Y,f x y=some z→ds κ D x X→ds κ D y Y→∃Z,(g X Y).run P w=.ok Z w∧ds κ D z Z):∀(q:List ae) (e:List Value) (x v:ae) (X:Value),tt f x q=some v→ds κ D x X→d9 κ D q e→
   ∃V,(e.foldlM g X).run P w=.ok V w∧ds κ D v V
 |[],e,x,v,X,h,aZ,p=>by
  simp only[tt,a8] at h
  have:e=[]:=jT p.1;subst this;subst h;exact⟨X,by simp,aZ⟩
 |y::q,e,x,v,X,h,aZ,p=>by
  cases e with
  |nil=>exact absurd p.1 (by simp)
  |cons Y e=>
   simp only[tt] at h;cases hr:f x y with
   |none=>rw[hr] at h;cases h
   |some z=>rw[hr] at h;simp only[fZ] at h;obtain⟨Z,ar,ay⟩:=r x y z X Y hr aZ (p.2 0 y Y rfl rfl);obtain⟨V,ch,dk⟩:=wm f g r q e z v Z h ay ⟨by have:=p.1;simpa using this,fun j c y aW fb=>p.2 (j+1) c y (by simpa using aW) (by simpa using fb)⟩;exact⟨V,by simp [List.foldlM_cons,ar,ch],dk⟩
section
variable{P:Program}{ty:TypeId}{κ:a5}{s:ag}{w:World}
theorem F9(x y z:ae)(X Y:Value)(h:min2 x y=some z)(aZ:ds κ (s.aa+1) x X)(fb:ds κ (s.aa+1) y Y):∃Z,(Builtin.min2 X Y).run P w=.ok Z w∧ds κ (s.aa+1) z Z:=by cases x<;> cases y<;> simp [min2] at h;subst h;rw[aZ.ef,fb.ef];exact⟨_,by simp only[Builtin.min2];rfl,.int _ _⟩
theorem Ga(x y z:ae)(X Y:Value)(h:max2 x y=some z)(aZ:ds κ (s.aa+1) x X)(fb:ds κ (s.aa+1) y Y):∃Z,(Builtin.max2 X Y).run P w=.ok Z w∧ds κ (s.aa+1) z Z:=by cases x<;> cases y<;> simp [max2] at h;subst h;rw[aZ.ef,fb.ef];exact⟨_,by simp only[Builtin.max2];rfl,.int _ _⟩
theorem h9{an:Nat→ae}{a:Act}{G:Nat→ae}(bg:vj κ s an a)(dM:jR κ G):∀(xs:List br) (e:List Operand),dp xs e=true→d9 κ (s.aa+1) (xs.map fun x=>(ap G an x).aq s.aa) (e.map a.eval)
 |[],[],_=>.nil _ _
 |[],_::_,h=>by simp [dp] at h
 |_::_,[],h=>by simp [dp] at h
 |x::xs,y::e,h=>by simp only[dp,bm] at h;exact .cons (bk bg dM h.1) (h9 bg dM xs e h.2)
def l3(κ:a5)(s:ag)(w:World)(v:ae)(s':ag)(x:Value)(w':World):Prop:=∃κ',e0 κ s w κ' s' w'∧cL κ' s' w'∧ds κ' (s.aa+1) (v.aq s.aa) x
def nS(P:Program)(o:Op)(ty:TypeId)(ρ:Operand→Value)(κ:a5)(s:ag)(w:World)(v:ae)(s':ag):Prop:=
 dB P o ty ρ κ s w v s'∨∃f xs,(∀dst pos after guard,(execOp ρ ⟨dst,o,ty,pos,after,guard⟩).run P w=.ok (.enter f xs) w)∧Calls P f xs w fun e w'=>∃x,e=.returned x∧l3 κ s w v s' x w'
structure ms (P:Program) (E:Env):Prop where
 loop:∃n,∀step bC an s k,E.loop step bC an s k=dF step bC n an s k
 m4:∀f args s v s',E.call f args s≠.panic v s'
 ok:∀f args s v s' κ w xs,E.call f args s=.ok v s'→cL κ s w→jR κ E.au→d9 κ (s.aa+1) args xs→
  (∃x w',(callFunc f xs.toArray).run P w=.ok (.value x) w'∧l3 κ s w v s' x w')∨
  ((callFunc f xs.toArray).run P w=.ok (.enter f xs.toArray) w∧Calls P f xs.toArray w fun e w'=>∃x,e=.returned x∧l3 κ s w v s' x w')
theorem vI{E:Env}(ke:ms P E)(aV:cL κ s w)(dM:jR κ E.au){f:Nat}{args:List ae}{v:ae}{s':ag}{xs:List Value}{o:Op}{ρ:Operand→Value}(h:E.call f args s=.ok v s')(aZ:d9 κ (s.aa+1) args xs)
  (e:∀dst pos after guard,execOp ρ ⟨dst,o,ty,pos,after,guard⟩=callFunc f xs.toArray):nS P o ty ρ κ s w v s':=by
 rcases ke.ok f args s v s' κ w xs h aV dM aZ with⟨x,w',ar,κ',ay,ch,dk⟩|⟨ar,ay⟩
 ·exact .inl ⟨x,κ',w',.inl (fun dst pos after guard=>by rw[e];exact ar),ay,ch,dk⟩
 ·exact .inr ⟨f,xs.toArray,fun dst pos after guard=>by rw[e];exact ar,ay⟩
theorem l3.pure(aV:cL κ s w){v:ae}{r:ag}{x:Value}{w':World}(h:l3 {κ with n:=fun _=>0} {own:=[],up:=[],ro:=[]} w v r x w')(bD:v.bj=true):l3 κ s w v s x w':=by
 obtain⟨κ',ar,ay,ch⟩:=h;have p:∀b,¬Live {κ with n:=fun _=>0} {own:=[],up:=[],ro:=[]} b:=fun b ⟨d,i,o,cE,_⟩=>by simp [ag.get] at cE
 have c3:f6 κ {κ with F:=κ'.F} (s.aa+1):=⟨fun a v h=>ar.k.F a v h,fun _ _=>aC _,fun _ _ _ _=>rfl,fun _ _ _ _ _ _ h=>h⟩;refine⟨{κ with F:=κ'.F},⟨c3,rfl,ar.size,ar.os,ar.tape,ar.output,fun b e _=>ar.kq b e (p b),fun b e bO=>?_,fun a y=>?_⟩,?_,?_⟩
 ·obtain⟨d,i,o,cE,A⟩:=bO;exact⟨d,i,o,cE,A⟩
 ·rcases ar.nX a y with q|q|q
  ·exact .inl q
  ·exact .inr (.inl q)
  ·exact absurd q (p _)
 ·refine aV.world c3 rfl rfl (fun a v h=>ay.h6 a v h) (fun b e=>⟨ar.kq b (aV.jo e) (p b),fun o=>?_⟩);show κ'.F ⟨b,o,none⟩=κ.F ⟨b,o,none⟩;cases f8:κ.F ⟨b,o,none⟩ with
  |some v=>exact ar.k.F _ _ f8
  |none=>
   cases B:κ'.F ⟨b,o,none⟩ with
   |none=>rfl
   |some v=>
    rcases ar.nX ⟨b,o,none⟩ (by rw[B];simp) with q|q|q
    ·exact absurd f8 q
    ·exact absurd (aV.jo e) (Nat.not_lt.2 q)
    ·exact absurd q (p _)
 ·have H:ds κ' (({own:=[],up:=[],ro:=[]}:ag).aa+1) v x:=by rw[iV bD] at ch;exact ch
  rw[iV bD];exact H.bj bD _ (fun _ _ h=>h)
theorem tX{E:Env}(ke:ms P E)(aV:cL κ s w)(dM:jR κ E.au){f:Nat}{args:List ae}{v:ae}{p:ag}{xs:List Value}{o:Op}{ρ:Operand→Value}(h:E.call f args {own:=[],up:=[],ro:=[]}=.ok v p)(bD:v.bj=true)(aZ:d9 κ (s.aa+1) args xs)(aJ:ae.a6 args=true)
  (q:∀dst pos after guard,execOp ρ ⟨dst,o,ty,pos,after,guard⟩=callFunc f xs.toArray):nS P o ty ρ κ s w v s:=by
 have r:d9 {κ with n:=fun _=>0} (({own:=[],up:=[],ro:=[]}:ag).aa+1) args xs:=⟨aZ.1,fun j c x aW y=>(aZ.2 j c x aW y).bj (ij aJ aW) _ (fun _ _ h=>h)⟩;have A:jR {κ with n:=fun _=>0} E.au:=fun n=>⟨(dM n).1.bj (dM n).2 _ (fun _ _ h=>h),(dM n).2⟩
 rcases ke.ok f args _ v p _ w xs h aV.empty A r with⟨x,w',ar,ay⟩|⟨ar,ay⟩
 ·obtain⟨κ',B,F,H⟩:=ay.pure aV bD;exact .inl ⟨x,κ',w',.inl (fun dst pos after guard=>by rw[q];exact ar),B,F,H⟩
 ·exact .inr ⟨f,xs.toArray,fun dst pos after guard=>by rw[q];exact ar,ay.mono fun e w' ⟨x,he,I⟩=>⟨x,he,I.pure aV bD⟩⟩
theorem kv{ρ:Operand→Value}{c:Call}{f:Nat}{xs:Array Value}(aW:∃y,c.callee=.value y∧ρ y=.func (.func f) #[] xs):∀dst pos after guard,execOp ρ ⟨dst,.call c,ty,pos,after,guard⟩=callFunc f (c.args.toList.map ρ++xs.toList).toArray:=by
 intro dst pos after guard;obtain⟨y,fb,e⟩:=aW;have ar:resolve ρ c ty=(Pure.pure {target:=.fn (.func f) xs,args:= #[]++c.args.map ρ}:Sem Deferred):=by simp only[resolve,fb,e,Deferred.ofValue]
 have ay:(#[]++c.args.map ρ)++xs=(c.args.toList.map ρ++xs.toList).toArray:=by apply Array.ext';simp
 show(do let d←resolve ρ c ty;invoke d.target d.args)=_;rw[ar];show invoke (.fn (.func f) xs) (#[]++c.args.map ρ)=_;simp only[invoke,ay]
end
section
variable{P:Program}{ty:TypeId}{ρ:Operand→Value}{κ:a5}{s:ag}{w:World}(aV:cL κ s w)
include aV
theorem tY{E:Env}(bh:E.F=.not){k:ae→ag→ah}{r:ah}(bg:r≠.fail){t t2 el:TypeId}{sz bytes:Nat}{z:Value}(h:mP P t t2 el sz bytes z){x y:Operand}{X Y:ae}
  (kg:ds κ (s.aa+1) (X.aq s.aa) (ρ x))(aS:ds κ (s.aa+1) (Y.aq s.aa) (ρ y))(aJ:lF E s k sz bytes X Y=r):∃fp s',k fp s'=r∧dB P (.call {callee:=.builtin .append,args:= #[x,y],argTypes:= #[t,t2]}) ty ρ κ s w fp s':=by
 unfold lF at aJ;cases iJ:dD s Y with
 |none=>rw[iJ] at aJ;exact absurd aJ.symm bg
 |some p=>
  obtain⟨q,new⟩:=p;rw[iJ] at aJ;obtain⟨O,bf,J⟩:=j1 aV aS iJ;cases new with
  |nil=>exact absurd aJ.symm bg
  |cons et aU=>
   simp only[bh,aN.not] at aJ;generalize aX:et::aU=new at *;have l2:0<new.length:=by rw[←aX];simp
   have aE:s.own.length=κ.n s.aa:=aV.len s.aa s.own (by simp [ag.an]);split at aJ
   ·
    rename_i aY;obtain⟨B,ac⟩:=cP aJ bg;simp only[bm] at B;obtain⟨⟨⟨al,am⟩,ao⟩,ap⟩:=B;have dI:=c4 al;have as:=(c4 am).symm;subst dI;subst as;have ch:=dL ao;simp only[ae.aq] at kg;have ad:ρ x=.slice none 0 0:=by
     rcases kg.hf with⟨_,_,e⟩|⟨A,cap,di,e,cE,_⟩
     ·exact e
     ·cases cE
    obtain⟨hlen,xs,aW,fG⟩:=e1 (P:=P) O J new.length (aC _) w.drew (fun _=>rfl);have au:=(e1 (P:=P) O J new.length (aC _) w (fun _=>rfl)).1;simp only[List.take_length] at fG;have H:=eI new q J;have U:xs.length=new.length*q:=by rw[fG.1,H]
    have M:(Builtin.firstCells q 0 (.slice none 0 0)).run P w.drew=.ok (#[]:Array Value) w.drew:=by
     obtain⟨_,os,M,V⟩:=e1 (P:=P) (s:=s) (κ:=κ) (w:=w) (X:=Value.slice none 0 0) (v:=.dead) (sz:=q) (es:=[]) (.inr ⟨none,0,rfl,fun _=>rfl,fun a Z=>(by cases Z)⟩) (fun e he=>(by cases he)) 0 (aC _) w.drew (fun _=>rfl)
     have:os=[]:=jT (by simpa using V.1);rw[this] at M;exact M
    obtain⟨cap,C,N,ab,af,ai⟩:=iu (ty:=ty) h (base:=none) (fq:=0) (iK:=0) (os:=[]) au aW M U (by simp) (by omega) (by rw[bc];exact ch);simp only[bc,List.nil_append] at N af ai;obtain⟨gZ,g9⟩:=aV.newRow (w':=w.drew.alloc (.cells C el)) (new.flatMap ae.cells) xs C el new.length q cap fG ab (by rw[H,ab];exact fi _ N) (fun j da=>af j (by rw[←H];exact da)) rfl rfl rfl rfl;refine⟨_,_,ac,_,_,_,.inl (hB (by rw[ad];exact ai)),g9,gZ,?_⟩;simp only[ae.aq,Loc.aq];have bO:(κ.row s.aa s.own.length w.heap.size new.length cap q).loc s.aa s.own.length=w.heap.size:=by simp [a5.row]
    have key:=ds.cD (κ:=κ.row s.aa s.own.length w.heap.size new.length cap q) (D:=s.aa+1) s.aa s.own.length 0 new.length 0 cap q (Nat.lt_succ_self _) (by simp [a5.row,aE]) N (.inr ⟨rfl,l2,rfl,by rw[bO];simp [a5.row]⟩);rw[bO] at key;exact key
   ·
    rename_i i len aY;split at aJ
    rotate_left
    ·exact absurd aJ.symm bg
    rename_i cs av;obtain⟨B,ac⟩:=cP aJ bg;simp only[bm,Bool.not_eq_true'] at B;obtain⟨⟨⟨⟨⟨⟨al,am⟩,ao⟩,ap⟩,aZ⟩,a0⟩,aF⟩:=B;have dI:=c4 al;have as:=(c4 am).symm;subst dI;subst as;have aj:=c4 ao;have bi:len≠0:=fun eU=>by rw[eU] at ap;cases ap
    have aw:=dL aZ;simp only[ae.aq,Loc.aq] at kg;have cE:s.get (.g s.aa i)=some (.cells cs):=by simp [ag.get,av]
    obtain⟨lh,ad,cF,bN,bj,tS⟩:=kg.jq;obtain⟨_,_,_,aG⟩:(0:Nat)=0∧0<len∧(0:Nat)=0∧κ.kL s.aa i len=some (⟨κ.loc s.aa i,0,none⟩,lh,q):=by
     rcases tS with ar|ar
     ·omega
     ·exact ar
    obtain⟨⟨I,nY,ax,dY,aH,aI,o7⟩,aK⟩:=aV.obj _ _ _ cE;have a1:=o7 len _ _ _ aG;have H:=eI new q J;have ay:i<s.own.length:=(ez.1 av).1;have hmul:(len+new.length)*q=len*q+new.length*q:=eL _ _ _;have aL:=nw aV cE 0;rw[bV] at aL;by_cases az:len+new.length≤lh
    ·
     obtain⟨hlen,xs,aW,fG⟩:=e1 (P:=P) O J new.length (aC _) w (fun _=>rfl);simp only[List.take_length] at fG;have U:xs.length=new.length*q:=by rw[fG.1,H]
     have bk:(len+new.length)*q≤I.size:=Nat.le_trans (fi _ az) a1;have ar:=m3 a0 fG;have a2:=run_storeCells_cells (P:=P) (κ.loc s.aa i) (len*q) xs 0 w (fun j da=>by rw[e4 dY];simp;omega) (fun j da=>by
      have hu:=aH (len*q+0+j) (by omega);simp only[World.frozen?,dY];rw[Bool.and_eq_false_iff];by_cases aM:ax.1≤len*q+0+j
      ·right;simp only[decide_eq_false_iff_not];exact fun h=>hu ⟨aM,h⟩
      ·left;simpa using aM) ar
     have a3:=run_append_fits (ty:=ty) h (base:=some ⟨κ.loc s.aa i,0,none⟩) (fq:=len) (iK:=lh) hlen aW az (w':=w.setCells (κ.loc s.aa i) (len*q) xs) (by
      have a4:(⟨κ.loc s.aa i,0,none⟩:Addr).add (len*q)=⟨κ.loc s.aa i,len*q,none⟩:=by rw[fF rfl];simp
      simp only[a4];simpa using a2)
     have aA:=lX xs w (κ.loc s.aa i) (len*q) I nY ax dY (by omega);obtain⟨p3,rF,BD⟩:=lZ xs w (κ.loc s.aa i) (len*q);have sQ:cs.length≤I.size:=by have:=aI.1;simp at this;omega
     have a6:(dO I.toList (len*q) xs).take (cs++new.flatMap ae.cells).length=I.toList.take cs.length++xs:=by
      rw[f9,H,aj,←U];apply List.ext_getElem?;intro j;rw[List.getElem?_take];by_cases da:j<len*q
      ·rw[if_pos (by omega),gw _ _ _ (by simp;omega),if_neg (by omega),g1 (by simp;omega),List.getElem?_take,if_pos (by omega)]
      ·rw[im (by simp;omega)];have vE:(I.toList.take (len*q)).length=len*q:=by simp;omega
       rw[vE];by_cases aO:j<len*q+xs.length
       ·rw[if_pos aO,gw _ _ _ (by simp;omega),if_pos (by omega)]
       ·rw[if_neg aO,List.getElem?_eq_none (by omega)]
     let s1:ag:={s with own:=s.own.set i (.cells (cs++new.flatMap ae.cells))}
     have aP:cL κ s1 (w.setCells (κ.loc s.aa i) (len*q) xs)∧e0 κ s w κ s1 (w.setCells (κ.loc s.aa i) (len*q) xs):=by
      refine aV.setObj cE (o':=.cells (cs++new.flatMap ae.cells)) (by simp [ag.set,s1]) (.refl _ _) rfl (fun _ _ _ _=>rfl) (fun a v h=>?_) (fun b _ B=>⟨?_,fun _=>rfl⟩) (by rw[lY];exact aC _) p3 rF BD ⟨⟨(dO I.toList (len*q) xs).toArray,nY,ax,by rw[aA];simp,by simpa [fs] using aH,?_,fun m b cap sz hm=>by simpa [fs] using o7 m b cap sz hm⟩,aK⟩ (fun b B=>.inl B)
      ·obtain⟨aw,a7⟩:=aV.h6 a v h;refine⟨aw,?_⟩;rw[gl (w:=w) ?_]
       ·exact a7
       ·rw[aA,if_neg];intro dI;have a8:a=⟨κ.loc s.aa i,a.off,none⟩:=by cases a;simp_all
        rw[a8,aK] at h;cases h
      ·rw[aA,if_neg (fun dI=>B (by simp [aT,dI]))]
      ·show d9 κ _ _ ((dO I.toList (len*q) xs).take _);rw[a6];exact aI.append fG
     have a9:s1.own[i]? =some (.cells (cs++new.flatMap ae.cells)):=by simp [s1,ay]
     obtain⟨gZ,g9⟩:=aP.1.rename (n:=len+new.length) a9 aG;have aB:({s1 with own:=s1.own.set i .gone++[.cells (cs++new.flatMap ae.cells)]}:ag)= {s with own:=s.own.set i .gone++[.cells (cs++new.flatMap ae.cells)]}:=by simp [s1]
     rw[aB] at gZ g9;refine⟨_,_,ac,_,_,_,.inl (hB (by rw[ad];exact a3)),aP.2.trans g9,gZ,?_⟩;simp only[ae.aq,Loc.aq];have aD:s1.own.length=s.own.length:=by simp [s1]
     have bO:(κ.row s1.aa s1.own.length (κ.loc s1.aa i) (len+new.length) lh q).loc s.aa s.own.length=κ.loc s.aa i:=by rw[aD];show(if s.aa=s.aa∧s.own.length=s.own.length then κ.loc s.aa i else κ.loc s.aa s.own.length)=_;simp
     have key:=ds.cD (κ:=κ.row s1.aa s1.own.length (κ.loc s1.aa i) (len+new.length) lh q) (D:=s.aa+1) s.aa s.own.length 0 (len+new.length) 0 lh q (Nat.lt_succ_self _) (by
      rw[aD];show s.own.length<if s.aa=s.aa then κ.n s.aa+1 else κ.n s.aa
      rw[if_pos rfl];omega) az (.inr ⟨rfl,by omega,rfl,by
      rw[bO,aD];show(if s.aa=s.aa∧s.own.length=s.own.length then(if len+new.length=len+new.length then some ((⟨κ.loc s.aa i,0,none⟩:Addr),lh,q) else none) else κ.kL s.aa s.own.length (len+new.length))=_;simp⟩)
     rw[bO] at key;exact key
    ·
     obtain⟨hlen,xs,aW,fG⟩:=e1 (P:=P) O J new.length (aC _) w.drew (fun _=>rfl);have au:=(e1 (P:=P) O J new.length (aC _) w (fun _=>rfl)).1;simp only[List.take_length] at fG;have U:xs.length=new.length*q:=by rw[fG.1,H]
     have ba:q≠0:=fun eU=>by rw[eU] at aF;cases aF
     obtain⟨aQ,bb⟩:=j0 q ba len cs (by omega);obtain⟨_,os,M,V⟩:=e1 (P:=P) (s:=s) (κ:=κ) (w:=w) (X:=Value.slice (some ⟨κ.loc s.aa i,0,none⟩) len lh) (v:=.dead) (sz:=q) (es:=chunk q len cs) (.inr ⟨some ⟨κ.loc s.aa i,0,none⟩,lh,by rw[e5],fun Z=>(by cases Z),fun fz Z=>(by cases Z;rw[aQ,jC (by omega)];exact aL)⟩) bb len (by rw[e5];exact aC _) w.drew (fun _=>rfl);rw[show(chunk q len cs).take len=chunk q len cs from jC (by rw[e5];exact aC _),aQ,jC (by omega)] at V;have bd:os.length=len*q:=by rw[V.1,aj]
     obtain⟨ak,C,N,ab,af,ai⟩:=iu (ty:=ty) h (base:=some ⟨κ.loc s.aa i,0,none⟩) (fq:=len) (iK:=lh) au aW M U bd (by omega) aw;obtain⟨gZ,g9⟩:=aV.newRow (w':=w.drew.alloc (.cells C el)) (cs++new.flatMap ae.cells) (os++xs) C el (len+new.length) q ak (V.append fG) ab (by rw[f9,H,aj,ab,←eL];exact fi _ N) (fun j da=>af j (by rw[f9,H,aj] at da;omega)) rfl rfl rfl rfl;have be:(s.new (.cells (cs++new.flatMap ae.cells))).own[i]? =some (.cells cs):=by simp only[ag.new];rw[g1 ay];exact av
     obtain⟨aR,mh⟩:=gZ.yL be;have aB:({s.new (.cells (cs++new.flatMap ae.cells)) with own:=(s.new (.cells (cs++new.flatMap ae.cells))).own.set i .gone}:ag)= {s with own:=s.own.set i .gone++[.cells (cs++new.flatMap ae.cells)]}:=by simp only[ag.new];congr 1;exact List.set_append_left _ _ ay
     rw[aB] at aR mh;refine⟨_,_,ac,_,_,_,.inl (hB (by rw[ad];exact ai)),g9.trans mh,aR,?_⟩;simp only[ae.aq,Loc.aq];have bO:(κ.row s.aa s.own.length w.heap.size (len+new.length) ak q).loc s.aa s.own.length=w.heap.size:=by simp [a5.row]
     have key:=ds.cD (κ:=κ.row s.aa s.own.length w.heap.size (len+new.length) ak q) (D:=s.aa+1) s.aa s.own.length 0 (len+new.length) 0 ak q (Nat.lt_succ_self _) (by simp [a5.row,aE]) N (.inr ⟨rfl,by omega,rfl,by rw[bO];simp [a5.row]⟩);rw[bO] at key;exact key
   ·exact absurd aJ.symm bg
end
section
variable{P:Program}{ty:TypeId}{ρ:Operand→Value}{κ:a5}{s:ag}{w:World}
theorem vJ{T:ki}(eu:T.oO P){D:Nat}:∀(jD:List Field) (h5:List vn) (j:Nat) (cs io:List ae) (xs r:List Value) (b:Bool),iL T j h5 jD=true→eN h5 (cs.drop j)=true→eN h5 (io.drop j)=true→d9 κ D cs xs→d9 κ D io r→iC (cs.drop j) (io.drop j)=some b→
  ∀d,(Op.eqFields (d+1) xs.toArray r.toArray jD).run P w=.ok b w:=by
 intro jD
 induction jD with
 |nil=>
  intro h5 j cs io xs r b ar ay ch aZ fb h d;cases h5 with
  |cons k h5=>simp [iL] at ar
  |nil=>
   cases aW:cs.drop j with
   |cons c B=>rw[aW] at ay;simp [eN] at ay
   |nil=>
    cases cF:io.drop j with
    |cons c B=>rw[cF] at ch;simp [eN] at ch
    |nil=>rw[aW,cF] at h;simp only[iC,a8] at h;subst h;simp [Op.eqFields]
 |cons f jD Y=>
  intro h5 j cs io xs r b ar ay ch aZ fb h d;cases h5 with
  |nil=>simp [iL] at ar
  |cons k h5=>
   simp only[iL,bm,cj] at ar;obtain⟨⟨⟨dI,df⟩,d6⟩,aJ⟩:=ar;have N:=c4 dI;cases aW:cs.drop j with
   |nil=>rw[aW] at ay;cases k<;> simp [eN] at ay
   |cons c B=>
    cases cF:io.drop j with
    |nil=>rw[cF] at ch;cases k<;> simp [eN] at ch
    |cons nk I=>
     have O:cs.drop (j+1)=B:=by rw[←List.drop_drop,aW];rfl
     have U:io.drop (j+1)=I:=by rw[←List.drop_drop,cF];rfl
     have Z:cs[j]? =some c:=by have:=congrArg (fun l:List ae=>l[0]?) aW;simpa using this
     have aa:io[j]? =some nk:=by have:=congrArg (fun l:List ae=>l[0]?) cF;simpa using this
     obtain⟨x,ab,J⟩:=aZ.get Z;obtain⟨y,ac,M⟩:=fb.get aa;rw[aW] at ay;rw[cF] at ch;rw[aW,cF] at h;cases hu:T.dS f.type with
     |none=>rw[hu] at d6;cases d6
     |some F=>
      rw[hu] at d6;have H:=eu.dS _ _ hu;have V:ks P f.type=some false:=by cases k<;> cases F<;> simp [kh] at d6<;> simp [ks,H,yE]
      have ad:(part f.type xs.toArray f.offset).run P w=.ok x w:=by rw[N];simp [part,iH V,ab]
      have af:(part f.type r.toArray f.offset).run P w=.ok y w:=by rw[N];simp [part,iH V,ac]
      have key:∀(e:Bool),(Op.equalIn (d+1) f.type x y).run P w=.ok e w→∀p,iC B I=some p→b=(e&&p)→eN h5 B=true→eN h5 I=true→(Op.eqFields (d+1) xs.toArray r.toArray (f::jD)).run P w=.ok b w:=by
       intro e he p A q k1 rr;simp only[Op.eqFields,df,ne_eq,not_false_eq_true,↓reduceIte,Sem.run_bind,ad,af,Result.andThen_ok,he];cases e with
       |false=>simp [q]
       |true=>simp only[gV,bL,↓reduceIte];rw[q,eT];exact Y h5 (j+1) cs io xs r p aJ (by rw[O];exact k1) (by rw[U];exact rr) aZ fb (by rw[O,U];exact A) d
      cases k with
      |int ec=>cases c<;> simp [eN] at ay;cases nk<;> simp [eN] at ch;rename_i k1 a rr fz;obtain⟨rfl,ay⟩:=ay;obtain⟨rfl,ch⟩:=ch;cases F<;> simp [kh] at d6;simp only[iC,↓reduceIte] at h;obtain⟨p,A,q⟩:=Option.map_eq_some_iff.1 h;rw[J.ef,M.ef] at key;exact key _ (run_equalIn_int w d f.type _ _ a fz H) p A q.symm ay ch
      |str=>
       cases c<;> simp [eN] at ay;cases nk<;> simp [eN] at ch;rename_i a fz;cases F<;> simp [kh] at d6;simp only[iC] at h;obtain⟨p,A,q⟩:=Option.map_eq_some_iff.1 h;obtain⟨z,rfl,hr⟩:=J.hW;obtain⟨St,rfl,ag⟩:=M.hW;have ah:(a==fz)=(z.toList==St.toList):=by
        rw[←hr,←ag,ByteArray.toList_eq,ByteArray.toList_eq];rw[Bool.eq_iff_iff];simp only[beq_iff_eq];constructor
        ·intro e;exact(List.map_inj_right (f:=UInt8.toNat) (fun a b h=>UInt8.toNat_inj.1 h)).1 e
        ·intro e;rw[e]
       rw[ah] at q;exact key _ (run_equalIn_string w d f.type z St H) p A q.symm ay ch
      |bool=>cases c<;> simp [eN] at ay;cases nk<;> simp [eN] at ch;rename_i a fz;cases F<;> simp [kh] at d6;simp only[iC] at h;obtain⟨p,A,q⟩:=Option.map_eq_some_iff.1 h;rw[J.gB,M.gB] at key;exact key _ (run_equalIn_bool' w d f.type a fz H) p A q.symm ay ch
theorem xi{T:ki}(eu:T.oO P)(aV:cL κ s w){h5:List vn}{b neg:Bool}{v u:ae}{t yt:TypeId}{x y:Operand}{jD:Array Field}{op:BinOp}(A:op=if neg then .neq else .eql)(d6:P.underlying t=some (.struct jD))(he:T.eqs t=true)(bg:iL T 0 h5 jD.toList=true)
  (aZ:ds κ (s.aa+1) (v.aq s.aa) (ρ x))(fb:ds κ (s.aa+1) (u.aq s.aa) (ρ y))(h:pt (.agg h5) v u=some b):dB P (.binOp op t x y yt) ty ρ κ s w (.bool (bif neg then !b else b)) s:=by
 obtain⟨ar,ay⟩:=eu.eqs t he;have q:P.fieldsOf t=jD:=by simp [Program.fieldsOf,d6]
 rw[←tQ (d:=s.aa)] at h;generalize F:v.aq s.aa=fp at *;generalize H:u.aq s.aa=I at *;simp only[pt] at h;split at h
 ·rename_i cs io;cases e:eN h5 cs&&eN h5 io with
  |false=>rw[e] at h;cases h
  |true=>
   rw[e] at h;rw[bm] at e;obtain⟨xs,ex,fG⟩:=aZ.l0;obtain⟨p,r,B⟩:=fb.l0;have run:=vJ (w:=w) eu jD.toList h5 0 cs io xs p b bg (by simpa using e.1) (by simpa using e.2) fG B (by simpa using h) 9998;have dI:=run_equalIn_agg (P:=P) w 9999 t xs.toArray p.toArray (by rw[q];exact d6) ar;rw[q,run] at dI;have g:=fun op=>run_eqGuard_agg (P:=P) w op t x y xs.toArray p.toArray ay
   refine bs aV _ (fun dst pos after guard=>?_) (.bool _);subst A;cases neg
   ·have eW:=run_eql_struct (P:=P) w t xs.toArray p.toArray;rw[dI] at eW;simp only[execOp,bL,↓reduceIte,ex,r,Sem.run_bind,g,Result.andThen_ok,eW,Sem.run_pure,cond_false]
   ·have eW:=run_neq_struct (P:=P) w t xs.toArray p.toArray;rw[dI] at eW;simp only[execOp,↓reduceIte,ex,r,Sem.run_bind,g,Result.andThen_ok,eW,Sem.run_pure,ci]
 ·cases h
end
theorem qd{P:Program}{w:World}(d:Nat){t e:TypeId}{k:IntKind}(d6:P.underlying t=some (.array 2 e))(he:P.underlying e=some (.int k))(aV:eR P e=some 1){k0 k1:IntKind}(ev dR fl eW:Int):
  (Op.equalIn (d+2) t (.agg #[.int k0 ev,.int k1 dR]) (.agg #[.int k0 fl,.int k1 eW])).run P w=.ok (ev==fl&&dR==eW) w:=by
 have eF:(sizeOf e).run P w=.ok 1 w:=eg aV w;have q:ks P e=some false:=by simp [ks,he,yE]
 have p:∀(xs:Array Value) (i:Nat) (v:Value),xs[i]? =some v→(part e xs i).run P w=.ok v w:=fun xs i v h=>by simp [part,iH q,h]
 obtain⟨e3,cF⟩:∃e3,e3=d+1:=⟨_,rfl⟩;have r:∀(k0:IntKind) (a b:Int),(Op.equalIn e3 e (.int k0 a) (.int k0 b)).run P w=.ok (a==b) w:=fun k0 a b=>by rw[cF];exact run_equalIn_int w d e k0 k a b he
 rw[show d+2=e3+1 by omega];simp only[Op.equalIn,Sem.run_bind,run_underlying d6,Result.andThen_ok,eF];simp only[Std.Legacy.Range.forIn_eq_forIn_range',Std.Legacy.Range.size,List.range',Nat.sub_zero,Nat.add_sub_cancel,Nat.div_one,List.forIn_cons,List.forIn_nil,Sem.run_bind,Nat.mul_one,bc,Nat.reduceAdd,Nat.reduceSub,Nat.reduceDiv];rw[p _ 0 (.int k0 ev) rfl];simp only[Result.andThen_ok];rw[p _ 0 (.int k0 fl) rfl];simp only[Result.andThen_ok];rw[r];cases eU:ev==fl with
 |false=>simp
 |true=>simp only[Result.andThen_ok,gV,bL,↓reduceIte,Sem.run_pure,Sem.run_bind];rw[p _ 1 (.int k1 dR) rfl];simp only[Result.andThen_ok];rw[p _ 1 (.int k1 eW) rfl];simp only[Result.andThen_ok];rw[r];cases ar:dR==eW<;> simp
section
variable{P:Program}{ty:TypeId}{ρ:Operand→Value}{κ:a5}{s:ag}{w:World}
theorem xj{T:ki}(eu:T.oO P)(aV:cL κ s w){k0 k1:IntKind}{b neg:Bool}{v u:ae}{t yt:TypeId}{x y:Operand}{e:TypeId}{k:IntKind}{op:BinOp}(B:op=if neg then .neq else .eql)(d6:P.underlying t=some (.array 2 e))(he:T.eqs t=true)(hu:P.underlying e=some (.int k))(hr:eR P e=some 1)
  (aZ:ds κ (s.aa+1) (v.aq s.aa) (ρ x))(fb:ds κ (s.aa+1) (u.aq s.aa) (ρ y))(h:pt (.agg [.int k0,.int k1]) v u=some b):dB P (.binOp op t x y yt) ty ρ κ s w (.bool (bif neg then !b else b)) s:=by
 obtain⟨ar,ay⟩:=eu.eqs t he;rw[←tQ (d:=s.aa)] at h;generalize H:v.aq s.aa=fp at *;generalize I:u.aq s.aa=J at *;simp only[pt] at h;split at h
 ·rename_i cs io;cases p:eN [.int k0,.int k1] cs&&eN [.int k0,.int k1] io with
  |false=>rw[p] at h;cases h
  |true=>
   rw[p] at h;rw[bm] at p;have A:∀cs,eN [.int k0,.int k1] cs=true→∃ev dR,cs=[.int k0 ev,.int k1 dR]:=fun cs h=>by
    match cs with
    |[]=>simp [eN] at h
    |[c]=>cases c<;> simp [eN] at h
    |c::nk::l=>
     cases c<;> simp [eN] at h;cases nk<;> simp [eN] at h;obtain⟨rfl,rfl,ch⟩:=h;cases l with
     |nil=>exact⟨_,_,rfl⟩
     |cons _ _=>simp [eN] at ch
   obtain⟨ev,dR,rfl⟩:=A cs p.1;obtain⟨fl,eW,rfl⟩:=A io p.2;obtain⟨xs,ex,fG⟩:=aZ.l0;obtain⟨M,r,F⟩:=fb.l0;have two:∀(ev dR:Int) (xs:List Value),d9 κ (s.aa+1) [.int k0 ev,.int k1 dR] xs→xs=[.int k0 ev,.int k1 dR]:=fun ev dR xs h=>by
    match xs,h with
    |[li,cg],h=>rw[(h.2 0 _ _ rfl rfl).ef,(h.2 1 _ _ rfl rfl).ef]
   rw[two _ _ _ fG] at ex;rw[two _ _ _ F] at r;simp only[iC,↓reduceIte,eb,Bool.and_true,ci,a8] at h;have run:=qd (P:=P) (w:=w) 9998 d6 hu hr (k0:=k0) (k1:=k1) ev dR fl eW;have g:=fun op=>run_eqGuard_agg (P:=P) w op t x y #[.int k0 ev,.int k1 dR] #[.int k0 fl,.int k1 eW] ay
   refine bs aV _ (fun dst pos after guard=>?_) (.bool _);subst B;cases neg
   ·have q:=run_eql_struct (P:=P) w t #[.int k0 ev,.int k1 dR] #[.int k0 fl,.int k1 eW];rw[run] at q;simp only[execOp,bL,↓reduceIte,ex,r,Sem.run_bind,g,Result.andThen_ok,q,Sem.run_pure,cond_false,←h]
   ·have q:=run_neq_struct (P:=P) w t #[.int k0 ev,.int k1 dR] #[.int k0 fl,.int k1 eW];rw[run] at q;simp only[execOp,↓reduceIte,ex,r,Sem.run_bind,g,Result.andThen_ok,q,Sem.run_pure,ci,←h]
 ·cases h
end
theorem yQ{κ:a5}{D d:Nat}{v:ae}{x:Value}(bD:ds κ D (v.aq d) x):ds κ D ((n2 v).aq d) x:=by
 unfold n2;split
 ·rename_i sz es a;cases aJ:ae.a6 es with
  |false=>exact bD
  |true=>
   simp only[ci];simp only[ae.aq] at bD ⊢;rcases bD.hf with⟨_,ay,_⟩|⟨fz,cap,di,rfl,cE,df,h,dk,r,p,q⟩
   ·simp [ga.aq] at ay
   ·exact .cm _ _ _ _ _ di trivial df h dk (.inl fun e he=>d5.1 aJ e he) p q
 ·exact bD
theorem BM(s:ag)(v:ae):(mI s v).aq s.aa=v.aq s.aa:=by
 unfold mI;split
 ·rename_i d i o l c z;cases e:Nat.beq d s.aa with
  |false=>rfl
  |true=>have:=c4 e;subst this;rfl
 ·rfl
section
variable{P:Program}{T:ki}(eu:T.oO P){ty:TypeId}{κ:a5}{s:ag}{w:World}(aV:cL κ s w){E:Env}(bh:E.F=.not)(ke:ms P E){an:Nat→ae}{a:Act}(bI:vj κ s an a)(dM:jR κ E.au){k kp:ae→ag→ah}{r:ah}(bg:r≠.fail)
include aV bh bI dM bg
theorem nx{v:Option ae}(h:pQ E s k v=r):∃fp,v=some fp∧k fp s=r:=by
 cases v with
 |none=>exact absurd h.symm bg
 |some fp=>simp only[pQ,bh,aN.not] at h;exact⟨fp,rfl,h⟩
theorem BN{o:BinOp}{x y:br}{kH s5:Operand}{t yt:TypeId}(aZ:cp x kH=true)(fb:cp y s5=true)(aJ:pQ E s k (ao o (ap E.au an x) (ap E.au an y))=r):∃v s',k v s'=r∧nS P (.binOp o t kH s5 yt) ty a.eval κ s w v s':=by
 obtain⟨v,bD,c3⟩:=nx aV bh bI dM bg aJ;refine⟨v,s,c3,.inl ?_⟩;have ar:=bk bI dM aZ;have ay:=bk bI dM fb;generalize ap E.au an x=X at ar bD;generalize ap E.au an y=Y at ay bD;unfold ao at bD;split at bD
 ·exact p6 aV ar.ef ay.ef (.inl rfl) bD
 ·exact p6 aV ar.ef ay.ef (.inr rfl) bD
 ·rename_i k1 dR rr h _ _;split at bD
  ·rename_i e;subst e;exact tH aV ar.ef ay.ef bD
  ·cases bD
 ·exact tI aV ar ay bD
 ·cases bD
theorem Gb{o:UnOp}{x:br}{kH:Operand}{t:TypeId}(aZ:cp x kH=true)(aJ:pQ E s k (kl o (ap E.au an x))=r):∃v s',k v s'=r∧nS P (.unOp o t kH) ty a.eval κ s w v s':=by
 obtain⟨v,bD,c3⟩:=nx aV bh bI dM bg aJ;refine⟨v,s,c3,.inl ?_⟩;have ar:=bk bI dM aZ;generalize ap E.au an x=X at ar bD;unfold kl at bD;split at bD
 ·simp only[a8] at bD;subst bD;exact vr aV ar.ef
 ·simp only[a8] at bD;subst bD;exact vt aV ar.ef
 ·simp only[a8] at bD;subst bD;exact vu aV ar.gB
 ·cases bD
theorem se{f:ae→ae→Option ae}{g:Value→Value→Sem Value}(p:∀x y z X Y,f x y=some z→ds κ (s.aa+1) x X→ds κ (s.aa+1) y Y→∃Z,(g X Y).run P w=.ok Z w∧ds κ (s.aa+1) z Z){xs:List br}{e:List Operand}(fG:dp xs e=true)
  {o:Op}(q:∀x rest,e.map a.eval=x::rest→∀dst pos after guard,execOp a.eval ⟨dst,o,ty,pos,after,guard⟩=(do pure (.value (←rest.foldlM g x)):Sem Next))
  (aJ:kK E s k f (xs.map fun x=>(ap E.au an x).aq s.aa)=r):∃v s',k v s'=r∧nS P o ty a.eval κ s w v s':=by
 have bD:=h9 bI dM xs e fG;cases kg:xs.map (fun x=>(ap E.au an x).aq s.aa) with
 |nil=>rw[kg] at aJ;exact absurd aJ.symm bg
 |cons x l=>
  rw[kg] at aJ bD;cases h:e.map a.eval with
  |nil=>rw[h] at bD;exact absurd bD.1 (by simp)
  |cons Y L=>rw[h] at bD;simp only[kK] at aJ;obtain⟨v,ar,c3⟩:=nx aV bh bI dM bg aJ;obtain⟨V,ay,ch⟩:=wm f g p l L x v Y ar (bD.2 0 x Y rfl rfl) ⟨by have:=bD.1;simpa using this,fun j c y aW fb=>bD.2 (j+1) c y (by simpa using aW) (by simpa using fb)⟩;refine⟨v,s,c3,.inl (bs aV V (fun dst pos after guard=>?_) (by rw[ch.kM];exact ch))⟩;rw[q Y L h];simp [ay]
theorem tZ{o:Op}{ρ:Operand→Value}{v:ae}{s':ag}(c3:k v s'=r)(h:dB P o ty ρ κ s w v s'):∃v s',k v s'=r∧nS P o ty ρ κ s w v s':=⟨v,s',c3,.inl h⟩
theorem mi{o:Op}{ρ:Operand→Value}(h:∃v,k v s=r∧dB P o ty ρ κ s w v s):∃v s',k v s'=r∧nS P o ty ρ κ s w v s':=by obtain⟨v,ar,ay⟩:=h;exact⟨v,s,ar,.inl ay⟩
theorem sT{o:Op}{ρ:Operand→Value}(h:∃v s',k v s'=r∧dB P o ty ρ κ s w v s'):∃v s',k v s'=r∧nS P o ty ρ κ s w v s':=by obtain⟨v,s',ar,ay⟩:=h;exact⟨v,s',ar,.inl ay⟩
include ke in
theorem lr{f:Nat}{args:List ae}{xs:List Value}{o:Op}{ρ:Operand→Value}(aZ:d9 κ (s.aa+1) args xs)(e:∀dst pos after guard,execOp ρ ⟨dst,o,ty,pos,after,guard⟩=callFunc f xs.toArray)(aJ:ee E s k kp f args=r):∃v s',k v s'=r∧nS P o ty ρ κ s w v s':=by
 unfold ee at aJ;cases aW:E.call f args s with
 |fail=>rw[aW] at aJ;exact absurd aJ.symm bg
 |panic v s'=>exact absurd aW (ke.m4 _ _ _ _ _)
 |ok v s'=>rw[aW] at aJ;obtain⟨_,h⟩:=cP aJ bg;exact⟨v,s',h,vI ke aV dM aW aZ e⟩
include ke in
theorem pa{f:Nat}{args:List ae}{xs:List Value}{o:Op}{ρ:Operand→Value}(aZ:d9 κ (s.aa+1) args xs)(h:∀dst pos after guard,execOp ρ ⟨dst,o,ty,pos,after,guard⟩=callFunc f xs.toArray)(aJ:hd E s k f args=r):∃v s',k v s'=r∧nS P o ty ρ κ s w v s':=by
 unfold hd at aJ;obtain⟨p,e⟩:=cP aJ bg;cases aW:E.call f args {own:=[],up:=[],ro:=[]} with
 |fail=>rw[aW] at e;exact absurd e.symm bg
 |panic v s'=>exact absurd aW (ke.m4 _ _ _ _ _)
 |ok v s'=>rw[aW] at e;obtain⟨q,y⟩:=cP e bg;exact⟨v,s,y,tX ke aV dM aW q aZ p h⟩
include eu ke in
theorem yR{af:fV}{op:Op}(h:en T af op=true)(aJ:aE E an s k kp af=r):∃v s',k v s'=r∧nS P op ty a.eval κ s w v s':=by
 have ka:E.F=.not:=bh;cases af with
 |move x=>
  simp only[aE,bh,aN.not] at aJ;simp only[en] at h;split at h
  ·exact tZ aV bh bI dM bg aJ (r6 aV (bk bI dM h))
  ·exact tZ aV bh bI dM bg aJ (o2 aV (bk bI dM h))
  ·cases h
 |nm x=>
  simp only[aE,bh,aN.not] at aJ;simp only[en] at h;split at h
  ·exact tZ aV bh bI dM bg aJ (r6 aV (yQ (bk bI dM h)))
  ·exact tZ aV bh bI dM bg aJ (o2 aV (yQ (bk bI dM h)))
  ·cases h
 |nl x=>
  simp only[aE] at aJ;simp only[en] at h;split at h
  ·exact sT aV bh bI dM bg (qa aV bh bg (fun _ _ _ _=>by simp [execOp]) (bk bI dM h) aJ)
  ·exact sT aV bh bI dM bg (qa aV bh bg (fun _ _ _ _=>by simp [execOp]) (bk bI dM h) aJ)
  ·cases h
 |pick c x y=>
  simp only[aE] at aJ;simp only[en] at h;split at h
  ·simp only[bm] at h;have aW:=bk bI dM h.1.1;generalize ap E.au an c=X at aW aJ;cases X<;> simp only[mK,bh,aN.not] at aJ<;> try exact absurd aJ.symm bg
   exact tZ aV bh bI dM bg aJ (yD aV aW.gB (bk bI dM h.1.2) (bk bI dM h.2))
  ·cases h
 |alloc z=>
  simp only[aE,bh,aN.not] at aJ;simp only[en] at h;split at h
  ·exact tZ aV bh bI dM bg aJ (xe aV (eu.zero h))
  ·cases h
 |e7 x=>
  simp only[aE,bh,aN.not] at aJ;simp only[en] at h;obtain⟨I,N⟩:=cP aJ bg;split at h
  ·exact tZ aV bh bI dM bg N (xf aV (bk bI dM h) I)
  ·cases h
 |ju x=>
  simp only[aE,bh,aN.not] at aJ;simp only[en] at h;obtain⟨I,N⟩:=cP aJ bg;split at h
  ·exact tZ aV bh bI dM bg N (vB aV (bk bI dM h) I)
  ·cases h
 |build z eo=>
  simp only[aE] at aJ;simp only[en] at h;obtain⟨v,ar,c3⟩:=nx aV bh bI dM bg aJ;cases ae:eY E.au s.aa an z eo with
  |none=>rw[ae] at ar;cases ar
  |some cs=>
   rw[ae] at ar;simp only[eb,a8] at ar;subst ar;split at h
   ·rename_i t A;split at h
    ·rename_i jD d6;split at h
     ·rename_i pl al;simp only[bm] at h
      have:=oT (ty:=ty) aV bI dM (eu.dS _ _ d6) (eu.zero h.1) (pl:=pl.toArray) (by simpa using nR eu _ _ al) h.2 ae;exact tZ aV bh bI dM bg c3 (by simpa using this)
     ·cases h
    ·rename_i n el d6;split at h
     ·rename_i sz eF;simp only[bm] at h
      have:=pA (ty:=ty) aV bI dM (eu.dS _ _ d6) (eu.size eF) (eu.zero h.1) h.2 ae;exact tZ aV bh bI dM bg c3 (by simpa using this)
     ·cases h
    ·cases h
   ·cases h
 |buildSlice sz eo=>
  simp only[aE,hz,bh,aN.not] at aJ;simp only[en] at h;obtain⟨I,N⟩:=cP aJ bg;split at h
  ·rename_i t len A;split at h
   ·rename_i el d6;simp only[bm,beq_iff_eq] at h;obtain⟨⟨⟨⟨⟨ar,ay⟩,ch⟩,dk⟩,H⟩,B⟩:=h;obtain⟨M,e,U⟩:=jz 0 eo A.toList B;have hlen:eo.length=M.length:=by
     have:∀(eo:List br) (A:List Operand),dp eo A=true→eo.length=A.length:=by
      intro eo
      induction eo with
      |nil=>intro A h;cases A<;> simp [dp] at h ⊢
      |cons p eo ac=>intro A h;cases A with
       |nil=>simp [dp] at h
       |cons q A=>simp only[dp,bm] at h;simp [ac A h.2]
     exact this eo M U
    have bO:len=M.length:=by rw[←hlen];exact c4 dk
    simp only[bm,List.all_eq_true,Nat.beq_eq_true_eq] at I;have ak:=dL H
    have:=p7 (ty:=ty) aV bI dM (eu.dS _ _ d6) (eu.size ar) (eu.zero ay) (c4 ch) (by rw[←bO];omega) U I.1 (fun e he=>⟨(I.2 e he).1,c4 (I.2 e he).2⟩);rw[←e] at this;rw[bO];exact tZ aV bh bI dM bg N (by simpa using this)
   ·cases h
  ·cases h
 |load n x=>
  simp only[aE] at aJ;simp only[en] at h;split at h
  ·simp only[bm] at h;exact mi aV bh bI dM bg (yG aV bh bg (eu.load h.1) (bk bI dM h.2) aJ)
  ·cases h
 |store n x v=>
  simp only[aE] at aJ;simp only[en] at h;split at h
  ·simp only[bm,beq_iff_eq] at h;exact sT aV bh bI dM bg (p8 aV bh bg (eu.size h.1.1) (bk bI dM h.1.2) (bk bI dM h.2) aJ)
  ·cases h
 |kG m y n x v=>
  simp only[aE,kT] at aJ;simp only[en] at h;split at h
  ·simp only[bm,beq_iff_eq] at h;obtain⟨v,s',dI,J⟩:=sT aV bh bI dM bg (p8 aV bh bg (eu.size h.1.1) (bk bI dM h.1.2) (bk bI dM h.2) aJ);exact⟨v,s',(cP dI bg).2,J⟩
  ·cases h
 |nilCheck x=>
  simp only[aE] at aJ;simp only[en] at h;split at h
  ·have aZ:=bk bI dM h;generalize ap E.au an x=X at aZ aJ;unfold iE at aJ;split at aJ
   ·simp only[bh,aN.not] at aJ;exact tZ aV bh bI dM bg aJ (sR aV aZ (by assumption))
   ·exact absurd aJ.symm bg
  ·cases h
 |bin o x y=>
  simp only[aE] at aJ;simp only[en] at h;split at h
  ·simp only[bm,wl,cj] at h;obtain⟨⟨rfl,ay⟩,ch⟩:=h;exact BN aV bh bI dM bg ay ch aJ
  ·cases h
 |eq neg e x y=>
  simp only[aE] at aJ;simp only[en] at h;obtain⟨v,ar,c3⟩:=nx aV bh bI dM bg aJ;split at h
  ·split at h
   ·rename_i d d6;simp only[bm,wl,cj] at h;obtain⟨⟨⟨dI,ay⟩,ch⟩,dk⟩:=h;cases he:pt e (ap E.au an x) (ap E.au an y) with
    |none=>rw[he] at ar;cases ar
    |some b=>
     rw[he] at ar;simp only[eb,a8] at ar;subst ar;rcases(Bool.or_eq_true _ _).mp ay with ay|ay
     ·exact tZ aV bh bI dM bg c3 (F8 aV dI (eu.dS _ _ d6) ay (bk bI dM ch) (bk bI dM dk) he)
     ·unfold Sb at ay;split at ay
      ·simp only[bm] at ay;exact tZ aV bh bI dM bg c3 (xi eu aV dI (eu.dS _ _ d6) ay.1 ay.2 (bk bI dM ch) (bk bI dM dk) he)
      ·simp only[bm,beq_iff_eq] at ay;obtain⟨⟨H,B⟩,O⟩:=ay;split at B
       ·rename_i hu;exact tZ aV bh bI dM bg c3 (xj eu aV dI (eu.dS _ _ d6) H (eu.dS _ _ hu) (eu.size O) (bk bI dM ch) (bk bI dM dk) he)
       ·cases B
      ·cases ay
   ·cases h
  ·cases h
 |un o x=>
  simp only[aE] at aJ;simp only[en] at h;split at h
  ·simp only[bm,cj] at h;obtain⟨rfl,ay⟩:=h;exact Gb aV bh bI dM bg ay aJ
  ·cases h
 |kS d x=>
  simp only[aE] at aJ;simp only[en] at h;split at h
  ·split at h
   ·rename_i V Y;simp only[bm,cj] at h;obtain⟨rfl,ay⟩:=h;have aZ:=bk bI dM ay;generalize ap E.au an x=X at aZ aJ;cases X<;> simp only[jH,bh,aN.not] at aJ<;> try exact absurd aJ.symm bg
    exact tZ aV bh bI dM bg aJ (tJ aV (eu.dS _ _ V) (eu.dS _ _ Y) aZ.ef)
   ·cases h
  ·cases h
 |nn x=>
  simp only[aE] at aJ;simp only[en] at h;split at h
  ·split at h
   ·rename_i V Y;have aZ:=bk bI dM h;generalize ap E.au an x=X at aZ aJ;cases X<;> simp only[lP] at aJ<;> try exact absurd aJ.symm bg
    exact tZ aV bh bI dM bg aJ (vv aV (eu.dS _ _ V) (eu.dS _ _ Y) aZ)
   ·cases h
  ·cases h
 |gu x=>
  simp only[aE] at aJ;simp only[en] at h;split at h
  ·split at h
   ·rename_i V Y;split at h
    ·rename_i iJ;exact mi aV bh bI dM bg (qc aV bh bg (eu.dS _ _ V) (eu.dS _ _ iJ) (eu.dS _ _ Y) (bk bI dM h) aJ)
    ·cases h
   ·cases h
  ·cases h
 |iA x=>
  simp only[aE] at aJ;simp only[en] at h;split at h
  ·split at h
   ·rename_i V Y;split at h
    ·rename_i iJ;exact mi aV bh bI dM bg (qb aV bh bg (eu.dS _ _ V) (eu.dS _ _ Y) (eu.dS _ _ iJ) (bk bI dM h) aJ)
    ·cases h
   ·cases h
  ·cases h
 |jf t x=>
  simp only[aE,bh,aN.not] at aJ;simp only[en] at h;split at h
  ·split at h
   ·cases h
   ·rename_i d cF d6;simp only[bm] at h
    have:=c4 h.1;subst this;exact tZ aV bh bI dM bg aJ (tK aV (eu.dS _ _ d6) (by cases d<;> first|rfl |exact absurd rfl (cF _)) (bk bI dM h.2))
   ·cases h
  ·cases h
 |jU f dw=>
  simp only[aE,bh,aN.not] at aJ;simp only[en] at h;split at h
  ·rename_i vo first as
   simp only[bm] at h;have dI:=c4 h.1.1;have J:first= #[]:=Array.eq_empty_of_size_eq_zero (c4 h.1.2)
   subst dI;subst J
   have:=vC (P:=P) (ty:=ty) aV (f:=f) bI dM h.2;exact tZ aV bh bI dM bg aJ (by simpa using this)
  ·cases h
 |makeSlice z bytes l c=>
  simp only[aE] at aJ;simp only[en] at h;split at h
  ·split at h
   ·rename_i d6;simp only[bm,beq_iff_eq] at h;obtain⟨⟨⟨⟨⟨ar,ay⟩,ch⟩,dk⟩,H⟩,B⟩:=h;exact sT aV bh bI dM bg (rN aV bh bg (eu.dS _ _ d6) (eu.zero ar) (eu.size ay) (eu.bytes ch) (by simpa [Nat.blt_eq] using dk) (bk bI dM H) (bk bI dM B) aJ)
   ·cases h
  ·cases h
 |jV x fW bN=>
  simp only[aE] at aJ;simp only[en] at h;split at h
  ·split at h
   ·rename_i d6;simp only[bm] at h;exact mi aV bh bI dM bg (vz aV bh bg bI dM (eu.dS _ _ d6) h.1.1 h.1.2 h.2 aJ)
   ·cases h
  ·cases h
 |slice sz x fW bN ii=>
  simp only[aE] at aJ;simp only[en] at h;split at h
  ·split at h
   ·rename_i d6;simp only[bm,beq_iff_eq] at h;obtain⟨⟨⟨⟨⟨ar,ay⟩,ch⟩,dk⟩,H⟩,B⟩:=h;exact mi aV bh bI dM bg (xc aV bh bg bI dM (eu.dS _ _ d6) (eu.size ar) ay ch dk H (by intro hm;rw[hm] at B;simpa using B) aJ)
   ·cases h
  ·cases h
 |fieldAddr off x=>
  simp only[aE] at aJ;simp only[en] at h;split at h
  ·split at h
   ·rename_i d6;split at h
    ·rename_i ag;split at h
     ·rename_i hr;simp only[bm] at h;exact mi aV bh bI dM bg (rL aV bh bg (eu.dS _ _ d6) ag (c4 h.1.1) (eu.size hr) (by have:=h.1.2;rw[Nat.blt_eq] at this;omega) (bk bI dM h.2) aJ)
     ·cases h
    ·cases h
   ·cases h
  ·cases h
 |field off n x=>
  simp only[aE] at aJ;simp only[en] at h;split at h
  ·split at h
   ·rename_i d6;split at h
    ·rename_i ag;simp only[bm] at h;exact mi aV bh bI dM bg (xa aV bh bg (eu.dS _ _ d6) ag (c4 h.1.1) (eu.load h.1.2) (bk bI dM h.2) aJ)
    ·cases h
   ·cases h
  ·cases h
 |h7 sz x i=>
  simp only[aE] at aJ;simp only[en] at h;split at h
  ·split at h
   ·rename_i d6;simp only[bm,beq_iff_eq] at h;exact mi aV bh bI dM bg (xb aV bh bg (eu.dS _ _ d6) (eu.size h.1.1) (bk bI dM h.1.2) (bk bI dM h.2) aJ)
   ·cases h
  ·cases h
 |e8 sz len x i=>
  simp only[aE] at aJ;simp only[en] at h;split at h
  ·split at h
   ·rename_i d6;simp only[bm,beq_iff_eq] at h
    have:=c4 h.1.1.1;subst this;exact mi aV bh bI dM bg (vy aV bh bg (eu.dS _ _ d6) (eu.size h.1.1.2) (bk bI dM h.1.2) (bk bI dM h.2) aJ)
   ·cases h
  ·cases h
 |ml x i=>
  simp only[aE] at aJ;simp only[en] at h;split at h
  ·split at h
   ·rename_i d6;simp only[bm] at h;exact mi aV bh bI dM bg (vx aV bh bg (eu.dS _ _ d6) (bk bI dM h.1) (bk bI dM h.2) aJ)
   ·cases h
  ·cases h
 |np sz len n x i=>
  simp only[aE] at aJ;simp only[en] at h;split at h
  ·split at h
   ·rename_i d6;simp only[bm,beq_iff_eq] at h
    have:=c4 h.1.1.1.1;subst this;exact mi aV bh bI dM bg (vw aV bh bg (eu.dS _ _ d6) (eu.size h.1.1.1.2) (eu.load h.1.1.2) (bk bI dM h.1.2) (bk bI dM h.2) aJ)
   ·cases h
  ·cases h
 |extract x i=>
  simp only[aE] at aJ;simp only[en] at h;split at h
  ·simp only[bm] at h
   have:=c4 h.1;subst this;have aZ:=bk bI dM h.2;generalize ap E.au an x=X at aZ aJ;cases X<;> simp only[jG] at aJ<;> try exact absurd aJ.symm bg
   rename_i vs;obtain⟨v,ar,c3⟩:=nx aV bh bI dM bg aJ;obtain⟨xs,ex,bO,bD⟩:=ds.tF (x:=a.eval _) aZ;have bN:=(ez.1 ar).1;exact tZ aV bh bI dM bg c3 (tL aV aZ ar ((bD i v _ ar (fB (by omega:i<xs.length))).kM _))
  ·cases h
 |call f xs=>
  simp only[aE,bh,aN.not] at aJ;simp only[en] at h;split at h
  ·rename_i c;split at h
   ·rename_i vo aW;simp only[bm] at h
    have:=c4 h.1;subst this;exact lr aV bh ke bI dM bg (h9 bI dM _ _ h.2) (fun dst pos after guard=>by rw[kv ⟨_,aW,rfl⟩];simp) aJ
   ·cases h
  ·cases h
 |hI f xs=>
  simp only[aE,bh,aN.not] at aJ;simp only[en] at h;split at h
  ·rename_i c;split at h
   ·rename_i vo aW;simp only[bm] at h
    have:=c4 h.1;subst this;exact pa aV bh ke bI dM bg (h9 bI dM _ _ h.2) (fun dst pos after guard=>by rw[kv ⟨_,aW,rfl⟩];simp) aJ
   ·cases h
  ·cases h
 |ee g xs=>
  simp only[aE] at aJ;simp only[en] at h;split at h
  ·rename_i c;split at h
   ·rename_i g' aW;simp only[bm] at h;have aZ:=bk bI dM h.1;generalize ap E.au an g=X at aZ aJ;cases X<;> simp only[kJ,bh,aN.not] at aJ<;> try exact absurd aJ.symm bg
    obtain⟨M,ad,bD⟩:=ds.s8 (x:=a.eval _) aZ;exact lr aV bh ke bI dM bg ((h9 bI dM _ _ h.2).append bD) (fun dst pos after guard=>by rw[kv ⟨_,aW,ad⟩]) aJ
   ·cases h
  ·cases h
 |lj g xs=>
  simp only[aE] at aJ;simp only[en] at h;split at h
  ·rename_i c;split at h
   ·rename_i g' aW;simp only[bm] at h;have aZ:=bk bI dM h.1;generalize ap E.au an g=X at aZ aJ;cases X<;> simp only[jn,bh,aN.not] at aJ<;> try exact absurd aJ.symm bg
    obtain⟨M,ad,bD⟩:=ds.s8 (x:=a.eval _) aZ;exact pa aV bh ke bI dM bg ((h9 bI dM _ _ h.2).append bD) (fun dst pos after guard=>by rw[kv ⟨_,aW,ad⟩]) aJ
   ·cases h
  ·cases h
 |len b x=>
  simp only[aE] at aJ;simp only[en] at h;split at h
  ·split at h
   ·rename_i d6;simp only[bm] at h;exact mi aV bh bI dM bg (tM aV bh bg (eu.dS _ _ d6) (.inl ⟨h.1,rfl⟩) (bk bI dM h.2) aJ)
   ·rename_i el d6;simp only[bm,Bool.not_eq_true'] at h;exact mi aV bh bI dM bg (tM aV bh bg (eu.dS _ _ d6) (.inr ⟨h.1,el,rfl⟩) (bk bI dM h.2) aJ)
   ·cases h
  ·cases h
 |append sz bytes at_ x y=>
  simp only[aE,hp] at aJ;simp only[en] at h;split at aJ
  rotate_left
  ·exact absurd aJ.symm bg
  split at h
  ·rename_i kH s5 t t2;split at h
   ·rename_i el d6;split at h
    ·rename_i n b z bN;simp only[bm] at h;obtain⟨⟨⟨⟨⟨⟨⟨ar,ay⟩,ch⟩,dk⟩,H⟩,B⟩,O⟩,ab⟩:=h;have dI:=c4 ay;have J:=c4 ch;subst dI;subst J;refine sT aV bh bI dM bg (o6 aV bh bg (z:=z) ⟨eu.dS _ _ d6,?_,eu.info _ _ _ _ bN,c4 dk,by simpa [Nat.blt_eq] using H,dL B⟩ (bk bI dM O) (bk bI dM ab) aJ);split at ar
     ·rename_i lq;exact .inl ⟨_,eu.dS _ _ lq⟩
     ·rename_i lq;exact .inr (eu.dS _ _ lq)
     ·cases ar
    ·cases h
   ·cases h
  ·cases h
 |jg sz bytes at_ x y=>
  simp only[aE,km] at aJ;split at aJ
  rotate_left
  ·exact absurd aJ.symm bg
  rename_i am;rw[←am] at aJ;simp only[hp] at aJ;simp only[en] at h;split at aJ
  rotate_left
  ·exact absurd aJ.symm bg
  split at h
  ·rename_i kH s5 t t2;split at h
   ·rename_i el d6;split at h
    ·rename_i n b z bN;simp only[bm] at h;obtain⟨⟨⟨⟨⟨⟨⟨ar,ay⟩,ch⟩,dk⟩,H⟩,B⟩,O⟩,ab⟩:=h;have dI:=c4 ay;have J:=c4 ch;subst dI;subst J;refine sT aV bh bI dM bg (o6 aV bh bg (z:=z) ⟨eu.dS _ _ d6,?_,eu.info _ _ _ _ bN,c4 dk,by simpa [Nat.blt_eq] using H,dL B⟩ (bk bI dM O) (bk bI dM ab) aJ);split at ar
     ·rename_i lq;exact .inl ⟨_,eu.dS _ _ lq⟩
     ·rename_i lq;exact .inr (eu.dS _ _ lq)
     ·cases ar
    ·cases h
   ·cases h
  ·cases h
 |jh sz bytes at_ x y=>
  simp only[aE,lQ] at aJ;simp only[en] at h;split at aJ
  rotate_left
  ·exact absurd aJ.symm bg
  split at h
  ·rename_i kH s5 t t2;split at h
   ·rename_i el d6;split at h
    ·rename_i n b z bN;simp only[bm] at h;obtain⟨⟨⟨⟨⟨⟨⟨ar,ay⟩,ch⟩,dk⟩,H⟩,B⟩,O⟩,ab⟩:=h;have dI:=c4 ay;have J:=c4 ch;subst dI;subst J;refine sT aV bh bI dM bg (tT aV bh bg (z:=z) ⟨eu.dS _ _ d6,?_,eu.info _ _ _ _ bN,c4 dk,by simpa [Nat.blt_eq] using H,dL B⟩ (bk bI dM O) (bk bI dM ab) aJ);split at ar
     ·rename_i lq;exact .inl ⟨_,eu.dS _ _ lq⟩
     ·rename_i lq;exact .inr (eu.dS _ _ lq)
     ·cases ar
    ·cases h
   ·cases h
  ·cases h
 |ji sz bytes x y=>
  simp only[aE] at aJ;simp only[en] at h;split at h
  ·rename_i kH s5 t t2;split at h
   ·rename_i el d6;split at h
    ·rename_i n b z bN;simp only[bm] at h;obtain⟨⟨⟨⟨⟨⟨⟨ar,ay⟩,ch⟩,dk⟩,H⟩,B⟩,O⟩,ab⟩:=h;have dI:=c4 ay;have J:=c4 ch;subst dI;subst J;refine sT aV bh bI dM bg (tY aV bh bg (z:=z) ⟨eu.dS _ _ d6,?_,eu.info _ _ _ _ bN,c4 dk,by simpa [Nat.blt_eq] using H,dL B⟩ (by rw[BM];exact bk bI dM O) (bk bI dM ab) aJ);split at ar
     ·rename_i lq;exact .inl ⟨_,eu.dS _ _ lq⟩
     ·rename_i lq;exact .inr (eu.dS _ _ lq)
     ·cases ar
    ·cases h
   ·cases h
  ·cases h
 |gi sz eo=>
  simp only[aE,jl,bh,aN.not] at aJ;simp only[en] at h;obtain⟨I,N⟩:=cP aJ bg;split at h
  ·rename_i t len A;split at h
   ·rename_i el d6;simp only[bm,beq_iff_eq] at h;obtain⟨⟨⟨⟨⟨ar,ay⟩,ch⟩,dk⟩,H⟩,B⟩:=h;obtain⟨M,e,U⟩:=jz 0 eo A.toList B;have hlen:eo.length=M.length:=by
     have:∀(eo:List br) (A:List Operand),dp eo A=true→eo.length=A.length:=by
      intro eo
      induction eo with
      |nil=>intro A h;cases A<;> simp [dp] at h ⊢
      |cons p eo ac=>intro A h;cases A with
       |nil=>simp [dp] at h
       |cons q A=>simp only[dp,bm] at h;simp [ac A h.2]
     exact this eo M U
    have bO:len=M.length:=by rw[←hlen];exact c4 dk
    simp only[bm,List.all_eq_true,Nat.beq_eq_true_eq] at I;have ak:=dL H
    have:=pB (ty:=ty) aV bI dM (eu.dS _ _ d6) (eu.size ar) (eu.zero ay) (c4 ch) (by rw[←bO];omega) U rfl I.1 (fun e he=>⟨(I.2 e he).1,c4 (I.2 e he).2⟩);rw[←e] at this;rw[bO];exact tZ aV bh bI dM bg N (by simpa using this)
   ·cases h
  ·cases h
 |gj sz eo=>
  simp only[aE,jm,bh,aN.not] at aJ;simp only[en] at h;obtain⟨I,N⟩:=cP aJ bg;split at h
  ·rename_i t len A;split at h
   ·rename_i el d6;simp only[bm,beq_iff_eq] at h;obtain⟨⟨⟨⟨⟨ar,ay⟩,ch⟩,dk⟩,H⟩,B⟩:=h;obtain⟨M,e,U⟩:=jz 0 eo A.toList B;have hlen:eo.length=M.length:=by
     have:∀(eo:List br) (A:List Operand),dp eo A=true→eo.length=A.length:=by
      intro eo
      induction eo with
      |nil=>intro A h;cases A<;> simp [dp] at h ⊢
      |cons p eo ac=>intro A h;cases A with
       |nil=>simp [dp] at h
       |cons q A=>simp only[dp,bm] at h;simp [ac A h.2]
     exact this eo M U
    have bO:len=M.length:=by rw[←hlen];exact c4 dk
    simp only[bm,List.all_eq_true,Nat.beq_eq_true_eq] at I;have ak:=dL H
    have:=pC (ty:=ty) aV bI dM (eu.dS _ _ d6) (eu.size ar) (eu.zero ay) (c4 ch) (by rw[←bO];omega) U rfl (fun e he=>⟨(I e he).1,c4 (I e he).2⟩);rw[←e] at this;rw[bO];exact tZ aV bh bI dM bg N (by simpa using this)
   ·cases h
  ·cases h
 |ir sz len x fW bN ii=>
  simp only[aE] at aJ;simp only[en] at h;split at h
  ·split at h
   ·rename_i d6;simp only[bm,beq_iff_eq] at h;obtain⟨⟨⟨⟨⟨⟨eU,ar⟩,ay⟩,ch⟩,dk⟩,H⟩,B⟩:=h
    have:=c4 eU;subst this;exact mi aV bh bI dM bg (vA aV bh bg bI dM (eu.dS _ _ d6) (eu.size ar) ay ch dk H (by intro hm;rw[hm] at B;simpa using B) aJ)
   ·cases h
  ·cases h
 |copy sz x y=>
  simp only[aE] at aJ;simp only[en] at h;split at h
  ·rename_i kH s5 t t2;split at h
   ·rename_i el d6;simp only[bm,beq_iff_eq] at h;have aZ:=bk bI dM h.1.2;generalize ap E.au an x=X at aZ aJ;cases X<;> simp only[ln] at aJ<;> try exact absurd aJ.symm bg
    rename_i WU off len cap q;obtain⟨f8,N⟩:=cP aJ bg
    have:=c4 f8;subst this;exact sT aV bh bI dM bg (yM aV bh bg (eu.dS _ _ d6) (eu.size h.1.1) (fun fz av aw ax pv e=>by cases e;rfl) aZ (bk bI dM h.2) N)
   ·cases h
  ·cases h
 |min xs=>
  simp only[aE] at aJ;simp only[en] at h;split at h
  ·rename_i c;split at h
   ·rename_i aW;refine se aV bh bI dM bg (g:=Builtin.min2) F9 h (fun x rest ah dst pos after guard=>?_) aJ;have ai:(c.args.map a.eval).toList=x::rest:=by rw[Array.toList_map];exact ah
    simp only[execOp,resolve,aW,pure_bind,invoke,builtin,Builtin.min_,ai]
   ·cases h
  ·cases h
 |max xs=>
  simp only[aE] at aJ;simp only[en] at h;split at h
  ·rename_i c;split at h
   ·rename_i aW;refine se aV bh bI dM bg (g:=Builtin.max2) Ga h (fun x rest ah dst pos after guard=>?_) aJ;have ai:(c.args.map a.eval).toList=x::rest:=by rw[Array.toList_map];exact ah
    simp only[execOp,resolve,aW,pure_bind,invoke,builtin,Builtin.max_,ai]
   ·cases h
  ·cases h
 |makeMap at_=>
  simp only[aE] at aJ;simp only[en] at h;split at h
  ·exact sT aV bh bI dM bg (tW aV bh bg aJ)
  ·cases h
 |mm kb m x v=>
  simp only[aE] at aJ;simp only[en] at h;have key:∀{t:TypeId} {iS kH fp:Operand} {o:Op},(match T.dS t with
   |some (.map aj _)=>
    match T.dS aj with
    |some d=>kh kb d&&cp m iS&&cp x kH&&cp v fp
    |none=>false
   |_=>false)=true→(∀dst pos after guard,execOp a.eval ⟨dst,o,ty,pos,after,guard⟩=(do Instr.mapUpdate t (a.eval iS) (a.eval kH) (a.eval fp);pure .skip:Sem Next))→∃v s',k v s'=r∧nS P o ty a.eval κ s w v s':=by
   intro t iS kH fp o h ao;split at h
   ·rename_i aj aq d6;split at h
    ·rename_i d cF;simp only[bm] at h;exact sT aV bh bI dM bg (vF aV bh bg (eu.dS _ _ d6) (eu.dS _ _ cF) h.1.1.1 (bk bI dM h.1.1.2) (bk bI dM h.1.2) (bk bI dM h.2) ao aJ)
    ·cases h
   ·cases h
  split at h
  ·exact key h (fun _ _ _ _=>rfl)
  ·exact key h (fun _ _ _ _=>rfl)
  ·cases h
 |lookup kb z ok m x=>
  simp only[aE] at aJ;simp only[en] at h;split at h
  ·split at h
   ·rename_i aj aq d6;split at h
    ·rename_i d n b Z cF bN;simp only[bm,beq_iff_eq] at h;obtain⟨⟨⟨⟨ar,ay⟩,ch⟩,dk⟩,H⟩:=h;subst ch;obtain⟨i,i1,_,_,i2⟩:=eu.info _ _ _ _ bN;exact mi aV bh bI dM bg (vG aV bh bg (eu.dS _ _ d6) (eu.dS _ _ cF) ar i1 i2 ay (bk bI dM dk) (bk bI dM H) aJ)
    ·cases h
   ·cases h
  ·cases h
 |k6 h5 f xs=>
  simp only[aE,bh,aN.not] at aJ;simp only[en] at h;split at h
  ·rename_i c;split at h
   ·rename_i vo aW;simp only[bm] at h
    have:=c4 h.1;subst this;obtain⟨v,s',dI,J⟩:=lr (ty:=ty) (ρ:=a.eval) (o:=.call c) aV bh ke bI dM bg (h9 bI dM _ _ h.2) (fun dst pos after guard=>by rw[kv ⟨_,aW,rfl⟩];simp) aJ;exact⟨v,s',cP dI bg |>.2,J⟩
   ·cases h
  ·cases h
 |jv h5 g xs=>
  simp only[aE] at aJ;simp only[en] at h;split at h
  ·rename_i c;split at h
   ·rename_i g' aW;simp only[bm] at h;have aZ:=bk bI dM h.1;generalize ap E.au an g=X at aZ aJ;cases X<;> simp only[jX,bh,aN.not] at aJ<;> try exact absurd aJ.symm bg
    obtain⟨M,ad,bD⟩:=ds.s8 (x:=a.eval _) aZ;obtain⟨v,s',dI,J⟩:=lr (ty:=ty) (ρ:=a.eval) (o:=.call c) aV bh ke bI dM bg ((h9 bI dM _ _ h.2).append bD) (fun dst pos after guard=>by rw[kv ⟨_,aW,ad⟩]) aJ;exact⟨v,s',cP dI bg |>.2,J⟩
   ·cases h
  ·cases h
 |ts neg x=>
  simp only[aE] at aJ;simp only[en] at h;obtain⟨v,ar,c3⟩:=nx aV bh bI dM bg aJ;split at h
  ·split at h
   ·rename_i d6;simp only[bm,wl,cj] at h;exact tZ aV bh bI dM bg c3 (yK aV h.1 (eu.dS _ _ d6) (bk bI dM h.2) rfl ar)
   ·cases h
  ·cases h
 |no=>exact absurd aJ.symm bg
end
def ah.bind(r:ah)(k kp:ae→ag→ah):ah:=
 match r with
 |.ok v s=>k v s
 |.panic v s=>kp v s
 |.fail=>.fail
section
variable{E:Env}(bh:E.F=.not)(an:Nat→ae)(s:ag)(k kp:ae→ag→ah)
include bh
theorem kY(v:Option ae):pQ E s k v=ah.bind (pQ E s .ok v) k kp:=by cases v<;> simp [pQ,bh,aN.not,ah.bind]
theorem mu(m:Option Nat)(cs:List ae):ew E s k m cs=ah.bind (ew E s .ok m cs) k kp:=by
 cases m<;> simp only[ew,bh,aN.not]
 ·cases cs<;> rfl
 ·cases Nat.ble _ _<;> rfl
theorem xk(a:Loc)(off:Nat)(vs:List ae):iT E s k a off vs=ah.bind (iT E s .ok a off vs) k kp:=by
 simp only[iT,bh,aN.not];cases s.get a with
 |none=>rfl
 |some o=>
  cases o<;> try rfl
  simp only;cases(_&&_:Bool)<;> try rfl
  simp only[ci];cases s.set a _<;> rfl
theorem vK(x:ae)(fW bN:Option br):jk E an s k x fW bN=ah.bind (jk E an s .ok x fW bN) k kp:=by
 cases x<;> simp only[jk,bh,aN.not]<;> try rfl
 cases dv E.au an fW 0<;> try rfl
 cases dv E.au an bN _<;> try rfl
 simp only;cases(_&&_:Bool)<;> rfl
theorem xl(z:Nat)(x:ae)(fW bN ii:Option br):jw E an s k z x fW bN ii=ah.bind (jw E an s .ok z x fW bN ii) k kp:=by
 cases x<;> simp only[jw,bh,aN.not]<;> try rfl
 ·cases dv E.au an fW 0<;> try rfl
  cases dv E.au an bN _<;> try rfl
  cases ii with
  |none=>simp only;cases(_&&_:Bool)<;> rfl
  |some x=>
   simp only;rename_i g _ _;cases eD (ap E.au an x)<;> cases g<;> try rfl
   all_goals simp only;cases(_&&_:Bool)<;> rfl
 ·cases dv E.au an fW 0<;> try rfl
  cases dv E.au an bN _<;> try rfl
  cases dv E.au an ii _<;> try rfl
  simp only;cases(_&&_:Bool)<;> rfl
theorem t0(q bytes:Nat)(b:Loc)(x y:ae):jF E s k q bytes b x y=ah.bind (jF E s .ok q bytes b x y) k kp:=by
 simp only[jF,bh,aN.not];cases y<;> try rfl
 rename_i z new _;cases x<;> try rfl
 rename_i sz es g;simp only;cases(_&&_:Bool)<;> try rfl
 simp only[ci];cases new<;> try rfl
 cases g<;> try rfl
 ·simp only;cases rB s b _<;> try rfl
  simp only[ci];cases s.hk b _<;> rfl
 ·simp only;rename_i a;cases s.get a<;> try rfl
  rename_i o;cases o<;> try rfl
  simp only;cases(_&&_:Bool)<;> try rfl
  simp only[ci];cases s.set a _<;> rfl
theorem vL(z n:Nat)(x:ae)(fW bN ii:Option br):ie E an s k z n x fW bN ii=ah.bind (ie E an s .ok z n x fW bN ii) k kp:=by
 cases x<;> simp only[ie,bh,aN.not]<;> try rfl
 cases dv E.au an fW 0<;> try rfl
 cases dv E.au an bN _<;> try rfl
 cases dv E.au an ii _<;> try rfl
 simp only;cases(_&&_:Bool)<;> rfl
theorem pb(q bytes:Nat)(b:Loc)(x y:ae):iD E s k q bytes b x y=ah.bind (iD E s .ok q bytes b x y) k kp:=by
 simp only[iD,bh,aN.not];cases dD s y with
 |none=>rfl
 |some p=>
  obtain⟨z,new⟩:=p;cases x<;> try rfl
  ·rename_i sz es g;simp only;cases(_&&_:Bool)<;> try rfl
   simp only[ci];cases new<;> try rfl
   cases g<;> try rfl
   ·simp only;cases s.hk b _<;> rfl
   ·simp only;cases s.hk b _<;> rfl
   rename_i a;simp only;cases s.get a<;> try rfl
   rename_i o;cases o<;> try rfl
   simp only;cases(_&&_:Bool)<;> try rfl
   simp only[ci];cases s.set a _<;> rfl
  ·rename_i a off len cap sz;simp only;cases s.get a<;> try rfl
   rename_i o;cases o<;> try rfl
   simp only;cases(_&&_:Bool)<;> try rfl
   simp only[ci];cases s.set a _<;> rfl
theorem vM(kb:vn)(m x v:ae):kU E s k kb m x v=ah.bind (kU E s .ok kb m x v) k kp:=by
 cases m<;> simp only[kU,bh,aN.not]<;> try rfl
 cases s.get _<;> try rfl
 rename_i o;cases o<;> try rfl
 simp only;cases(_&&_:Bool)<;> try rfl
 simp only[ci];cases putKey x v _<;> try rfl
 simp only;cases s.set _ _<;> rfl
theorem vN(kb:vn)(z:ae)(ok:Bool)(m x:ae):kV E s k kb z ok m x=ah.bind (kV E s .ok kb z ok m x) k kp:=by
 simp only[kV,bh,aN.not];cases isKey kb x<;> try rfl
 simp only[ci];cases entriesOf s m<;> try rfl
 simp only;cases findKey x _<;> try rfl
 rename_i o;cases o<;> rfl
theorem BO(sz:Nat)(x i:ae):kd E s k sz x i=ah.bind (kd E s .ok sz x i) k kp:=by
 simp only[kd,bh,aN.not];cases eD i<;> try rfl
 cases x<;> try rfl
 ·simp only;cases Nat.beq _ _<;> try rfl
  simp only[ci];rename_i es _;split<;> rfl
 ·simp only;cases(_&&_:Bool)<;> rfl
theorem vO(sz len:Nat)(x i:ae):hy E s k sz len x i=ah.bind (hy E s .ok sz len x i) k kp:=by
 simp only[hy,bh,aN.not];cases eD i<;> try rfl
 simp only;cases Nat.blt _ _<;> try rfl
 cases x<;> rfl
theorem sf(f:Nat)(args:List ae):ee E s k kp f args=ah.bind (ee E s .ok .panic f args) k kp:=by
 simp only[ee];cases E.call f args s<;> try rfl
 simp only;cases Nat.beq _ _<;> rfl
theorem qe(xs:List (Option Nat×ae))(f:Nat)(args:List ae):hO E s k kp xs f args=ah.bind (hO E s .ok .panic xs f args) k kp:=by
 simp only[hO,ee];cases E.call f args s<;> try rfl
 simp only;cases Nat.beq _ _<;> try rfl
 simp only[ci];cases xs.all _<;> rfl
theorem qf(f:Nat)(args:List ae):hd E s k f args=ah.bind (hd E s .ok f args) k kp:=by
 simp only[hd];cases ae.a6 args<;> try rfl
 simp only[ci];cases E.call f args _<;> try rfl
 rename_i v _;simp only;cases v.bj<;> rfl
theorem xm(n:Option Nat)(v:ae):dP E s k n v=ah.bind (dP E s .ok n v) k kp:=by
 cases v<;> simp only[dP]<;> try rfl
 ·rename_i a off;cases s.get a<;> try rfl
  rename_i o;cases o<;> try rfl
  exact mu bh s k kp _ _
 ·exact mu bh s k kp _ _
theorem rO(off:Nat)(v:ae):gv E s k off v=ah.bind (gv E s .ok off v) k kp:=by cases v<;> simp only[gv,bh,aN.not]<;> rfl
theorem xn(off:Nat)(n:Option Nat)(v:ae):lm E s k off n v=ah.bind (lm E s .ok off n v) k kp:=by
 cases v<;> simp only[lm]<;> try rfl
 exact mu bh s k kp _ _
theorem vP(v i:ae):hT E s k v i=ah.bind (hT E s .ok v i) k kp:=by
 cases v<;> simp only[hT,bh,aN.not]<;> try rfl
 cases eD i<;> try rfl
 simp only;split<;> rfl
theorem vQ(sz len:Nat)(n:Option Nat)(v i:ae):jW E s k sz len n v i=ah.bind (jW E s .ok sz len n v i) k kp:=by
 cases v<;> simp only[jW]<;> try rfl
 cases eD i<;> try rfl
 simp only;cases Nat.blt _ _<;> try rfl
 exact mu bh s k kp _ _
theorem t8(i:Nat)(v:ae):jG E s k i v=ah.bind (jG E s .ok i v) k kp:=by
 cases v<;> simp only[jG]<;> try rfl
 exact kY bh s k kp _
theorem BP(b:Bool)(v:ae):o0 E s k b v=ah.bind (o0 E s .ok b v) k kp:=by cases b<;> cases v<;> simp only[o0,bh,aN.not]<;> rfl
theorem yS(d x:ae):copyV E s k d x=ah.bind (copyV E s .ok d x) k kp:=by
 cases d<;> simp only[copyV,bh,aN.not]<;> try rfl
 rename_i a off len cap sz;cases dD s x<;> try rfl
 simp only;cases s.get a<;> try rfl
 rename_i o;cases o<;> try rfl
 simp only;cases(_&&_:Bool)<;> try rfl
 simp only[ci];cases s.set a _<;> rfl
theorem xo(q:Nat)(d x:ae):ln E s k q d x=ah.bind (ln E s .ok q d x) k kp:=by
 cases d<;> simp only[ln]<;> try rfl
 cases Nat.beq _ _<;> first|rfl |skip
 simp only[ci];exact yS bh s k kp _ _
theorem yT(zero:List ae)(bytes:Nat)(l c:ae):mJ E s k zero bytes l c=ah.bind (mJ E s .ok zero bytes l c) k kp:=by
 simp only[mJ,bh,aN.not];cases eD l<;> try rfl
 cases eD c<;> try rfl
 simp only;cases(_&&_:Bool)<;> rfl
theorem kN(n:Nat)(a v:ae):fr E s k n a v=ah.bind (fr E s .ok n a v) k kp:=by
 cases a<;> simp only[fr]<;> try rfl
 cases(_&&_:Bool)<;> try rfl
 exact xk bh s k kp _ _ _
theorem vR(m:Option Nat)(y:ae)(n:Nat)(a v:ae):kT E s k m y n a v=ah.bind (kT E s .ok m y n a v) k kp:=by
 unfold kT;rw[kN bh s _ kp n a v,kN bh s (fun u t=>bif nq (eE s m y) (eE t m y) then .ok u t else .fail) .panic n a v];cases fr E s .ok n a v<;> try rfl
 simp only[ah.bind];cases nq _ _<;> rfl
theorem t9(d:IntKind)(v:ae):jH E s k d v=ah.bind (jH E s .ok d v) k kp:=by cases v<;> simp only[jH,bh,aN.not]<;> rfl
theorem vS(v:ae):lP s k v=ah.bind (lP s .ok v) k kp:=by cases v<;> rfl
theorem qg(v:ae):gW E s k v=ah.bind (gW E s .ok v) k kp:=by cases v<;> simp only[gW,bh,aN.not]<;> rfl
theorem qh(v:ae):gk E s k v=ah.bind (gk E s .ok v) k kp:=by cases v<;> first|rfl |(simp only[gk];cases dD s _<;> first|rfl |exact kY bh s k kp _)
theorem yU(c a b:ae):mK E s k c a b=ah.bind (mK E s .ok c a b) k kp:=by cases c<;> simp only[mK,bh,aN.not]<;> rfl
theorem sU(v:ae):iE E s k v=ah.bind (iE E s .ok v) k kp:=by
 simp only[iE,bh,aN.not];cases isNil v<;> try rfl
 rename_i b;cases b<;> rfl
theorem xp(v:ae):kI E s k v=ah.bind (kI E s .ok v) k kp:=by
 simp only[kI,bh,aN.not];cases mI s v<;> try rfl
 rename_i a off len cap sz;cases a<;> try rfl
 cases off<;> try rfl
 simp only;rename_i i;cases s.own[i]? <;> try rfl
 rename_i o;cases o<;> try rfl
 simp only;cases(_&&_:Bool)<;> rfl
theorem qi(sz:Nat)(es:List ae):hz E s k sz es=ah.bind (hz E s .ok sz es) k kp:=by simp only[hz,bh,aN.not];cases(_&&_:Bool)<;> rfl
theorem xq(f:ae)(args:List ae):kJ E s k kp f args=ah.bind (kJ E s .ok .panic f args) k kp:=by
 cases f<;> simp only[kJ,bh,aN.not]<;> try rfl
 exact sf bh s k kp _ _
theorem vT(f:ae)(args:List ae):jn E s k f args=ah.bind (jn E s .ok f args) k kp:=by
 cases f<;> simp only[jn,bh,aN.not]<;> try rfl
 exact qf bh s k kp _ _
theorem qj(f:ae→ae→Option ae)(xs:List ae):kK E s k f xs=ah.bind (kK E s .ok f xs) k kp:=by
 cases xs<;> simp only[kK]<;> try rfl
 exact kY bh s k kp _
theorem iW(op:fV):aE E an s k kp op=ah.bind (aE E an s .ok .panic op) k kp:=by
 cases op<;> simp only[aE]
 case move=>simp only[bh,aN.not];rfl
 case nm=>simp only[bh,aN.not];rfl
 case nl=>exact xp bh s k kp _
 case pick=>exact yU bh s k kp _ _ _
 case alloc=>simp only[bh,aN.not];rfl
 case e7 x=>simp only[bh,aN.not];cases(ap E.au an x).fj<;> rfl
 case ju x=>simp only[bh,aN.not];cases(ap E.au an x).fj<;> rfl
 case build=>exact kY bh s k kp _
 case buildSlice=>exact qi bh s k kp _ _
 case load=>exact xm bh s k kp _ _
 case store=>exact kN bh s k kp _ _ _
 case kG=>exact vR bh s k kp _ _ _ _ _
 case nilCheck=>exact sU bh s k kp _
 case bin=>exact kY bh s k kp _
 case eq=>exact kY bh s k kp _
 case un=>exact kY bh s k kp _
 case kS=>exact t9 bh s k kp _ _
 case nn=>exact vS bh s k kp _
 case gu=>exact qh bh s k kp _
 case iA=>exact qg bh s k kp _
 case jf=>simp only[bh,aN.not];rfl
 case jU=>simp only[bh,aN.not];rfl
 case makeSlice=>exact yT bh s k kp _ _ _ _
 case jV=>exact vK bh an s k kp _ _ _
 case slice=>exact xl bh an s k kp _ _ _ _ _
 case fieldAddr=>exact rO bh s k kp _ _
 case field=>exact xn bh s k kp _ _ _
 case h7=>exact BO bh s k kp _ _ _
 case e8=>exact vO bh s k kp _ _ _ _
 case ml=>exact vP bh s k kp _ _
 case np=>exact vQ bh s k kp _ _ _ _ _
 case extract=>exact t8 bh s k kp _ _
 case call=>simp only[bh,aN.not];exact sf bh s k kp _ _
 case ee=>exact xq bh s k kp _ _
 case hI=>simp only[bh,aN.not];exact qf bh s k kp _ _
 case lj=>exact vT bh s k kp _ _
 case len=>exact BP bh s k kp _ _
 case append=>
  simp only[hp];cases hS E.au an _<;> try rfl
  exact pb bh s k kp _ _ _ _ _
 case jh=>
  simp only[lQ];cases hS E.au an _<;> try rfl
  exact t0 bh s k kp _ _ _ _ _
 case gi=>simp only[jl,bh,aN.not];cases(_&&_:Bool)<;> rfl
 case gj=>simp only[jm,bh,aN.not];cases List.all _ _<;> rfl
 case ji=>
  simp only[lF,bh,aN.not];cases dD s _ with
  |none=>rfl
  |some p=>
   obtain⟨z,new⟩:=p;cases new with
   |nil=>rfl
   |cons c new=>
    simp only;split
    ·cases(_&&_:Bool)<;> rfl
    ·split
     ·cases(_&&_:Bool)<;> rfl
     ·rfl
    ·rfl
 case ir=>exact vL bh an s k kp _ _ _ _ _ _
 case jg=>
  simp only[km];cases ap E.au an _<;> try rfl
  simp only[hp];cases hS E.au an _<;> try rfl
  exact pb bh s k kp _ _ _ _ _
 case makeMap=>
  simp only[lG,bh,aN.not];cases hS E.au an _<;> try rfl
  simp only;cases s.hk _ _<;> rfl
 case mm=>exact vM bh s k kp _ _ _ _
 case lookup=>exact vN bh s k kp _ _ _ _ _
 case no=>rfl
 case ts=>exact kY bh s k kp _
 case k6=>simp only[bh,aN.not];exact qe bh s k kp _ _ _
 case jv=>
  simp only[jX,bh,aN.not];cases ap E.au an _<;> try rfl
  exact qe bh s k kp _ _ _
 case copy=>exact xo bh s k kp _ _ _
 case min=>exact qj bh s k kp _ _
 case max=>exact qj bh s k kp _ _
end
def fX(o:Option ae)(k:ae→ag→ah)(s:ag):ah:=
 match o with
 |some v=>k v s
 |none=>.fail
def fV.oU:fV→Nat
 |.load .. |.gu _|.lookup ..=>1
 |.nl _|.alloc _|.ju _|.store .. |.kG .. |.makeSlice .. |.append .. |.jg .. |.jh .. |.gi .. |.gj .. |.ji .. |.copy .. |.call .. |.ee .. |.makeMap _|.mm .. |.k6 .. |.jv ..=>2
 |_=>0
def fV.Hj:fV→List br
 |.move x|.nl x|.e7 x|.ju x|.load _ x|.nilCheck x|.un _ x|.kS _ x|.nn x|.gu x|.iA x|.jf _ x|.fieldAddr _ x|.field _ _ x|.extract x _|.len _ x=>[x]
 |.pick a b c=>[a,b,c]
 |.ts _ x=>[x]
 |.nm x=>[x]
 |.alloc _=>[]
 |.build _ eo=>eo.map (·.2.2)
 |.buildSlice _ xs|.jU _ xs|.call _ xs|.hI _ xs|.min xs|.max xs=>xs
 |.store _ a b|.bin _ a b|.eq _ _ a b|.makeSlice _ _ a b|.h7 _ a b|.e8 _ _ a b|.ml a b|.np _ _ _ a b|.copy _ a b|.lookup _ _ _ a b=>[a,b]
 |.append _ _ c a b=>c.toList++[a,b]
 |.jg _ _ c a b=>c.toList++[a,b]
 |.jh _ _ c a b=>c.toList++[a,b]
 |.gi _ xs=>xs
 |.gj _ xs=>xs
 |.ji _ _ a b=>[a,b]
 |.makeMap c=>c.toList
 |.kG _ y _ a v=>[y,a,v]
 |.mm _ a b c=>[a,b,c]
 |.no=>[]
 |.ee f xs|.lj f xs=>f::xs
 |.k6 h5 _ xs=>h5.map (·.2)++xs
 |.jv h5 f xs=>f::(h5.map (·.2)++xs)
 |.jV x fW bN=>x::(fW.toList++bN.toList)
 |.slice _ x fW bN ii=>x::(fW.toList++bN.toList++ii.toList)
 |.ir _ _ x fW bN ii=>x::(fW.toList++bN.toList++ii.toList)
section
variable{E:Env}(bh:E.F=.not)(an:Nat→ae)
include bh
theorem m5(v:Option ae):∃o,∀s k,pQ E s k v=fX o k s:=⟨v,fun s k=>by cases v<;> simp only[pQ,bh,aN.not,fX]⟩
theorem n9(m:Option Nat)(cs:List ae):∃o,∀s k,ew E s k m cs=fX o k s:=by
 cases m<;> simp only[ew,bh,aN.not]
 ·cases cs
  ·exact⟨none,fun _ _=>rfl⟩
  ·exact⟨some _,fun _ _=>rfl⟩
 ·cases Nat.ble _ _
  ·exact⟨none,fun _ _=>rfl⟩
  ·exact⟨some _,fun _ _=>rfl⟩
theorem vU(x:ae)(fW bN:Option br):∃o,∀s k,jk E an s k x fW bN=fX o k s:=by
 cases x<;> simp only[jk,bh,aN.not]<;> try exact⟨none,fun _ _=>rfl⟩
 cases dv E.au an fW 0<;> try exact⟨none,fun _ _=>rfl⟩
 cases dv E.au an bN _<;> try exact⟨none,fun _ _=>rfl⟩
 simp only;cases(_&&_:Bool)
 ·exact⟨none,fun _ _=>rfl⟩
 ·exact⟨some _,fun _ _=>rfl⟩
theorem vV(z n:Nat)(x:ae)(fW bN ii:Option br):∃o,∀s k,ie E an s k z n x fW bN ii=fX o k s:=by
 cases x<;> simp only[ie,bh,aN.not]<;> try exact⟨none,fun _ _=>rfl⟩
 cases dv E.au an fW 0<;> try exact⟨none,fun _ _=>rfl⟩
 cases dv E.au an bN _<;> try exact⟨none,fun _ _=>rfl⟩
 cases dv E.au an ii _<;> try exact⟨none,fun _ _=>rfl⟩
 simp only;cases(_&&_:Bool)
 ·exact⟨none,fun _ _=>rfl⟩
 ·exact⟨some _,fun _ _=>rfl⟩
theorem xr(z:Nat)(x:ae)(fW bN ii:Option br):∃o,∀s k,jw E an s k z x fW bN ii=fX o k s:=by
 cases x<;> simp only[jw,bh,aN.not]<;> try exact⟨none,fun _ _=>rfl⟩
 ·cases dv E.au an fW 0<;> try exact⟨none,fun _ _=>rfl⟩
  cases dv E.au an bN _<;> try exact⟨none,fun _ _=>rfl⟩
  cases ii with
  |none=>
   simp only;cases(_&&_:Bool)
   ·exact⟨none,fun _ _=>rfl⟩
   ·exact⟨some _,fun _ _=>rfl⟩
  |some x=>
   simp only;rename_i g _ _;cases eD (ap E.au an x)<;> cases g<;> try exact⟨none,fun _ _=>rfl⟩
   all_goals
    simp only;cases(_&&_:Bool)
    ·exact⟨none,fun _ _=>rfl⟩
    ·exact⟨some _,fun _ _=>rfl⟩
 ·cases dv E.au an fW 0<;> try exact⟨none,fun _ _=>rfl⟩
  cases dv E.au an bN _<;> try exact⟨none,fun _ _=>rfl⟩
  cases dv E.au an ii _<;> try exact⟨none,fun _ _=>rfl⟩
  simp only;cases(_&&_:Bool)
  ·exact⟨none,fun _ _=>rfl⟩
  ·exact⟨some _,fun _ _=>rfl⟩
theorem BQ(sz:Nat)(x i:ae):∃o,∀s k,kd E s k sz x i=fX o k s:=by
 simp only[kd,bh,aN.not];cases eD i<;> try exact⟨none,fun _ _=>rfl⟩
 rename_i i;cases x<;> try exact⟨none,fun _ _=>rfl⟩
 ·simp only;cases Nat.beq _ _
  ·exact⟨none,fun _ _=>rfl⟩
  rename_i es _;simp only[ci];cases es[i]?
  ·exact⟨none,fun _ _=>rfl⟩
  ·exact⟨some _,fun _ _=>rfl⟩
 ·simp only;cases(_&&_:Bool)
  ·exact⟨none,fun _ _=>rfl⟩
  ·exact⟨some _,fun _ _=>rfl⟩
theorem vW(sz len:Nat)(x i:ae):∃o,∀s k,hy E s k sz len x i=fX o k s:=by
 simp only[hy,bh,aN.not];cases eD i<;> try exact⟨none,fun _ _=>rfl⟩
 simp only;cases Nat.blt _ _<;> try exact⟨none,fun _ _=>rfl⟩
 cases x<;> first|exact⟨none,fun _ _=>rfl⟩|exact⟨some _,fun _ _=>rfl⟩
theorem qk(f:Nat)(args:List ae):∃o,∀s k,hd E s k f args=fX o k s:=by
 simp only[hd];cases ae.a6 args<;> try exact⟨none,fun _ _=>rfl⟩
 simp only[ci];cases E.call f args _<;> try exact⟨none,fun _ _=>rfl⟩
 rename_i v _;simp only;cases v.bj
 ·exact⟨none,fun _ _=>rfl⟩
 ·exact⟨some _,fun _ _=>rfl⟩
theorem rP(off:Nat)(v:ae):∃o,∀s k,gv E s k off v=fX o k s:=by cases v<;> simp only[gv,bh,aN.not]<;> first|exact⟨none,fun _ _=>rfl⟩|exact⟨some _,fun _ _=>rfl⟩
theorem xt(off:Nat)(n:Option Nat)(v:ae):∃o,∀s k,lm E s k off n v=fX o k s:=by
 cases v<;> simp only[lm]<;> try exact⟨none,fun _ _=>rfl⟩
 exact n9 bh _ _
theorem vX(v i:ae):∃o,∀s k,hT E s k v i=fX o k s:=by
 cases v<;> simp only[hT,bh,aN.not]<;> try exact⟨none,fun _ _=>rfl⟩
 cases eD i<;> try exact⟨none,fun _ _=>rfl⟩
 rename_i eB i;simp only;cases eB[i]?
 ·exact⟨none,fun _ _=>rfl⟩
 ·exact⟨some _,fun _ _=>rfl⟩
theorem vY(sz len:Nat)(n:Option Nat)(v i:ae):∃o,∀s k,jW E s k sz len n v i=fX o k s:=by
 cases v<;> simp only[jW]<;> try exact⟨none,fun _ _=>rfl⟩
 cases eD i<;> try exact⟨none,fun _ _=>rfl⟩
 simp only;cases Nat.blt _ _<;> try exact⟨none,fun _ _=>rfl⟩
 exact n9 bh _ _
theorem ua(i:Nat)(v:ae):∃o,∀s k,jG E s k i v=fX o k s:=by
 cases v<;> simp only[jG]<;> try exact⟨none,fun _ _=>rfl⟩
 exact m5 bh _
theorem BR(b:Bool)(v:ae):∃o,∀s k,o0 E s k b v=fX o k s:=by cases b<;> cases v<;> simp only[o0,bh,aN.not]<;> first|exact⟨none,fun _ _=>rfl⟩|exact⟨some _,fun _ _=>rfl⟩
theorem ub(d:IntKind)(v:ae):∃o,∀s k,jH E s k d v=fX o k s:=by cases v<;> simp only[jH,bh,aN.not]<;> first|exact⟨none,fun _ _=>rfl⟩|exact⟨some _,fun _ _=>rfl⟩
omit bh in
theorem vZ(v:ae):∃o,∀s k,lP s k v=fX o k s:=by cases v<;> simp only[lP]<;> first|exact⟨none,fun _ _=>rfl⟩|exact⟨some _,fun _ _=>rfl⟩
theorem ql(v:ae):∃o,∀s k,gW E s k v=fX o k s:=by cases v<;> simp only[gW,bh,aN.not]<;> first|exact⟨none,fun _ _=>rfl⟩|exact⟨some _,fun _ _=>rfl⟩
theorem yV(c a b:ae):∃o,∀s k,mK E s k c a b=fX o k s:=by cases c<;> simp only[mK,bh,aN.not]<;> first|exact⟨none,fun _ _=>rfl⟩|exact⟨some _,fun _ _=>rfl⟩
theorem sV(v:ae):∃o,∀s k,iE E s k v=fX o k s:=by
 simp only[iE,bh,aN.not];cases isNil v<;> try exact⟨none,fun _ _=>rfl⟩
 rename_i b;cases b
 ·exact⟨some _,fun _ _=>rfl⟩
 ·exact⟨none,fun _ _=>rfl⟩
theorem qm(sz:Nat)(es:List ae):∃o,∀s k,hz E s k sz es=fX o k s:=by
 simp only[hz,bh,aN.not];cases(_&&_:Bool)
 ·exact⟨none,fun _ _=>rfl⟩
 ·exact⟨some _,fun _ _=>rfl⟩
theorem v0(f:ae)(args:List ae):∃o,∀s k,jn E s k f args=fX o k s:=by
 cases f<;> simp only[jn,bh,aN.not]<;> try exact⟨none,fun _ _=>rfl⟩
 exact qk bh _ _
theorem qn(f:ae→ae→Option ae)(xs:List ae):∃o,∀s k,kK E s k f xs=fX o k s:=by
 cases xs<;> simp only[kK]<;> try exact⟨none,fun _ _=>rfl⟩
 exact m5 bh _
theorem uc{op:fV}(aW:op.oU=0)(d:Nat):∃o,∀(s:ag) k kp,s.aa=d→aE E an s k kp op=fX o k s:=by
 have key:∀{f:ag→(ae→ag→ah)→ah},(∃o,∀s k,f s k=fX o k s)→∃o,∀(s:ag) (k kp:ae→ag→ah),s.aa=d→f s k=fX o k s:=fun⟨o,h⟩=>⟨o,fun s k kp _=>h s k⟩
 cases op<;> simp only[fV.oU] at aW<;> first|exact absurd aW (by decide)|skip
 all_goals simp only[aE]
 case nm x=>exact⟨some (n2 (ap E.au an x)),fun s k kp _=>by simp only[bh,aN.not,fX]⟩
 case move x=>exact⟨some (ap E.au an x),fun s k kp _=>by simp only[bh,aN.not,fX]⟩
 case pick c a b=>exact key (yV bh _ _ _)
 case e7 x=>
  cases bD:(ap E.au an x).fj
  ·exact⟨none,fun s k kp _=>by simp only[bh,aN.not,fX,cond_false]⟩
  ·exact⟨some (.bU ((ap E.au an x).aq d).cells),fun s k kp h=>by simp only[bh,aN.not,fX,ci,h]⟩
 case build zero parts=>exact⟨(eY E.au d an zero parts).map .agg,fun s k kp h=>by rw[h];cases eY E.au d an zero parts<;> simp only[pQ,bh,aN.not,fX,eb,Option.map_none]⟩
 case buildSlice=>exact key (qm bh _ _)
 case nilCheck=>exact key (sV bh _)
 case bin=>exact key (m5 bh _)
 case eq=>exact key (m5 bh _)
 case un=>exact key (m5 bh _)
 case kS=>exact key (ub bh _ _)
 case nn=>exact key (vZ _)
 case iA=>exact key (ql bh _)
 case jf t x=>exact⟨some (.iface t ((ap E.au an x).aq d)),fun s k kp h=>by simp only[bh,aN.not,fX,h]⟩
 case jU f dw=>exact⟨some (.fn f (dw.map fun x=>(ap E.au an x).aq d)),fun s k kp h=>by simp only[bh,aN.not,fX,h]⟩
 case jV=>exact key (vU bh an _ _ _)
 case slice=>exact key (xr bh an _ _ _ _ _)
 case ir=>exact key (vV bh an _ _ _ _ _ _)
 case fieldAddr=>exact key (rP bh _ _)
 case field=>exact key (xt bh _ _ _)
 case h7=>exact key (BQ bh _ _ _)
 case e8=>exact key (vW bh _ _ _ _)
 case ml=>exact key (vX bh _ _)
 case np=>exact key (vY bh _ _ _ _ _)
 case extract=>exact key (ua bh _ _)
 case hI f args=>obtain⟨o,h⟩:=qk bh f (args.map fun x=>(ap E.au an x).aq d);exact⟨o,fun s k kp cF=>by simp only[bh,aN.not,cF];exact h s k⟩
 case lj f args=>obtain⟨o,h⟩:=v0 bh (ap E.au an f) (args.map fun x=>(ap E.au an x).aq d);exact⟨o,fun s k kp cF=>by simp only[cF];exact h s k⟩
 case no=>exact⟨none,fun s k kp _=>rfl⟩
 case ts=>exact key (m5 bh _)
 case len=>exact key (BR bh _ _)
 case min xs=>obtain⟨o,h⟩:=qn bh min2 (xs.map fun x=>(ap E.au an x).aq d);exact⟨o,fun s k kp cF=>by simp only[cF];exact h s k⟩
 case max xs=>obtain⟨o,h⟩:=qn bh max2 (xs.map fun x=>(ap E.au an x).aq d);exact⟨o,fun s k kp cF=>by simp only[cF];exact h s k⟩
theorem sg{op:fV}(aW:op.oU=1){s s':ag}{v:ae}(h:aE E an s .ok .panic op=.ok v s'):s'=s:=by
 have k9:∀{m:Option ae},pQ E s .ok m=.ok v s'→s'=s:=fun {m} h=>by cases m<;> simp [pQ,bh,aN.not] at h;exact h.2.symm
 have hh:∀{n:Option Nat} {cs:List ae},ew E s .ok n cs=.ok v s'→s'=s:=fun {n cs} h=>by obtain⟨o,e⟩:=n9 bh n cs;rw[e] at h;cases o<;> simp [fX] at h;exact h.2.symm
 cases op<;> simp only[fV.oU] at aW<;> first|exact absurd aW (by decide)|skip
 all_goals simp only[aE] at h
 case load n a=>
  unfold dP at h;split at h
  ·exact hh h
  ·split at h
   ·exact hh h
   ·cases h
  ·cases h
 case gu x=>
  unfold gk at h;split at h
  ·cases h
  ·split at h
   ·exact k9 h
   ·cases h
 case lookup kb z ok m x=>
  unfold kV at h;simp only[bh,aN.not] at h;cases c3:isKey kb (ae.aq s.aa (ap E.au an x)) with
  |false=>rw[c3] at h;cases h
  |true=>
   rw[c3,ci] at h;split at h
   ·split at h
    ·simp only[ah.ok.injEq] at h;exact h.2.symm
    ·simp only[ah.ok.injEq] at h;exact h.2.symm
    ·cases h
   ·cases h
end
theorem ag.jE{s s':ag}{a:Loc}{o:cO}(h:s.set a o=some s'):s'.aa=s.aa:=by
 unfold ag.set at h;split at h
 ·simp only[a8] at h;subst h;rfl
 ·split at h
  ·simp only[a8] at h;subst h;rfl
  ·split at h
   ·simp only[a8] at h;subst h;simp [ag.aa]
   ·cases h
theorem ag.ls{s s':ag}{a l:Loc}{o:cO}(h:s.hk a o=some (l,s')):s'.aa=s.aa:=by
 unfold ag.hk at h;split at h
 ·simp only[a8,eC] at h;rw[←h.2];rfl
 ·split at h
  ·simp only[a8,eC] at h;rw[←h.2];rfl
  ·split at h
   ·split at h
    ·simp only[a8,eC] at h;rw[←h.2];simp [ag.aa]
    ·cases h
   ·cases h
section
variable{E:Env}(bh:E.F=.not)(an:Nat→ae)
include bh
theorem pc{s s':ag}{v:ae}{a:Loc}{off:Nat}{vs:List ae}(h:iT E s .ok a off vs=.ok v s'):s'.aa=s.aa:=by
 simp only[iT,bh,aN.not] at h;split at h
 ·cases e:(Nat.ble (off+vs.length) _&&s.h8 a vs&&vs.all ae.eO) with
  |false=>rw[e] at h;cases h
  |true=>
   rw[e,ci] at h;split at h
   ·rename_i p;simp only[ah.ok.injEq] at h;rw[←h.2];exact ag.jE p
   ·cases h
 ·cases h
theorem lv{s s':ag}{v:ae}{f:Nat}{args:List ae}(h:ee E s .ok .panic f args=.ok v s'):s'.aa=s.aa:=by
 simp only[ee] at h;split at h
 ·rename_i fp p aW;cases e:Nat.beq p.aa s.aa with
  |false=>rw[e] at h;cases h
  |true=>rw[e,ci] at h;simp only[ah.ok.injEq] at h;rw[←h.2];exact c4 e
 ·cases h
 ·cases h
theorem ny{s s':ag}{v:ae}{xs:List (Option Nat×ae)}{f:Nat}{args:List ae}(h:hO E s .ok .panic xs f args=.ok v s'):ee E s .ok .panic f args=.ok v s'∧∀x,x∈xs→∃l,eE s x.1 x.2=some l∧eE s' x.1 x.2=some l:=by
 simp only[hO,ee] at h ⊢;cases aW:E.call f args s<;> rw[aW] at h<;> try cases h
 rename_i fp p;simp only at h ⊢;cases q:Nat.beq p.aa s.aa with
 |false=>rw[q] at h;cases h
 |true=>
  rw[q,ci] at h;cases e:xs.all fun x=>nq (eE s x.1 x.2) (eE p x.1 x.2) with
  |false=>rw[e] at h;cases h
  |true=>rw[e,ci] at h;simp only[ah.ok.injEq] at h;obtain⟨rfl,rfl⟩:=h;refine⟨by simp,fun x aZ=>?_⟩;exact wg.1 (List.all_eq_true.1 e x aZ)
theorem sh{s s':ag}{v:ae}{m:Option Nat}{y:ae}{n:Nat}{a u:ae}(h:kT E s .ok m y n a u=.ok v s'):fr E s .ok n a u=.ok v s'∧∃l,eE s m y=some l∧eE s' m y=some l:=by
 unfold kT at h;rw[kN bh s _ .panic n a u] at h;cases aV:fr E s .ok n a u with
 |fail=>rw[aV] at h;cases h
 |panic fp t=>rw[aV] at h;cases h
 |ok fp t=>
  rw[aV] at h;simp only[ah.bind] at h;cases e:nq (eE s m y) (eE t m y) with
  |false=>rw[e] at h;cases h
  |true=>rw[e] at h;simp only[ci,ah.ok.injEq] at h;obtain⟨rfl,rfl⟩:=h;exact⟨rfl,wg.1 e⟩
theorem gE{b:Bool}{x:ah}{v:ae}{s':ag}(h:(bif b then x else .fail)=.ok v s'):x=.ok v s':=by
 cases b with
 |true=>exact h
 |false=>cases h
theorem xu{s s':ag}{v:ae}{d x:ae}(h:copyV E s .ok d x=.ok v s'):s'.aa=s.aa:=by
 simp only[copyV,bh,aN.not] at h;split at h
 ·split at h
  ·split at h
   ·have h:=gE bh h;split at h
    ·rename_i e;simp only[ah.ok.injEq] at h;rw[←h.2];exact ag.jE e
    ·cases h
   ·cases h
  ·cases h
 ·cases h
theorem sW{s s':ag}{v:ae}{q b:Nat}{l:Loc}{x y:ae}(h:jF E s .ok q b l x y=.ok v s'):s'.aa=s.aa:=by
 simp only[jF,bh,aN.not] at h;split at h
 ·split at h
  ·have h:=gE bh h;split at h
   ·cases h
   ·split at h
    ·have h:=gE bh h;split at h
     ·rename_i e;simp only[ah.ok.injEq] at h;rw[←h.2];exact ag.ls e
     ·cases h
    ·split at h
     ·have h:=gE bh h;split at h
      ·rename_i p;simp only[ah.ok.injEq] at h;rw[←h.2];exact ag.jE p
      ·cases h
     ·cases h
    ·cases h
  ·cases h
 ·cases h
theorem oa{s s':ag}{v:ae}{q b:Nat}{l:Loc}{x y:ae}(h:iD E s .ok q b l x y=.ok v s'):s'.aa=s.aa:=by
 simp only[iD,bh,aN.not] at h;split at h
 ·cases h
 ·split at h
  ·have h:=gE bh h;split at h
   ·simp only[ah.ok.injEq] at h;rw[←h.2]
   ·split at h
    ·split at h
     ·rename_i e;simp only[ah.ok.injEq] at h;rw[←h.2];exact ag.ls e
     ·cases h
    ·split at h
     ·rename_i e;simp only[ah.ok.injEq] at h;rw[←h.2];exact ag.ls e
     ·cases h
    ·split at h
     ·have h:=gE bh h;split at h
      ·rename_i p;simp only[ah.ok.injEq] at h;rw[←h.2];exact ag.jE p
      ·cases h
     ·cases h
    ·cases h
  ·split at h
   ·have h:=gE bh h;split at h
    ·rename_i p;simp only[ah.ok.injEq] at h;rw[←h.2];exact ag.jE p
    ·cases h
   ·cases h
  ·cases h
theorem yW{op:fV}{s s':ag}{v:ae}(h:aE E an s .ok .panic op=.ok v s'):s'.aa=s.aa:=by
 by_cases eU:op.oU=0
 ·obtain⟨o,e⟩:=uc bh an eU s.aa;rw[e s _ _ rfl] at h;cases o<;> simp [fX] at h;rw[h.2]
 by_cases ar:op.oU=1
 ·rw[sg bh an ar h]
 cases op<;> simp only[fV.oU] at eU ar<;> first|exact absurd trivial eU|exact absurd trivial ar|skip
 all_goals simp only[aE] at h
 case nl x=>
  unfold kI at h;split at h
  ·split at h
   ·simp only[bh,aN.not] at h;have h:=gE bh h;simp only[ah.ok.injEq] at h;rw[←h.2];rfl
   ·cases h
  ·cases h
 case alloc z=>simp only[bh,aN.not,ah.ok.injEq] at h;rw[←h.2];rfl
 case ju x=>simp only[bh,aN.not] at h;have h:=gE bh h;simp only[ah.ok.injEq] at h;rw[←h.2];rfl
 case store n a u=>
  unfold fr at h;split at h
  ·exact pc bh (gE bh h)
  ·cases h
 case kG m y n a u=>
  have h:=(sh bh h).1;unfold fr at h;split at h
  ·exact pc bh (gE bh h)
  ·cases h
 case makeSlice z b l c=>
  unfold mJ at h;split at h
  ·split at h
   ·simp only[bh,aN.not] at h;have h:=gE bh h;simp only[ah.ok.injEq] at h;rw[←h.2];rfl
   ·cases h
  ·cases h
 case call f xs=>simp only[bh,aN.not] at h;exact lv bh h
 case ee f xs=>
  unfold kJ at h;split at h
  ·simp only[bh,aN.not] at h;exact lv bh h
  ·cases h
 case k6 h5 f xs=>simp only[bh,aN.not] at h;exact lv bh (ny bh h).1
 case jv h5 f xs=>
  unfold jX at h;split at h
  ·simp only[bh,aN.not] at h;exact lv bh (ny bh h).1
  ·cases h
 case append=>
  unfold hp at h;split at h
  ·exact oa bh h
  ·cases h
 case jh=>
  unfold lQ at h;split at h
  ·exact sW bh h
  ·cases h
 case gi=>unfold jl at h;simp only[bh,aN.not] at h;have h:=gE bh h;simp only[ah.ok.injEq] at h;rw[←h.2];rfl
 case gj=>unfold jm at h;simp only[bh,aN.not] at h;have h:=gE bh h;simp only[ah.ok.injEq] at h;rw[←h.2];rfl
 case ji=>
  unfold lF at h;simp only[bh,aN.not] at h;split at h
  ·cases h
  split at h
  ·cases h
  split at h
  ·have h:=gE bh h;simp only[ah.ok.injEq] at h;rw[←h.2];rfl
  ·split at h
   ·have h:=gE bh h;simp only[ah.ok.injEq] at h;rw[←h.2];rfl
   ·cases h
  ·cases h
 case jg=>
  unfold km at h;split at h
  ·unfold hp at h;split at h
   ·exact oa bh h
   ·cases h
  ·cases h
 case makeMap=>
  unfold lG at h;split at h
  ·split at h
   ·rename_i p;simp only[bh,aN.not,ah.ok.injEq] at h;rw[←h.2];exact ag.ls p
   ·cases h
  ·cases h
 case mm kb m x u=>
  unfold kU at h;split at h
  ·split at h
   ·have h:=gE bh h;split at h
    ·split at h
     ·rename_i r;simp only[bh,aN.not,ah.ok.injEq] at h;rw[←h.2];exact ag.jE r
     ·cases h
    ·cases h
   ·cases h
  ·cases h
 case copy q d x=>
  unfold ln at h;split at h
  ·exact xu bh (gE bh h)
  ·cases h
end
end Go.Ab
