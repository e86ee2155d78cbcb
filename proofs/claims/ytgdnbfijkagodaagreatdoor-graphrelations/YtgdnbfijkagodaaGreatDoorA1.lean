/- A part of the proof: no condition. -/
import Derived.Test.YtgdnbfijkagodaaGreatDoorA0
import Derived.Laws.IdiomStrings
import Derived.MapKept
import Derived.RangeFuncRecord
import Derived.RangeFuncSeq
import Derived.RangeFuncLeaves
import Derived.RangeFuncCalls
import Derived.OrdersIn
import Derived.Laws.StructEq
set_option linter.unusedSectionVars false
set_option linter.unusedSimpArgs false
set_option linter.unusedVariables false
namespace Go.Ab
theorem tz(z:List ae)(v:Array Value)(hC:∀κ D,ej κ D z v.toList)(n:Nat):∀κ D,ej κ D (List.replicate n z).flatten (madeCells v (n*z.length)).toList:=by
 intro κ D;have bK:v.size=z.length:=by simpa using (hC κ D).1
 refine⟨by simp [madeCells],fun j c x a1 a9=>?_⟩;simp only[madeCells,Array.toList_map,iJ] at a9;by_cases eJ:z.length=0
 ·have:z=[]:=kF eJ;subst this;simp at a1
 ·have df:j<n*z.length:=by
   have:=(eA.1 a1).1;simpa using this
  have aQ:(Array.range (n*z.length)).toList[j]? =some j:=by simp [df]
  rw[aQ] at a9;simp only[ep,bj] at a9;have hm:j%z.length<z.length:=Nat.mod_lt _ (by omega);have kL:z[j%z.length]? =some c:=by
   have:∀(n j:Nat),j<n*z.length→(List.replicate n z).flatten[j]? =z[j%z.length]?:=by
    intro n
    induction n with
    |zero=>intro j df;simp at df
    |succ n e=>
     intro j df;rw[List.replicate_succ,List.flatten_cons];by_cases ar:j<z.length
     ·rw[ha ar,hl ar]
     ·rw[jW (by omega),e _ (by rw[Nat.succ_mul] at df;omega),←Nat.mod_eq_sub_mod (by omega)]
   rw[←this n j df];exact a1
  have h:v.toList[j%z.length]? =some x:=by
   have r:j%v.size<v.size:=by rw[bK];exact hm
   rw[←a9];simp only[bK] at r ⊢;simp [bK,hm]
  exact(hC κ D).2 _ c x kL h
section
variable{P:Program}{ty:TypeId}{ρ:Operand→Value}{κ:bh}{s:ag}{w:World}(a3:cY κ s w)
include a3
theorem sn{E:Env}(bo:E.F=.not){k:ae→ag→ah}{r:ah}(bt:r≠.fail){t el:TypeId}{z:List ae}{bytes:Nat}{l c:ae}{x y:Operand}(dU:P.underlying t=some (.slice el))(hC:jT P el z=true)(eZ:e9 P el=some z.length)(u:(P.info? el).map (·.bytes)=some bytes)(A:0<bytes)
  (a9:dA κ (s.aa+1) (l.ap s.aa) (ρ x))(eQ:dA κ (s.aa+1) (c.ap s.aa) (ρ y))(aQ:m3 E s k z bytes l c=r):∃fB s',k fB s'=r∧dK P (.makeSlice t x y) ty ρ κ s w fB s':=by
 unfold m3 at aQ;cases bK:eX l with
 |none=>rw[bK] at aQ;exact absurd aQ.symm bt
 |some m=>
  cases a1:eX c with
  |none=>rw[bK,a1] at aQ;exact absurd aQ.symm bt
  |some n=>
   rw[bK,a1] at aQ;simp only[bo,aU.not] at aQ;obtain⟨h,B⟩:=cV aQ bt;rw[bm] at h;have ar:=dW h.1;have av:=dW h.2;obtain⟨H,rfl⟩:=iZ bK;obtain⟨I,rfl⟩:=iZ a1;obtain⟨v,e,bJ,_,i,bY,J⟩:=kN hC w;have K:i.size=z.length:=by simpa [e9,bY] using eZ
   have L:i.bytes=bytes:=by simpa [bY] using u
   have M:(n:Int)≤9223372036854775807:=by have:n*1≤n*bytes:=Nat.mul_le_mul_left _ A;omega
   have hmul:(i.bytes:Int)*(n:Int)≤281474976710656:=by
    have:(i.bytes:Int)*(n:Int)=((n*bytes:Nat):Int):=by rw[L,et];simp
    omega
   have run:=run_make w t el i v dU bY J H I m n (by omega) (by omega) hmul M;simp only[Int.toNat_natCast,K] at run;obtain⟨κ',hb,g2,N,m7⟩:=a3.oH (List.replicate n z).flatten (madeCells v.cells (n*z.length)) el (tz z v.cells bJ n _ _) (w':=w.alloc (.cells (madeCells v.cells (n*z.length)) el)) rfl rfl rfl rfl;refine⟨_,_,B,.slice (some ⟨w.heap.size,0,none⟩) m n,κ',_,.inl (fun _ _ _ _=>?_),g2,hb,?_⟩
   ·simp [execOp,a9.ew,eQ.ew,run]
   ·simp only[ae.ap,Loc.ap];rw[←N];exact .cZ _ _ _ _ _ _ _ (Nat.lt_succ_self _) m7 ar (.inl rfl)
omit a3 in
theorem nw{vs:List ae}(h:vs.all ae.eG=true){D:Nat}{xs:List Value}(bJ:ej κ D vs xs):∀x∈xs,x.oneCell'=true:=by
 intro x a9;obtain⟨j,df⟩:=List.mem_iff_getElem?.1 a9;have e:=(eA.1 df).1;have r:j<vs.length:=by rw[←bJ.1];exact e
 have a1:vs[j]? =some vs[j]:=eI r;exact(bJ.2 j _ x a1 df).JK (List.all_eq_true.1 h _ (List.mem_of_getElem? a1))
theorem m8{d i off:Nat}{cs:List ae}{xs:List Value}(cB:s.get (.g d i)=some (.cells cs))(B:off+xs.length≤cs.length)(ar:∀x∈xs,x.oneCell'=true):
  (storeCells ⟨κ.loc d i,off,none⟩ xs).run P w=.ok () (w.setCells (κ.loc d i) off xs):=by
 obtain⟨⟨C,e,jt,r,y,A,_⟩,F⟩:=a3.obj d i _ cB;have H:cs.length≤C.size:=by have:=A.1;simp at this;omega
 have:=run_storeCells_cells (P:=P) (κ.loc d i) off xs 0 w (fun j df=>by rw[fI r];simp;omega) (fun j df=>?_) ar
 ·simpa using this
 ·have hu:=y (off+0+j) (by omega);simp only[World.frozen?,r];rw[Bool.and_eq_false_iff];by_cases u:jt.1≤off+0+j
  ·right;simp only[decide_eq_false_iff_not];exact fun h=>hu ⟨u,h⟩
  ·left;simpa using u
omit a3 in
theorem mL{a:Loc}{d i:Nat}(r:a.ap s.aa=.g d i){vs:List ae}{xs:List Value}(bJ:ej κ (s.aa+1) vs xs)(h:s.ho a vs=true):ej κ (d+1) vs xs:=by
 unfold ag.ho at h;rcases Bool.or_eq_true _ _ ▸ h with h|av
 rcases Bool.or_eq_true _ _ ▸ h with ar|ar
 ·have:d=s.aa:=by
   cases a with
   |l j=>simp [Loc.ap] at r;exact r.1.symm
   |g fG j=>simp [Loc.ap] at r;simp [ag.oD] at ar;omega
  subst this;exact bJ
 ·exact bJ.bb ar _ (fun _ _ h=>h)
 ·cases a with
  |l j=>cases av
  |g e j=>simp only[Loc.ap,Loc.g.injEq] at r;obtain⟨rfl,rfl⟩:=r;exact⟨bJ.1,fun j c x a1 a9=>(bJ.2 j c x a1 a9).lower (nr av a1)⟩
theorem qL{E:Env}(bo:E.F=.not){k:ae→ag→ah}{r:ah}(bt:r≠.fail){t:TypeId}{n:Nat}{x y:Operand}{v u:ae}(dk:e9 P t=some n)(a9:dA κ (s.aa+1) (v.ap s.aa) (ρ x))(eQ:dA κ (s.aa+1) u (ρ y))
  (aQ:fh E s k n v u=r):∃fB s',k fB s'=r∧dK P (.store t x y) ty ρ κ s w fB s':=by
 cases v<;> simp only[ae.ap] at a9<;> simp only[fh] at aQ<;> try exact absurd aQ.symm bt
 rename_i a off;obtain⟨I,h⟩:=cV aQ bt;rw[bm] at I;have hlen:=dj I.2;have J:=eQ.cells I.1;unfold ii at h;rw[←ag.hJ] at h;cases B:a.ap s.aa with
 |l i=>cases a<;> simp [Loc.ap] at B
 |g d i=>
  rw[B] at h a9;obtain⟨e,cR,bY⟩:=a9.mi;cases cB:s.get (.g d i) with
  |none=>rw[cB] at h;exact absurd h.symm bt
  |some o=>
   rw[cB] at h;cases o<;> try exact absurd h.symm bt
   rename_i cs;obtain⟨H,A⟩:=cV h bt;rw[bm,bm] at H;have ar:=dW H.1.1;simp only[bo,aU.not] at A;rw[←ag.lf,B] at A;cases K:s.set (.g d i) (.cells (dN cs off u.cells)) with
   |none=>rw[K] at A;exact absurd A.symm bt
   |some s'=>
    rw[K] at A;have L:(ρ y).cells.toList.length=u.cells.length:=J.1;have M:=mL B J H.1.2;obtain⟨hb,g2⟩:=a3.store cB K M ar;have N:=m8 (P:=P) a3 cB (off:=off) (xs:=(ρ y).cells.toList) (by omega) (nw H.2 J);have eZ:(ρ y).cells.size=n:=by rw[←Array.length_toList,L,hlen]
    refine⟨_,_,A,undef,κ,_,.inr ⟨fun _ _ _ _=>?_,rfl⟩,g2,hb,.dead _⟩;simp [execOp,Instr.storeAt,e,Instr.sureAddr,storeVar,ey dk,eZ,N]
theorem ki{v:ae}{X:Value}{sz:Nat}{es:List ae}(bJ:dA κ (s.aa+1) (v.ap s.aa) X)(h:dG s v=some (sz,es)):
  ((∃fb a,v=.str fb∧X=.string a∧a.data.toList.map UInt8.toNat=fb∧sz=1∧es=fb.map fun b=>.int .u8 (b:Nat))∨
   (∃A c,X=.slice A es.length c∧(A=none→es=[])∧∀a,A=some a→Reads κ (s.aa+1) w a (es.flatMap ae.cells)))∧
  ae.a7 es=true∧∀e,e∈es→e.cells.length=sz:=by
 cases v
 all_goals first|(simp [dG] at h;done)|skip
 case str fb=>
  simp only[dG,bj,eW] at h;obtain⟨rfl,rfl⟩:=h;obtain⟨a,rfl,r⟩:=bJ.h4;refine⟨.inl ⟨fb,a,rfl,rfl,r,rfl,rfl⟩,ed.2 (fun c a1=>?_),fun e he=>?_⟩
  ·obtain⟨b,_,rfl⟩:=List.mem_map.1 a1;rfl
  ·obtain⟨b,_,rfl⟩:=List.mem_map.1 he;rfl
 case cr z l g=>
  have key:(z=sz∧l=es)∧(ae.a7 es=true∨∀a,g≠.dt a):=by
   cases g with
   |dt a=>
    simp only[dG] at h;split at h
    ·rename_i aQ;simp only[bj,eW] at h;exact⟨h,.inl (h.2 ▸ aQ)⟩
    ·cases h
   |nil=>simp only[dG,bj,eW] at h;exact⟨h,.inr fun a e=>by cases e⟩
   |exact=>simp only[dG,bj,eW] at h;exact⟨h,.inr fun a e=>by cases e⟩
   |any=>simp only[dG,bj,eW] at h;exact⟨h,.inr fun a e=>by cases e⟩
  obtain⟨⟨rfl,rfl⟩,u⟩:=key;rcases bJ.ht with⟨rfl,_,rfl⟩|⟨a,cap,dr,rfl,_,_,_,dD,y,B,F⟩
  ·exact⟨.inr ⟨none,0,rfl,fun _=>rfl,fun a r=>(by cases r)⟩,rfl,fun e he=>(by simp at he)⟩
  ·refine⟨.inr ⟨some a,cap,rfl,fun r=>(by cases r),fun fN r=>?_⟩,?_,dD⟩
   rotate_left
   ·rcases u with dc|dc
    ·exact dc
    ·exact ed.2 (y.left fun d j e=>by cases g<;> first|exact dc _ rfl |cases e)
   cases r;exact⟨dr,fun j df=>(a3.iA _ _ (B j df)).2,F⟩
 case cZ a off len cap z=>
  simp only[dG] at h;rw[←ag.hJ] at h;cases r:a.ap s.aa with
  |l i=>cases a<;> simp [Loc.ap] at r
  |g d i=>
   rw[r] at h;simp only[ae.ap,r] at bJ;obtain⟨lE,rfl,cR,bY,_⟩:=bJ.jL;cases cB:s.get (.g d i) with
   |none=>rw[cB] at h;cases h
   |some o=>
    rw[cB] at h;cases o<;> first|(simp at h;done)|skip
    rename_i cs;simp only at h;split at h
    ·rename_i a1;simp only[bj,eW] at h;obtain⟨rfl,rfl⟩:=h;simp only[bm,Bool.not_eq_true'] at a1;have hC:z≠0:=fun eJ=>by rw[eJ] at a1;simp at a1
     have hle:=dW a1.1.2;obtain⟨H,I⟩:=kh z hC len (cs.drop off) (by simp;omega);refine⟨.inr ⟨some ⟨κ.loc d i,off,none⟩,lE,(by rw[fo]),fun r=>(by cases r),fun fN r=>?_⟩,a1.1.1,I⟩;cases r;rw[H];obtain⟨dr,px,qG⟩:=sg (nU a3 cB off) (show d+1≤s.aa+1 by omega);refine⟨dr,fun j df=>px j (by simp at df ⊢;omega),fun j c df=>qG j c ?_⟩;rw[List.getElem?_take] at df;split at df
     ·exact df
     ·cases df
    ·cases h
end
section
variable{P:Program}{ty:TypeId}{ρ:Operand→Value}{κ:bh}{s:ag}{w:World}(a3:cY κ s w)
theorem yf(b:ByteArray)(n:Nat)(κ:bh)(D:Nat):ej κ D (((b.data.toList.map UInt8.toNat).take n).map fun m=>ae.int .u8 (m:Nat)) ((b.extract 0 n).data.map fun c=>Value.int .u8 c.toNat).toList:=by
 have eJ:(b.extract 0 n).data.toList=b.data.toList.take n:=by rw[nv];simp
 have bK:b.data.toList.length=b.size:=Array.length_toList;refine⟨?_,fun j c x a1 a9=>?_⟩
 ·rw[Array.toList_map,eo,eJ];simp only[eo,List.length_take]
 ·rw[Array.toList_map,eJ,iJ] at a9;rw[←List.map_take,List.map_map,iJ] at a1;cases gr:(b.data.toList.take n)[j]? with
  |none=>rw[gr] at a9;cases a9
  |some q=>rw[gr] at a9 a1;simp only[ep,bj,Function.comp] at a9 a1;rw[←a9,←a1];exact .int _ _
theorem fj{X:Value}{sz:Nat}{es:List ae}{v:ae}(h:(∃fb a,v=.str fb∧X=.string a∧a.data.toList.map UInt8.toNat=fb∧sz=1∧es=fb.map fun b=>.int .u8 (b:Nat))∨
   (∃A c,X=.slice A es.length c∧(A=none→es=[])∧∀a,A=some a→Reads κ (s.aa+1) w a (es.flatMap ae.cells)))(eZ:∀e,e∈es→e.cells.length=sz)(n:Nat)(dk:n≤es.length)(w':World)(hw:∀a,w'.cell? a=w.cell? a):
  (Builtin.lenOf X).run P w'=.ok es.length w'∧∃xs:List Value,(Builtin.firstCells sz n X).run P w'=.ok xs.toArray w'∧ej κ (s.aa+1) ((es.take n).flatMap ae.cells) xs:=by
 rcases h with⟨fb,a,_,rfl,r,rfl,rfl⟩|⟨A,c,rfl,ar,av⟩
 ·have u:a.size=fb.length:=by have:=congrArg List.length r;rw[eo,Array.length_toList] at this;exact this
  simp only[eo] at dk ⊢;refine⟨by simp [Builtin.lenOf,u],((a.extract 0 n).data.map fun c=>Value.int .u8 c.toNat).toList,by simp only[Builtin.firstCells,Array.toArray_toList,Sem.run_pure],?_⟩
  have:=yf a n κ (s.aa+1);rw[r] at this;have e:(List.map (fun b=>ae.int IntKind.u8 ((b:Nat):Int)) fb).take n=(fb.take n).map fun m=>ae.int .u8 (m:Nat):=by rw[List.map_take]
  rw[e];have y:∀l:List Nat,(l.map fun m=>ae.int .u8 (m:Nat)).flatMap ae.cells=l.map fun m=>ae.int .u8 (m:Nat):=by
   intro l
   induction l with
   |nil=>rfl
   |cons x l B=>simp [List.flatMap_cons,B,ae.cells]
  rw[y];exact this
 ·refine⟨by simp [Builtin.lenOf],?_⟩;cases A with
  |none=>
   have:=ar rfl;subst this
   have:n=0:=by simpa using dk
   subst this;exact⟨[],by simp [Builtin.firstCells],.nil _ _⟩
  |some a=>
   have aQ:=av a rfl;have F:=e4 es sz eZ;have ie:Reads κ (s.aa+1) w' a (es.flatMap ae.cells):=by obtain⟨dr,px,qG⟩:=aQ;exact⟨dr,fun j df=>by rw[hw];exact px j df,qG⟩
   have hle:n*sz≤(es.flatMap ae.cells).length:=by rw[F];exact fO _ dk
   obtain⟨xs,e,a9⟩:=sL (P:=P) ie hle;refine⟨xs,by simp only[Builtin.firstCells];exact e,?_⟩
   have:(es.flatMap ae.cells).take (n*sz)=(es.take n).flatMap ae.cells:=by
    have bO:es.flatMap ae.cells=(es.take n).flatMap ae.cells++(es.drop n).flatMap ae.cells:=by rw[←List.flatMap_append,List.take_append_drop]
    have dD:((es.take n).flatMap ae.cells).length=n*sz:=by rw[e4 _ sz (fun e he=>eZ e (List.mem_of_mem_take he)),List.length_take,Nat.min_eq_left dk]
    rw[bO,←dD,List.take_left]
   rw[←this];exact a9
theorem CT(e:Nat):∀(r c:Nat),Builtin.growBy e r c≤max c (e+(e+768)/4):=by
 intro r
 induction r with
 |zero=>intro c;simp only[Builtin.growBy];omega
 |succ r h=>
  intro c;simp only[Builtin.growBy];split
  ·omega
  ·have:=h (c+(c+768)/4);omega
theorem nextslicecap_le{e CU:Nat}(h:CU<e):Builtin.nextslicecap e CU≤2*e+400:=by
 unfold Builtin.nextslicecap;split
 ·omega
 ·split
  ·omega
  ·have:=CT e 4 CU;omega
structure m9 (P:Program) (t t2 el:TypeId) (sz bytes:Nat) (z:Value):Prop where
 dU:P.underlying t=some (.slice el)
 lG:(∃hR,P.underlying t2=some (.slice hR))∨P.underlying t2=some .string
 info:∃i,P.info? el=some i∧i.size=sz∧i.bytes=bytes∧i.zero=some z
 ab7:z.cells.size=sz
 JM:0<bytes
 wI:bytes≤1048576
theorem m9.size{t t2 el:TypeId}{sz bytes:Nat}{z:Value}(h:m9 P t t2 el sz bytes z):e9 P el=some sz:=by obtain⟨i,ar,av,_⟩:=h.info;simp [e9,ar,av]
theorem run_append_fits{t t2 el:TypeId}{sz bytes:Nat}{z:Value}(h:m9 P t t2 el sz bytes z){base:Option Addr}{fD i5 n:Nat}{X:Value}{xs:List Value}(bK:(Builtin.lenOf X).run P w=.ok n w)(a1:(Builtin.firstCells sz n X).run P w=.ok xs.toArray w)(dk:fD+n≤i5)
  {w':World}(e:match base with
   |some a=>(storeCells (a.add (fD*sz)) xs).run P w=.ok () w'
   |none=>w'=w):(Builtin.append_ #[t,t2] ty #[.slice base fD i5,X]).run P w=.ok (.slice base (fD+n) i5) w':=by
 cases base with
 |none=>subst e;rcases h.lG with⟨hR,cR⟩|cR<;> simp [Builtin.append_,run_underlying h.dU,run_underlying cR,ey h.size,bK,a1,dk]
 |some a=>simp only at e;rcases h.lG with⟨hR,cR⟩|cR<;> simp [Builtin.append_,run_underlying h.dU,run_underlying cR,ey h.size,bK,a1,dk,e]
theorem iP{t t2 el:TypeId}{sz bytes:Nat}{z:Value}(h:m9 P t t2 el sz bytes z){base:Option Addr}{fD i5 n:Nat}{X:Value}{os xs:List Value}(bK:(Builtin.lenOf X).run P w=.ok n w)
  (a1:(Builtin.firstCells sz n X).run P w.drew=.ok xs.toArray w.drew)(u:(Builtin.firstCells sz fD (.slice base fD i5)).run P w.drew=.ok os.toArray w.drew)
  (e:xs.length=n*sz)(r:os.length=fD*sz)(dk:i5<fD+n)(L:(fD+n)*bytes≤1099511627776):
  ∃cap C,fD+n≤cap∧C.size=cap*sz∧(∀j,j<(fD+n)*sz→C[j]? =(os++xs)[j]?)∧
   (Builtin.append_ #[t,t2] ty #[.slice base fD i5,X]).run P w=.ok (.slice (some ⟨w.heap.size,0,none⟩) (fD+n) cap) (w.drew.alloc (.cells C el)):=by
 obtain⟨i,bY,M,y,A⟩:=h.info;have N:(fD+n)*1≤(fD+n)*bytes:=Nat.mul_le_mul_left _ h.JM;have B:¬(fD+n≤i5):=by omega
 have O:Builtin.nextslicecap (fD+n) i5*bytes≤281474976710656:=by
  have ar:=nextslicecap_le dk;have av:Builtin.nextslicecap (fD+n) i5*bytes≤(2*(fD+n)+400)*bytes:=fO _ ar;have bO:(2*(fD+n)+400)*bytes=2*((fD+n)*bytes)+400*bytes:=by rw[e5,gH]
  have dD:=h.wI;omega
 let cap:=(Question.appendCap (fD+n) i5 el).cut (w.tape w.drawn (.appendCap (fD+n) i5 el))
 have sP:fD+n≤cap:=by simp only[cap,Question.cut];omega
 let C:Array Value:=os.toArray++xs.toArray++Builtin.zeroCells z.cells (cap-(fD+n))
 have F:C.size=cap*sz:=by
  have dM:(fD+n)*sz+(cap-(fD+n))*sz=cap*sz:=by rw[←e5];congr 1;omega
  have H:fD*sz+n*sz=(fD+n)*sz:=by rw[e5]
  simp only[C,Array.size_append,List.size_toArray,e,r,Builtin.zeroCells,Array.size_map,Array.size_range,h.ab7];omega
 refine⟨cap,C,sP,F,fun j df=>?_,?_⟩
 ·have H:fD*sz+n*sz=(fD+n)*sz:=by rw[e5]
  simp only[C];rw[Array.getElem?_append_left (by simp only[Array.size_append,List.size_toArray,e,r];omega)];simp
 ·have I:¬(9223372036854775807<((fD:Int)+(n:Int))):=by omega
  have J:¬(281474976710656<Builtin.nextslicecap (fD+n) i5*i.bytes):=by rw[y];omega
  have gr:(Question.appendCap (fD+n) i5 el).forced=false:=rfl;have K:¬(fD+n≤i5):=B;rcases h.lG with⟨hR,cR⟩|cR<;> simp [Builtin.append_,run_underlying h.dU,run_underlying cR,ey h.size,typeInfo,bY,bK,K,I,J,gr,a1,u,zeroValue,A,newRow,C,cap]
end
section
variable{P:Program}{ty:TypeId}{ρ:Operand→Value}{κ:bh}{s:ag}{w:World}(a3:cY κ s w)
theorem hK{t t2:TypeId}{x y:Operand}{z:Value}{w':World}(h:(Builtin.append_ #[t,t2] ty #[ρ x,ρ y]).run P w=.ok z w')(dst:Option Tmp)(pos:String)(after:Array Edge)(guard:Option (Nat×Bool)):
  (execOp ρ ⟨dst,.call {callee:=.builtin .append,args:= #[x,y],argTypes:= #[t,t2]},ty,pos,after,guard⟩).run P w=.ok (.value z) w':=by
 simp [execOp,resolve,invoke,builtin,h]
theorem dA.yg{κ':bh}{D d i n sz cap b:Nat}{es:List ae}{xs:List Value}(cR:d<D)(bY:i<κ'.n d)(dU:κ'.lo d i es.length=some (⟨b,0,none⟩,cap,sz))(dk:es.length≤cap)(eZ:∀e,e∈es→e.cells.length=sz)(aQ:∀e,e∈es→e.low d=true)
  (a9:ej κ' D (es.flatMap ae.cells) xs)(h1:∀j,j<(es.flatMap ae.cells).length→κ'.F ⟨b,j,none⟩=xs[j]?)(bK:n=es.length):dA κ' D (.cr sz es (.dt (.g d i))) (.slice (some ⟨b,0,none⟩) n cap):=by
 subst bK;refine .cr sz es _ _ _ (fun j=>xs.getD j undef) ⟨cR,bY,dU⟩ dk (fun _=>rfl) eZ (.inr ⟨d,i,rfl,aQ⟩) (fun j df=>?_) (fun j c a1=>?_)
 ·rw[fT rfl];simp only[bf];rw[h1 j df]
  have:j<xs.length:=by rw[a9.1];exact df
  simp [List.getD,this]
 ·obtain⟨y,eQ,bJ⟩:=a9.get a1
  have:xs.getD j undef=y:=by simp [List.getD,eQ]
  rw[this];exact bJ
include a3
def Form(κ:bh)(s:ag)(w:World)(v:ae)(X:Value)(sz:Nat)(es:List ae):Prop:=
 (∃fb a,v=.str fb∧X=.string a∧a.data.toList.map UInt8.toNat=fb∧sz=1∧es=fb.map fun b=>.int .u8 (b:Nat))∨
   (∃A c,X=.slice A es.length c∧(A=none→es=[])∧∀a,A=some a→Reads κ (s.aa+1) w a (es.flatMap ae.cells))
theorem qM{t t2 el:TypeId}{sz bytes:Nat}{z:Value}(h:m9 P t t2 el sz bytes z){x y:Operand}{es new:List ae}{base:Option Addr}{u:Nat}{Y:ae}(kA:ρ x=.slice base es.length u)(F:Form κ s w Y (ρ y) sz new)(r:∀e,e∈new→e.cells.length=sz)
  (L:(∃A c,ρ x=.slice A es.length c∧(A=none→es=[])∧∀a,A=some a→Reads κ (s.aa+1) w a (es.flatMap ae.cells)))(eZ:∀e,e∈es→e.cells.length=sz)(sP:u<es.length+new.length)(M:(es.length+new.length)*bytes≤1099511627776){lX l:Loc}{s':ag}(N:s.hd lX (.tok (es.length+new.length))=some (l,s'))
  (aQ:∀d i,l.ap s.aa=.g d i→∀e,e∈es++new→e.low d=true):
  dK P (.call {callee:=.builtin .append,args:= #[x,y],argTypes:= #[t,t2]}) ty ρ κ s w (.cr sz (es++new) (.dt l)) s':=by
 obtain⟨O,U,bK,H⟩:=ij.by N
 obtain⟨hlen,xs,a1,fU⟩:=fj (P:=P) F r new.length (aB _) w.drew (fun _=>rfl);have V:=(fj (P:=P) F r new.length (aB _) w (fun _=>rfl)).1;obtain⟨_,os,I,B⟩:=fj (P:=P) (X:=ρ x) (v:=.dead) (.inr L) eZ es.length (aB _) w.drew (fun _=>rfl);simp only[List.take_length] at fU B;have Z:xs.length=new.length*sz:=by rw[fU.1,e4 new sz r]
 have ab:os.length=es.length*sz:=by rw[B.1,e4 es sz eZ]
 rw[kA] at I;obtain⟨cap,C,J,ac,ad,af⟩:=iP (ty:=ty) h (base:=base) (fD:=es.length) (i5:=u) V a1 I Z ab sP M;obtain⟨κ',hb,g2,ah,m7,ic⟩:=a3.Fl (w':=w.drew.alloc (.cells C el)) C el (es.length+new.length) sz cap H ac J rfl rfl rfl rfl;refine⟨_,κ',_,.inl (hK (by rw[kA];exact af)),g2,hb,?_⟩;simp only[ae.ap,e2.ap,bK];have K:∀e,e∈es++new→e.cells.length=sz:=fun e he=>by
  rcases List.mem_append.1 he with he|he
  ·exact eZ e he
  ·exact r e he
 refine dA.yg (Nat.lt_succ_of_le H.le) ah (by rw[gu];exact m7) (by rw[gu];exact J) K (aQ O U bK) (xs:=os++xs) (by rw[List.flatMap_append];exact(B.append fU).mono g2.k) (fun j df=>?_) (by rw[gu]);rw[e4 _ sz K,gu] at df;rw[ic j df,ad j df]
theorem sQ{t t2 el:TypeId}{sz bytes:Nat}{z:Value}(h:m9 P t t2 el sz bytes z){x y:Operand}{es new:List ae}{base:Option Addr}{r:Nat}{Y:ae}(kA:ρ x=.slice base es.length r)(u:dA κ (s.aa+1) (Y.ap s.aa) (ρ y))(iB:dG s Y=some (sz,new))
  (B:(∃A c,ρ x=.slice A es.length c∧(A=none→es=[])∧∀a,A=some a→Reads κ (s.aa+1) w a (es.flatMap ae.cells)))(eZ:∀e,e∈es→e.cells.length=sz)(aQ:∀e,e∈es→e.bb=true)(sP:r<es.length+new.length)(F:(es.length+new.length)*bytes≤1099511627776){lX l:Loc}{s':ag}(H:s.hd lX (.tok (es.length+new.length))=some (l,s')):
  dK P (.call {callee:=.builtin .append,args:= #[x,y],argTypes:= #[t,t2]}) ty ρ κ s w (.cr sz (es++new) (.dt l)) s':=by
 obtain⟨I,J,K⟩:=ki a3 u iB;refine qM a3 h kA I K B eZ sP F H fun d i _ e he=>ae.lF _ _ ?_
 rcases List.mem_append.1 he with he|he
 ·exact aQ e he
 ·exact ed.1 J e he
theorem sR{t t2 el:TypeId}{q bytes:Nat}{z:Value}(h:m9 P t t2 el q bytes z){x y:Operand}{es new:List ae}{Y:ae}(M:Form κ s w Y (ρ y) q new)(u:∀e,e∈new→e.cells.length=q)(kB:0<new.length){a:Loc}{s':ag}(kA:dA κ (s.aa+1) (.cr q es (.dt (a.ap s.aa))) (ρ x))
  (H:s.get a=some (.tok es.length))(al:(new.flatMap ae.cells).all ae.eG=true)(I:s.set a (.tok (es.length+new.length))=some s')(ab:sb s a new=true)(am:(es.length+new.length)*bytes≤1099511627776):
  dK P (.call {callee:=.builtin .append,args:= #[x,y],argTypes:= #[t,t2]}) ty ρ κ s w (.cr q (es++new) (.dt a)) s':=by
 rw[←ag.hJ] at H;rw[←ag.lf] at I;rcases kA.ht with⟨_,cB,_⟩|⟨A,cap,dr,e,cB,dk,aG,dD,B,ac,ad⟩
 ·cases cB
 cases r:a.ap s.aa with
 |l i=>cases a<;> simp [Loc.ap] at r
 |g d i=>
  rw[r] at H I cB B;obtain⟨cR,bY,af⟩:=cB;have an:∀e,e∈new→e.low d=true:=by
   cases a with
   |l j=>simp only[Loc.ap,Loc.g.injEq] at r;exact kJ.1 (r.1 ▸ ab)
   |g fG j=>simp only[Loc.ap,Loc.g.injEq] at r;exact kJ.1 (r.1 ▸ ab)
  have ao:∀e,e∈es→e.low d=true:=by
   rcases B with B|⟨fG,hx,hR,B⟩
   ·exact fun e he=>ae.lF _ _ (B e he)
   ·cases hR;exact B
  obtain⟨b,aH,aI,t1,aJ,⟨aq,nV,as,t3,t4,t5⟩,t6,t7⟩:=a3.obj d i _ H;rw[af] at t1;simp only[bj,eW] at t1;obtain⟨rfl,rfl,rfl⟩:=t1;have J:∀e,e∈es++new→e.cells.length=q:=fun e he=>by
   rcases List.mem_append.1 he with he|he
   ·exact dD e he
   ·exact u e he
  have ah:∀e,e∈es++new→e.low d=true:=fun e he=>by
   rcases List.mem_append.1 he with he|he
   ·exact ao e he
   ·exact an e he
  have au:Reads κ (s.aa+1) w ⟨b,0,none⟩ (es.flatMap ae.cells):=⟨dr,fun j df=>(a3.iA _ _ (ac j df)).2,ad⟩;have K:=e4 es q dD;by_cases L:es.length+new.length≤cap
  ·
   obtain⟨hlen,xs,a1,fU⟩:=fj (P:=P) M u new.length (aB _) w (fun _=>rfl);simp only[List.take_length] at fU;have N:xs.length=new.length*q:=by rw[fU.1,e4 new q u]
   have av:(es.length+new.length)*q≤aq.size:=by rw[t4];exact fO _ L
   rw[e5] at av;have ar:=nw al fU;have aw:=run_storeCells_cells (P:=P) b (es.length*q) xs 0 w (fun j df=>by rw[fI t3];simp;omega) (fun j df=>by
    have hu:=t5 (es.length*q+0+j) (by omega);simp only[World.frozen?,t3];rw[Bool.and_eq_false_iff];by_cases ai:as.1≤es.length*q+0+j
    ·right;simp only[decide_eq_false_iff_not];exact fun h=>hu ⟨ai,h⟩
    ·left;simpa using ai) ar
   have ax:=run_append_fits (ty:=ty) h (base:=some ⟨b,0,none⟩) (fD:=es.length) (i5:=cap) hlen a1 L (w':=w.setCells b (es.length*q) xs) (by
    have ay:(⟨b,0,none⟩:Addr).add (es.length*q)=⟨b,es.length*q,none⟩:=by rw[fT rfl];simp
    simp only[ay];simpa using aw)
   obtain⟨κ',hb,g2,O,m7⟩:=a3.JI H af I (by omega) L xs (by rw[N];congr 1;omega);refine⟨_,κ',_,.inl (hK (by rw[e];exact ax)),g2,hb,?_⟩;simp only[ae.ap,e2.ap,r];have hold:ej κ (s.aa+1) (es.flatMap ae.cells) ((List.range (es.length*q)).map dr):=by
    refine⟨by simp [K],fun j c x a1 a9=>?_⟩;have df:j<es.length*q:=by rw[←K];exact(eA.1 a1).1
    have:(List.range (es.length*q))[j]? =some j:=by simp [df]
    rw[iJ,this] at a9;simp only[ep,bj] at a9;exact a9 ▸ ad j c a1
   refine dA.yg cR (fX bY (g2.k.n d cR)) (by rw[gu];exact O) (by rw[gu];exact L) J ah (xs:=(List.range (es.length*q)).map dr++xs) (by rw[List.flatMap_append];exact(hold.append fU).mono g2.k) (fun j df=>?_) (by rw[gu]);rw[e4 _ q J,gu,e5] at df;by_cases U:j<es.length*q
   ·rw[ha (by simpa using U)];have V:=g2.k.F _ _ (ac j (by rw[K];exact U));rw[fT rfl] at V;simp only[bf] at V;rw[V];simp [U]
   ·rw[jW (by simp;omega)];obtain⟨m,rfl⟩:∃m,j=es.length*q+m:=⟨j-es.length*q,by omega⟩;have hm:m<xs.length:=by omega
    rw[m7 m xs[m] (eI hm)];simp [hm]
  ·
   obtain⟨hlen,xs,a1,fU⟩:=fj (P:=P) M u new.length (aB _) w.drew (fun _=>rfl);have az:=(fj (P:=P) M u new.length (aB _) w (fun _=>rfl)).1;obtain⟨_,os,aj,Z⟩:=fj (P:=P) (X:=ρ x) (v:=.dead) (.inr ⟨some ⟨b,0,none⟩,cap,e,fun r=>(by cases r),fun fN r=>(by cases r;exact au)⟩) dD es.length (aB _) w.drew (fun _=>rfl);simp only[List.take_length] at fU Z;have N:xs.length=new.length*q:=by rw[fU.1,e4 new q u]
   have aA:os.length=es.length*q:=by rw[Z.1,K]
   rw[e] at aj;obtain⟨aC,C,ak,aD,aE,aF⟩:=iP (ty:=ty) h (base:=some ⟨b,0,none⟩) (fD:=es.length) (i5:=cap) az a1 aj N aA (by omega) am;obtain⟨κ',hb,g2,O,m7⟩:=a3.JJ (w':=w.drew.alloc (.cells C el)) H I (by omega) C el aC q aD ak rfl rfl rfl rfl;refine⟨_,κ',_,.inl (hK (by rw[e];exact aF)),g2,hb,?_⟩;simp only[ae.ap,e2.ap,r];refine dA.yg cR (fX bY (g2.k.n d cR)) (by rw[gu];exact O) (by rw[gu];exact ak) J ah (xs:=os++xs) (by rw[List.flatMap_append];exact(Z.append fU).mono g2.k) (fun j df=>?_) (by rw[gu]);rw[e4 _ q J,gu] at df;rw[m7 j df,aE j df]
theorem pJ{E:Env}(bo:E.F=.not){k:ae→ag→ah}{r:ah}(bt:r≠.fail){t t2 el:TypeId}{sz bytes:Nat}{z:Value}(h:m9 P t t2 el sz bytes z){x y:Operand}{X Y:ae}
  (kA:dA κ (s.aa+1) (X.ap s.aa) (ρ x))(M:dA κ (s.aa+1) (Y.ap s.aa) (ρ y)){lX:Loc}(aQ:hG E s k sz bytes lX X Y=r):∃fB s',k fB s'=r∧dK P (.call {callee:=.builtin .append,args:= #[x,y],argTypes:= #[t,t2]}) ty ρ κ s w fB s':=by
 unfold hG at aQ;cases iB:dG s Y with
 |none=>rw[iB] at aQ;exact absurd aQ.symm bt
 |some p=>
  obtain⟨ad,new⟩:=p;rw[iB] at aQ;obtain⟨N,af,L⟩:=ki a3 M iB;cases X<;> simp only[ae.ap] at kA<;> simp only[bo,aU.not] at aQ<;> try exact absurd aQ.symm bt
  case cr q es g=>
   obtain⟨H,u⟩:=cV aQ bt;clear aQ;rw[bm,bm] at H;have O:ad=sz:=dj H.1.1;have U:q=sz:=dj H.1.2;have V:=dW H.2;subst O;subst U;cases new with
   |nil=>
    simp only at u;refine⟨_,_,u,?_⟩;obtain⟨hlen,xs,a1,fU⟩:=fj (P:=P) N L 0 (aB _) w (fun _=>rfl);have al:xs=[]:=kF (by rw[fU.1];rfl);subst al
    have:∃A cap,ρ x=.slice A es.length cap∧es.length≤cap:=by
     rcases kA.ht with⟨rfl,_,e⟩|⟨a,cap,_,e,_,dk,_⟩
     ·exact⟨none,0,e,aB _⟩
     ·exact⟨some a,cap,e,dk⟩
    obtain⟨A,cap,e,dk⟩:=this;have Z:=run_append_fits (ty:=ty) h (base:=A) (fD:=es.length) (i5:=cap) hlen a1 (by simpa using dk) (w':=w) (by cases A with
     |none=>rfl
     |some a=>simp [storeCells])
    refine bE a3 _ (hK (by rw[e];exact Z)) ?_;simp only[ae.ap,cx,Nat.add_zero];rw[←e];exact kA
   |cons am OQ=>
    simp only at u;generalize an:am::OQ=new at *;have kB:0<new.length:=by rw[←an];simp
    cases g with
    |any=>exact absurd u.symm bt
    |nil=>
     simp only at u;cases I:s.hd lX (.tok (es.length+new.length)) with
     |none=>rw[I] at u;exact absurd u.symm bt
     |some p=>
     obtain⟨l,ao⟩:=p;rw[I] at u;refine⟨_,_,u,?_⟩;rcases kA.ht with⟨rfl,_,e⟩|⟨a,cap,_,e,cB,_⟩
     ·exact sQ a3 h e M iB ⟨none,0,e,fun _=>rfl,fun a B=>(by cases B)⟩ (fun e he=>by simp at he) (fun e he=>by simp at he) (by simpa using kB) V I
     ·simp [e2.ap,iz] at cB
    |exact=>
     simp only at u;cases I:s.hd lX (.tok (es.length+new.length)) with
     |none=>rw[I] at u;exact absurd u.symm bt
     |some p=>
     obtain⟨l,ao⟩:=p;rw[I] at u;refine⟨_,_,u,?_⟩;rcases kA.ht with⟨_,cB,_⟩|⟨a,cap,dr,e,cB,dk,aH,dD,ai,aj,aq⟩
     ·simp [e2.ap] at cB
     ·simp only[e2.ap,iz] at cB;subst cB;exact sQ a3 h e M iB ⟨some a,_,e,fun B=>(by cases B),fun fN B=>(by cases B;exact⟨dr,fun j df=>(a3.iA _ _ (aj j df)).2,aq⟩)⟩ dD (ai.left fun d j e=>(by cases e)) (by omega) V I
    |dt a=>
     simp only at u
     ·rw[←ag.hJ] at u;cases B:a.ap s.aa with
      |l i=>cases a<;> simp [Loc.ap] at B
      |g d i=>
       rw[B] at u;cases ab:s.get (.g d i) with
       |none=>rw[ab] at u;exact absurd u.symm bt
       |some o=>
        rw[ab] at u;cases o<;> try exact absurd u.symm bt
        rename_i n;obtain⟨ac,K⟩:=cV u bt;rw[bm] at ac;have ar:n=es.length:=dj ac.1;subst ar;rw[←ag.lf,B] at K;cases J:s.set (.g d i) (.tok (es.length+new.length)) with
        |none=>rw[J] at K;exact absurd K.symm bt
        |some s'=>
         rw[J] at K;refine⟨_,_,K,?_⟩;have as:s.get a=some (.tok es.length):=by rw[←ag.hJ,B];exact ab
         have au:s.set a (.tok (es.length+new.length))=some s':=by rw[←ag.lf,B];exact J
         refine sR a3 h N L kB kA as ac.2 au ?_ V;unfold sb;cases a<;> exact ae.iH _ _ af
  case cZ a off len cap q=>
   rw[←ag.hJ] at aQ;cases B:a.ap s.aa with
   |l i=>cases a<;> simp [Loc.ap] at B
   |g d i=>
    rw[B] at aQ kA;obtain⟨lE,e,cR,bY,aI,uN⟩:=kA.jL;cases cB:s.get (.g d i) with
    |none=>rw[cB] at aQ;exact absurd aQ.symm bt
    |some o=>
     rw[cB] at aQ;cases o<;> try exact absurd aQ.symm bt
     rename_i cs;obtain⟨H,u⟩:=cV aQ bt;simp only[bm] at H;obtain⟨⟨⟨⟨⟨av,aw⟩,ax⟩,ay⟩,aJ⟩,az⟩:=H;have O:ad=sz:=dj av;have U:q=sz:=dj aw;subst O;subst U;have bO:=dW ax;have dD:=dW ay;rw[←ag.lf,B] at u;have ak:=e4 new q L;cases J:s.set (.g d i) (.cells (dN cs (off+len*q) (new.flatMap ae.cells))) with
     |none=>rw[J] at u;exact absurd u.symm bt
     |some s'=>
      rw[J] at u;refine⟨_,_,u,?_⟩;obtain⟨hlen,xs,a1,fU⟩:=fj (P:=P) N L new.length (aB _) w (fun _=>rfl);simp only[List.take_length] at fU;have hmul:off+(len+new.length)*q=off+len*q+new.length*q:=by rw[e5];omega
      have aK:xs.length=new.length*q:=by rw[fU.1,ak]
      have sm:ae.a7 (new.flatMap ae.cells)=true:=ed.2 (fun c a1=>by obtain⟨hR,aA,aC⟩:=List.mem_flatMap.1 a1;exact h2 (ed.1 af hR aA) aC)
      have aD:=mL B fU (by simp [ag.ho,sm]);obtain⟨hb,g2⟩:=a3.store cB J aD (by rw[ak];omega);have aE:=m8 (P:=P) a3 cB (off:=off+len*q) (xs:=xs) (by omega) (nw az fU);have aF:lE=cap:=by
       rcases uN with h|⟨ai,aj,_⟩
       ·exact h
       ·omega
      subst aF;have Z:=run_append_fits (ty:=ty) h (base:=some ⟨κ.loc d i,off,none⟩) (fD:=len) (i5:=lE) hlen a1 bO (w':=w.setCells (κ.loc d i) (off+len*q) xs) (by
       have aG:(⟨κ.loc d i,off,none⟩:Addr).add (len*q)=⟨κ.loc d i,off+len*q,none⟩:=by rw[fT rfl]
       simp only[aG];exact aE)
      refine⟨_,κ,_,.inl (hK (by rw[e];exact Z)),g2,hb,?_⟩;simp only[ae.ap,B];exact .cZ d i off _ lE lE q cR bY bO (.inl rfl)
theorem uO{E:Env}(bo:E.F=.not){k:ae→ag→ah}{r:ah}(bt:r≠.fail){t t2 el:TypeId}{sz bytes:Nat}{z:Value}(h:m9 P t t2 el sz bytes z){x y:Operand}{X Y:ae}
  (kA:dA κ (s.aa+1) (X.ap s.aa) (ρ x))(N:dA κ (s.aa+1) (Y.ap s.aa) (ρ y)){lX:Loc}(aQ:jY E s k sz bytes lX X Y=r):∃fB s',k fB s'=r∧dK P (.call {callee:=.builtin .append,args:= #[x,y],argTypes:= #[t,t2]}) ty ρ κ s w fB s':=by
 unfold jY at aQ;cases Y<;> simp only[ae.ap] at N<;> simp only[bo,aU.not] at aQ<;> try exact absurd aQ.symm bt
 rename_i Z new am;cases X<;> simp only[ae.ap] at kA<;> try exact absurd aQ.symm bt
 rename_i q es g;obtain⟨J,A⟩:=cV aQ bt;clear aQ;rw[bm,bm] at J;have ab:Z=sz:=dj J.1.1;have ac:q=sz:=dj J.1.2;have O:=dW J.2;subst ab;subst ac;have ad:Form κ s w .dead (ρ y) q new∧∀e,e∈new→e.cells.length=q:=by
  rcases N.ht with⟨rfl,_,e⟩|⟨a,cap,dr,e,_,_,_,dD,_,af,ai⟩
  ·exact⟨.inr ⟨none,0,e,fun _=>rfl,fun a H=>(by cases H)⟩,fun e he=>(by simp at he)⟩
  ·exact⟨.inr ⟨some a,cap,e,fun H=>(by cases H),fun fN H=>(by cases H;exact⟨dr,fun j df=>(a3.iA _ _ (af j df)).2,ai⟩)⟩,dD⟩
 obtain⟨U,V⟩:=ad;cases new with
 |nil=>exact absurd A.symm bt
 |cons aj OQ=>
  simp only at A;generalize ak:aj::OQ=new at *;have kB:0<new.length:=by rw[←ak];simp
  cases g with
  |any=>exact absurd A.symm bt
  |exact=>exact absurd A.symm bt
  |nil=>
   simp only at A;obtain⟨I,B⟩:=cV A bt;cases u:s.hd lX (.tok (es.length+new.length)) with
   |none=>rw[u] at B;exact absurd B.symm bt
   |some p=>
   obtain⟨l,an⟩:=p;rw[u] at B;refine⟨_,_,B,?_⟩;rcases kA.ht with⟨rfl,_,e⟩|⟨a,cap,_,e,cB,_⟩
   ·refine qM a3 h e U V ⟨none,0,e,fun _=>rfl,fun a H=>(by cases H)⟩ (fun e he=>by simp at he) (by simpa using kB) O u fun d i bK e he=>?_
    simp only[List.nil_append] at he;have cR:sb s lX new=true→∀e,e∈new→e.low d=true:=by
     intro I;cases lX with
     |l j=>simp only[ag.hd,bj,eW] at u;obtain⟨rfl,_⟩:=u;simp only[Loc.ap,Loc.g.injEq] at bK;exact kJ.1 (bK.1 ▸ I)
     |g fG j=>
      simp only[ag.hd] at u;split at u
      ·rename_i ao;simp only[bj,eW] at u;obtain⟨rfl,_⟩:=u;simp only[Loc.ap,Loc.g.injEq] at bK
       have:fG=d:=by omega
       exact kJ.1 (this ▸ I)
      ·split at u
       ·split at u
        ·simp only[bj,eW] at u;obtain⟨rfl,_⟩:=u;simp only[Loc.ap,Loc.g.injEq] at bK;exact kJ.1 (bK.1 ▸ I)
        ·cases u
       ·cases u
    exact cR I e he
   ·simp [e2.ap,iz] at cB
  |dt a=>
   simp only at A;cases L:s.get a with
   |none=>rw[L] at A;exact absurd A.symm bt
   |some o=>
    rw[L] at A;cases o<;> try exact absurd A.symm bt
    rename_i n;obtain⟨K,B⟩:=cV A bt;rw[bm,bm] at K;have al:n=es.length:=dj K.1.1;subst al;cases M:s.set a (.tok (es.length+new.length)) with
    |none=>rw[M] at B;exact absurd B.symm bt
    |some s'=>rw[M] at B;exact⟨_,_,B,sR a3 h U V kB kA L K.1.2 M K.2 O⟩
theorem qb{G:Nat→ae}{ao:Nat→ae}{a:Act}(bZ:wl κ s ao a)(dS:j9 κ G){t el:TypeId}{sz:Nat}{z:List ae}{ea:List bB}{r:List Operand}(dU:P.underlying t=some (.slice el))(eZ:e9 P el=some sz)(hC:jT P el z=true)(A:z.length=sz)
  (gU:¬(r.length*sz>2^24))(dd:dx ea r=true){es:List ae}(y:ea.map (fun x=>(aq G ao x).ap s.aa)=es)(aQ:ae.ky s.aa es=true)(bJ:∀e,e∈es→e.ff=true∧e.cells.length=sz):
  dK P (.buildSlice t r.length (r.zipIdx.map fun p=>(p.2,p.1)).toArray) ty a.eval κ s w (.cr sz es (.dt (.l s.own.length))) (s.new (.tok es.length)):=by
 obtain⟨v,e,ar,_,_⟩:=kN hC w;have L:v.cells.size=sz:=by rw[←Array.length_toList,(ar κ 0).1,A]
 have hlen:es.length=r.length:=by
  have:∀(ea:List bB) (r:List Operand),dx ea r=true→ea.length=r.length:=by
   intro ea
   induction ea with
   |nil=>intro r h;cases r<;> simp [dx] at h ⊢
   |cons p ea B=>intro r h;cases r with
    |nil=>simp [dx] at h
    |cons q r=>simp only[dx,bm] at h;simp [B r h.2]
  simp [←y,this ea r dd]
 obtain⟨xs,hR,fU⟩:=mK bZ dS sz ea r 0 es [] ((Array.range (r.length*sz)).map (v.cells[· % v.cells.size]!)).toList dd y.symm bJ (by simp) (by simp);have F:∀dst pos after guard,(execOp a.eval ⟨dst,.buildSlice t r.length (r.zipIdx.map fun p=>(p.2,p.1)).toArray,ty,pos,after,guard⟩).run P w=.ok (.value (.slice (some ⟨w.heap.size,0,none⟩) r.length r.length)) (w.alloc (.cells xs.toArray el)):=by
  intro dst pos after guard;simp only[List.nil_append,Array.toArray_toList] at hR;have H:=lp (parts:=((r.zipIdx.map fun p=>(p.2,p.1)).toArray.map fun p=>(p.1,a.eval p.2))) dU eZ e gU (xs:=xs.toArray) (by rw[Array.toList_map,List.map_map];exact hR)
  have a9:∀(o:Oper),o.op=.buildSlice t r.length (r.zipIdx.map fun p=>(p.2,p.1)).toArray→execOp a.eval o=(do pure (.value (←Instr.buildSlice t r.length ((r.zipIdx.map fun p=>(p.2,p.1)).toArray.map fun p=>(p.1,a.eval p.2)))):Sem Next):=by intro o I;unfold execOp;rw[I]
  rw[a9 _ rfl,Sem.run_bind,H];rfl
 have u:∀e,e∈es→e.cells.length=sz:=fun e he=>(bJ e he).2
 have J:xs.length=es.length*sz:=by rw[fU.1,e4 _ sz u]
 obtain⟨κ',hb,g2,K,m7,ic⟩:=a3.Fl (w':=w.alloc (.cells xs.toArray el)) xs.toArray el es.length sz es.length (ij.new s _) (by simpa using J) (aB _) rfl rfl rfl rfl;refine⟨_,κ',_,.inl F,g2,hb,?_⟩;simp only[ae.ap,e2.ap,Loc.ap];rw[←hlen];refine dA.yg (Nat.lt_succ_self _) K m7 (aB _) u (kJ.1 aQ) (xs:=xs) (fU.mono g2.k) (fun j df=>?_) rfl;rw[e4 _ sz u] at df;rw[ic j df];simp
theorem qc{G:Nat→ae}{ao:Nat→ae}{a:Act}(bZ:wl κ s ao a)(dS:j9 κ G){t el:TypeId}{sz:Nat}{z:List ae}{ea:List bB}{r:List Operand}(dU:P.underlying t=some (.slice el))(eZ:e9 P el=some sz)(hC:jT P el z=true)(y:z.length=sz)
  (gU:¬(r.length*sz>2^24))(dd:dx ea r=true){es:List ae}(u:ea.map (fun x=>(aq G ao x).ap s.aa)=es)(bJ:∀e,e∈es→e.ff=true∧e.cells.length=sz):
  dK P (.buildSlice t r.length (r.zipIdx.map fun p=>(p.2,p.1)).toArray) ty a.eval κ s w (.cZ (.l s.own.length) 0 es.length es.length sz) (s.new (.cells (es.flatMap ae.cells))):=by
 obtain⟨v,e,ar,_,_⟩:=kN hC w;have J:v.cells.size=sz:=by rw[←Array.length_toList,(ar κ 0).1,y]
 have hlen:es.length=r.length:=by
  have:∀(ea:List bB) (r:List Operand),dx ea r=true→ea.length=r.length:=by
   intro ea
   induction ea with
   |nil=>intro r h;cases r<;> simp [dx] at h ⊢
   |cons p ea A=>intro r h;cases r with
    |nil=>simp [dx] at h
    |cons q r=>simp only[dx,bm] at h;simp [A r h.2]
  simp [←u,this ea r dd]
 obtain⟨xs,hR,fU⟩:=mK bZ dS sz ea r 0 es [] ((Array.range (r.length*sz)).map (v.cells[· % v.cells.size]!)).toList dd u.symm bJ (by simp) (by simp);have B:∀dst pos after guard,(execOp a.eval ⟨dst,.buildSlice t r.length (r.zipIdx.map fun p=>(p.2,p.1)).toArray,ty,pos,after,guard⟩).run P w=.ok (.value (.slice (some ⟨w.heap.size,0,none⟩) r.length r.length)) (w.alloc (.cells xs.toArray el)):=by
  intro dst pos after guard;simp only[List.nil_append,Array.toArray_toList] at hR;have F:=lp (parts:=((r.zipIdx.map fun p=>(p.2,p.1)).toArray.map fun p=>(p.1,a.eval p.2))) dU eZ e gU (xs:=xs.toArray) (by rw[Array.toList_map,List.map_map];exact hR)
  have a9:∀(o:Oper),o.op=.buildSlice t r.length (r.zipIdx.map fun p=>(p.2,p.1)).toArray→execOp a.eval o=(do pure (.value (←Instr.buildSlice t r.length ((r.zipIdx.map fun p=>(p.2,p.1)).toArray.map fun p=>(p.1,a.eval p.2)))):Sem Next):=by intro o H;unfold execOp;rw[H]
  rw[a9 _ rfl,Sem.run_bind,F];rfl
 obtain⟨κ',hb,g2,I,m7⟩:=a3.oH (es.flatMap ae.cells) xs.toArray el (by simpa using fU) (w':=w.alloc (.cells xs.toArray el)) rfl rfl rfl rfl;refine⟨_,κ',_,.inl B,g2,hb,?_⟩;simp only[ae.ap,Loc.ap];rw[←I,←hlen];exact .cZ _ _ _ _ _ _ _ (Nat.lt_succ_self _) m7 (aB _) (.inl rfl)
end
section
variable{P:Program}{ty:TypeId}{ρ:Operand→Value}{κ:bh}{s:ag}{w:World}(a3:cY κ s w)
include a3
theorem zK{E:Env}(bo:E.F=.not){k:ae→ag→ah}{r:ah}(bt:r≠.fail){t t2 el:TypeId}{sz:Nat}(dU:P.underlying t=some (.slice el))(hC:e9 P el=some sz){x y:Operand}{X Y:ae}(gr:∀a off len cap q,X=.cZ a off len cap q→q=sz)
  (kA:dA κ (s.aa+1) (X.ap s.aa) (ρ x))(K:dA κ (s.aa+1) (Y.ap s.aa) (ρ y))(aQ:copyV E s k X Y=r):∃fB s',k fB s'=r∧dK P (.call {callee:=.builtin .copy,args:= #[x,y],argTypes:= #[t,t2]}) ty ρ κ s w fB s':=by
 cases X<;> simp only[ae.ap] at kA<;> simp only[copyV] at aQ<;> try exact absurd aQ.symm bt
 rename_i a off len cap q;obtain rfl:=gr _ _ _ _ _ rfl;cases iB:dG s Y with
 |none=>rw[iB] at aQ;exact absurd aQ.symm bt
 |some p=>
  obtain⟨h,es⟩:=p;rw[iB] at aQ;obtain⟨L,M,H⟩:=ki a3 K iB;simp only at aQ;rw[←ag.hJ] at aQ;cases A:a.ap s.aa with
  |l i=>cases a<;> simp [Loc.ap] at A
  |g d i=>
   rw[A] at aQ kA;obtain⟨lE,e,cR,bY,_⟩:=kA.jL;cases cB:s.get (.g d i) with
   |none=>rw[cB] at aQ;exact absurd aQ.symm bt
   |some o=>
    rw[cB] at aQ;cases o<;> try exact absurd aQ.symm bt
    rename_i cs;simp only[bo,aU.not] at aQ;obtain⟨I,u⟩:=cV aQ bt;simp only[bm] at I;obtain⟨⟨N,O⟩,U⟩:=I;have V:h=q:=dj N;subst V;have av:=dW O;rw[←ag.lf,A] at u;obtain⟨hlen,xs,a1,fU⟩:=fj (P:=P) L H (min es.length len) (Nat.min_le_left _ _) w (fun _=>rfl);have J:((es.take (min es.length len)).flatMap ae.cells).length=min es.length len*h:=by rw[e4 _ h (fun e he=>H e (List.mem_of_mem_take he)),List.length_take];congr 1;omega
    have hmul:min es.length len*h≤len*h:=fO _ (Nat.min_le_right _ _);have sm:ae.a7 ((es.take (min es.length len)).flatMap ae.cells)=true:=ed.2 (fun c a1=>by obtain⟨hR,Z,ab⟩:=List.mem_flatMap.1 a1;exact h2 (ed.1 M hR (List.mem_of_mem_take Z)) ab)
    cases B:s.set (.g d i) (.cells (dN cs off ((es.take (min es.length len)).flatMap ae.cells))) with
    |none=>rw[B] at u;exact absurd u.symm bt
    |some s'=>
     rw[B] at u;refine⟨_,_,u,?_⟩;have af:xs.length=min es.length len*h:=by rw[fU.1,J]
     have ac:=mL A fU (by simp [ag.ho,sm]);obtain⟨hb,g2⟩:=a3.store cB B ac (by rw[J];omega);have ad:=m8 (P:=P) a3 cB (off:=off) (xs:=xs) (by omega) (nw U fU);have ai:Nat.min es.length len=min es.length len:=rfl;refine⟨.int .i64 (min es.length len:Nat),κ,_,.inl (fun _ _ _ _=>?_),g2,hb,.int _ _⟩;simp only[execOp,resolve,invoke,builtin,List.map_toArray,gd,List.map_nil,Sem.run_bind,Sem.run_pure,Result.andThen_ok]
     have:(Builtin.copy_ #[t,t2] ty #[ρ x,ρ y]).run P w=.ok (goInt (min es.length len:Nat)) (w.setCells (κ.loc d i) off xs):=by simp [Builtin.copy_,run_underlying dU,e,hlen,ey hC,a1,ad]
     simp [this,goInt]
theorem qN{E:Env}(bo:E.F=.not){k:ae→ag→ah}{r:ah}(bt:r≠.fail){o:Op}{x:Operand}(J:∀dst pos after guard,(execOp ρ ⟨dst,o,ty,pos,after,guard⟩).run P w=.ok (.value (ρ x)) w){v:ae}
  (a9:dA κ (s.aa+1) (v.ap s.aa) (ρ x))(aQ:mI E s k v=r):∃fB s',k fB s'=r∧dK P o ty ρ κ s w fB s':=by
 cases v<;> simp only[mI] at aQ<;> try exact absurd aQ.symm bt
 rename_i a off len cap sz;cases a with
 |g d i=>exact absurd aQ.symm bt
 |l i=>
  simp only[ae.ap,Loc.ap] at a9;obtain⟨lE,e,cR,bY,tw,uN⟩:=a9.jL;have K:s.own[i]? =s.get (.g s.aa i):=by simp [ag.get]
  simp only at aQ;rw[K] at aQ;cases cB:s.get (.g s.aa i) with
  |none=>rw[cB] at aQ;exact absurd aQ.symm bt
  |some L=>
   rw[cB] at aQ;cases L<;> try exact absurd aQ.symm bt
   rename_i cs;simp only[bo,aU.not] at aQ;obtain⟨u,M⟩:=cV aQ bt;simp only[bm,Bool.not_eq_true'] at u;have hC:sz≠0:=fun eJ=>by rw[eJ] at u;simp at u
   have hle:=dW u.1.2;obtain⟨C,el,jt,Y,B,N,H⟩:=a3.uw (s':={s with own:=s.own.set i .gone}) cB (by simp [ag.set]);refine⟨_,_,M,ρ x,_,_,.inl J,H,N,?_⟩;rw[e];simp only[ae.ap];have O:(if len=cap then e2.exact else e2.any).ap s.aa=(if len=cap then e2.exact else e2.any):=by split<;> rfl
   rw[O];obtain⟨I,U⟩:=kh sz hC len (cs.drop off) (by simp;omega);have bK:cs.length≤C.size:=by have:=B.1;simp at this;omega
   have sm:len=cap→lE=cap:=fun h=>by rcases uN with ar|⟨ar,av,_⟩<;> omega
   have key:dA (κ.freeze (κ.loc s.aa i) 0 C) (s.aa+1) (.cr sz (chunk sz len (cs.drop off)) (if len=cap then e2.exact else e2.any)) (.slice (some ⟨κ.loc s.aa i,off,none⟩) (chunk sz len (cs.drop off)).length lE):=by
    refine .cr sz _ _ _ _ (fun j=>C.getD (off+j) undef) ?_ (by rw[fo];exact tw) (fun _=>rfl) U (.inl fun e he=>ed.1 u.1.1 e he) (fun j df=>?_) (fun j c a1=>?_)
    ·by_cases h:len=cap
     ·simp [h,iz,fo,sm h]
     ·simp [h,iz]
    ·rw[I] at df;simp at df;have A:off+j<C.size:=by omega
     rw[fT rfl];show(κ.freeze (κ.loc s.aa i) 0 C).F ⟨κ.loc s.aa i,off+j,none⟩=_;rw[nS (Nat.zero_le _) A];simp [Array.getD,A]
    ·rw[I,List.getElem?_take] at a1;split at a1
     ·rw[List.getElem?_drop] at a1;obtain⟨y,eQ,bJ⟩:=B.get a1;have A:off+j<cs.length:=(eA.1 a1).1
      have:C.getD (off+j) undef=y:=by
       rw[List.getElem?_take,if_pos A] at eQ;have V:C[off+j]? =some y:=by simpa using eQ
       simp [Array.getD_eq_getD_getElem?,V]
      rw[this];exact bJ.mono H.k
     ·cases a1
   rw[fo] at key;exact key
theorem qO{E:Env}(bo:E.F=.not){k:ae→ag→ah}{r:ah}(bt:r≠.fail){src dst el:TypeId}{x:Operand}{v:ae}(A:P.underlying src=some .string)(B:P.underlying dst=some (.slice el))(iB:P.underlying el=some (.int .u8))
  (a9:dA κ (s.aa+1) (v.ap s.aa) (ρ x))(aQ:hf E s k v=r):∃fB,k fB s=r∧dK P (.convert src dst x) ty ρ κ s w fB s:=by
 cases v<;> simp only[ae.ap] at a9<;> simp only[hf,bo,aU.not] at aQ<;> try exact absurd aQ.symm bt
 rename_i fb;refine⟨_,aQ,?_⟩;obtain⟨a,ex,u⟩:=a9.h4;have eZ:a.size=fb.length:=by have:=congrArg List.length u;rw[eo,Array.length_toList] at this;exact this
 let cap:=grownCap w a.size 0 el
 let C:Array Value:=bytesRow a cap
 have sP:a.size≤cap:=by simp only[cap,grownCap,Question.cut];omega
 have J:C.size=cap:=by
  simp only[C,bytesRow,Array.size_append,Array.size_map,Array.size_replicate]
  have:a.data.size=a.size:=rfl;omega
 have e:=run_bytes_of_string (P:=P) w src dst el a A B iB;obtain⟨hb,g2⟩:=a3.qE (w':=w.drew.alloc (.cells C el (C.size,C.size+1))) C el (C.size,C.size+1) rfl rfl rfl rfl;refine⟨.slice (some ⟨w.heap.size,0,none⟩) a.size cap,_,_,.inl (fun _ _ _ _=>?_),g2,hb,?_⟩
 ·simp only[execOp,ex];simp [e,C,cap]
 ·simp only[ae.ap,e2.ap];have y:(fb.map fun b=>ae.int .u8 (b:Nat)).flatMap ae.cells=fb.map fun b=>ae.int .u8 (b:Nat):=by
   clear aQ eZ u a9
   induction fb with
   |nil=>rfl
   |cons x l H=>simp [List.flatMap_cons,H,ae.cells]
  have wJ:(fb.map fun b=>ae.int .u8 (b:Nat)).length=a.size:=by rw[eo,eZ]
  rw[←wJ];refine .cr 1 _ .any _ _ (fun j=>C.getD j undef) trivial (by rw[wJ];exact sP) (fun _=>rfl) (fun e he=>?_) (.inl fun e he=>?_) (fun j df=>?_) (fun j c a1=>?_)
  ·obtain⟨b,_,rfl⟩:=List.mem_map.1 he;rfl
  ·obtain⟨b,_,rfl⟩:=List.mem_map.1 he;rfl
  ·rw[y,wJ] at df;rw[fT rfl];simp only[bf];rw[nS (Nat.zero_le _) (by omega)];simp [Array.getD,show j<C.size by omega]
  ·rw[y,iJ] at a1;cases h:fb[j]? with
   |none=>rw[h] at a1;cases a1
   |some b=>
    rw[h] at a1;simp only[ep,bj] at a1;subst a1;rw[←u,iJ] at h;cases gr:a.data.toList[j]? with
    |none=>rw[gr] at h;cases h
    |some q=>
     rw[gr] at h;simp only[ep,bj] at h;have df:j<a.data.size:=by have:=(eA.1 gr).1;simpa using this
     have:C[j]? =some (.int .u8 q.toNat):=by
      have I:a.data[j]? =some q:=by simpa using gr
      show(a.data.map (fun b=>Value.int .u8 b.toNat)++Array.replicate (cap-a.size) (.int .u8 0))[j]? =_;rw[Array.getElem?_append_left (by rw[Array.size_map];exact df),Array.getElem?_map,I];rfl
     simp only[Array.getD_eq_getD_getElem?,this,Option.getD_some,h];exact .int _ _
end
theorem pK:∀(es:List ae) (fb:List Nat),hY es=some fb→∃hh:List Int,es=hh.map (ae.int .u8)∧fb=hh.map Int.toNat∧∀n,n∈hh→n.toNat<256
 |[],fb,h=>by simp only[hY,bj] at h;subst h;exact⟨[],rfl,rfl,fun _ dk=>by cases dk⟩
 |e::es,fb,h=>by
  unfold hY at h;split at h
  ·rename_i r;simp at r
  ·rename_i n A r;simp only[List.cons.injEq] at r;obtain⟨rfl,rfl⟩:=r;split at h
   ·rename_i y;cases u:hY es with
    |none=>rw[u] at h;cases h
    |some l=>
     rw[u] at h;simp only[ep,bj] at h;subst h;obtain⟨hh,ar,av,bO⟩:=pK es l u;exact⟨n::hh,by rw[ar];rfl,by rw[av];rfl,fun m hm=>by
      rcases List.mem_cons.1 hm with rfl |hm
      ·exact y
      ·exact bO m hm⟩
   ·cases h
  ·cases h
theorem foldl_push:∀(hh:List Int) (s:ByteArray),(hh.foldl (fun r n=>r.push (UInt8.ofNat n.toNat)) s).data.toList=s.data.toList++hh.map fun n=>UInt8.ofNat n.toNat
 |[],s=>by simp
 |n::hh,s=>by simp only[List.foldl_cons];rw[foldl_push hh];simp [ByteArray.push]
section
variable{P:Program}{ty:TypeId}{ρ:Operand→Value}{κ:bh}{s:ag}{w:World}(a3:cY κ s w)
include a3
theorem qP{E:Env}(bo:E.F=.not){k:ae→ag→ah}{r:ah}(bt:r≠.fail){src dst el:TypeId}{x:Operand}{v:ae}(y:P.underlying src=some (.slice el))(iB:P.underlying el=some (.int .u8))(B:P.underlying dst=some .string)
  (a9:dA κ (s.aa+1) (v.ap s.aa) (ρ x))(aQ:gC E s k v=r):∃fB,k fB s=r∧dK P (.convert src dst x) ty ρ κ s w fB s:=by
 have e3:∀fb,v≠.str fb:=fun fb h=>by subst h;exact absurd aQ.symm bt
 have ie:(match dG s v with
  |some (_,es)=>qu E s k ((hY es).map .str)
  |none=>.fail)=r:=by
  unfold gC at aQ;split at aQ
  ·exact absurd aQ.symm bt
  ·exact aQ
 cases e:dG s v with
 |none=>rw[e] at ie;exact absurd ie.symm bt
 |some p=>
  obtain⟨z,es⟩:=p;rw[e] at ie;simp only at ie;cases u:hY es with
  |none=>rw[u] at ie;exact absurd ie.symm bt
  |some fb=>
   rw[u] at ie;simp only[ep,qu,bo,aU.not] at ie;refine⟨_,ie,?_⟩;obtain⟨hh,ar,av,bO⟩:=pK es fb u;obtain⟨L,_,_⟩:=ki a3 a9 e;rcases L with⟨M,a,rfl,_⟩|⟨A,c,kA,H,I⟩
   ·exact absurd rfl (e3 M)
   have J:es.flatMap ae.cells=hh.map (ae.int .u8):=by
    rw[ar];clear ar av bO u e I H kA
    induction hh with
    |nil=>rfl
    |cons n hh N=>simp [List.flatMap_cons,N,ae.cells]
   have hlen:es.length=hh.length:=by rw[ar,eo]
   have K:(hh.map fun n=>UInt8.ofNat n.toNat).map UInt8.toNat=fb:=by rw[av,List.map_map];refine List.map_congr_left (fun n dk=>?_);simp only[Function.comp,UInt8.toNat_ofNat'];exact hl (bO n dk)
   cases A with
   |none=>
    have:es=[]:=H rfl;have O:hh=[]:=kF (by rw[←hlen,this];rfl);subst O;refine bE a3 (.string .empty) (fun _ _ _ _=>?_) ?_
    ·simp only[execOp,kA];have dM:=run_convert_bytes_string (P:=P) w src dst el none es.length c y iB B;have U:(Conv.bytesToString (.slice none es.length c)).run P w=.ok (.string .empty) w:=by simp [Conv.bytesToString]
     rw[U] at dM;simp [dM]
    ·exact .str _ _ (by rw[←K];rfl)
   |some a=>
    obtain⟨dr,px,qG⟩:=I a rfl;have V:∀j v,(hh.map (Value.int .u8))[j]? =some v→w.cell? (a.add j)=some v:=fun j v df=>by
     rw[iJ] at df;cases gr:hh[j]? with
     |none=>rw[gr] at df;cases df
     |some n=>
      rw[gr] at df;simp only[ep,bj] at df;have ux:=(eA.1 gr).1;rw[px j (by rw[J,eo];exact ux)]
      have:=qG j (.int .u8 n) (by rw[J,iJ,gr];rfl);rw[this.ew,←df]
    have bK:=run_loadCells_list (P:=P) w a (hh.map (Value.int .u8)) V;rw[eo,←hlen] at bK;refine bE a3 _ (fun _ _ _ _=>?_) (.str _ (hh.foldl (fun r n=>r.push (UInt8.ofNat n.toNat)) ByteArray.empty) ?_)
    ·simp only[execOp,kA];have dM:=run_convert_bytes_string (P:=P) w src dst el (some a) es.length c y iB B;rw[run_bytesToString w a es.length c hh bK] at dM;simp [dM]
    ·rw[foldl_push];rw[List.map_append,K];rfl
end
def kC:wq→TypeDesc→Bool
 |.int k,.int lz=>decide (k=lz)
 |.str,.string=>true
 |.bool,.bool=>true
 |_,_=>false
theorem dA.zL{κ:bh}{D:Nat}{v:ae}{x:Value}(h:dA κ D v x){d:Nat}:v.ap d=v:=by
 cases h<;> try rfl
 rename_i sz es g a cap dr cB ar av bO dD e r;cases g<;> try rfl
 rename_i l;cases l with
 |l i=>exact absurd cB (by simp [iz])
 |g d i=>rfl
theorem Fo{κ:bh}{D:Nat}{kx:wq}{d:TypeDesc}{x:ae}{X:Value}(cR:kC kx d=true)(dc:isKey kx x=true)(a9:dA κ D x X):MapKept.IsKey d X:=by
 cases kx<;> cases d<;> simp [kC] at cR<;> cases x<;> simp [isKey] at dc
 ·subst cR;subst dc;rw[a9.ew];rfl
 ·obtain⟨s,rfl,_⟩:=a9.h4;trivial
 ·rw[a9.gT];trivial
theorem uP{κ:bh}{D:Nat}{kx:wq}{d:TypeDesc}{x y:ae}{X Y:Value}{b:Bool}(cR:kC kx d=true)(dc:isKey kx x=true)(a9:dA κ D x X)(eQ:dA κ D y Y)(h:sa x y=some b):Instr.sameNow d X Y=some b∧(b=true→X=Y):=by
 unfold sa at h;split at h
 ·rename_i k a lz fN;split at h
  ·rename_i u;subst u;simp only[bj] at h;rw[a9.ew,eQ.ew];cases kx<;> simp [isKey] at dc;cases d<;> simp [kC] at cR;refine⟨by simp [Instr.sameNow,←h],fun r=>?_⟩;subst r;simp at h;rw[h]
  ·cases h
 ·rename_i a fN;simp only[bj] at h;obtain⟨s,rfl,a3⟩:=a9.h4;obtain⟨s',rfl,A⟩:=eQ.h4;cases kx<;> simp [isKey] at dc;cases d<;> simp [kC] at cR;have key:s=s'↔a=fN:=by
   rw[←a3,←A];constructor
   ·rintro rfl;rfl
   ·intro e
    have:=(List.map_inj_right (f:=UInt8.toNat) (fun a b h=>UInt8.toNat_inj.1 h)).1 e;cases s;cases s';simp at this;rw[this]
  refine⟨?_,fun r=>?_⟩
  ·simp only[Instr.sameNow,bj];rw[←h,Bool.eq_iff_iff,MapKept.bytes_beq,key];simp
  ·subst r;simp at h;rw[key.2 h]
 ·simp only[bj] at h;rw[a9.gT,eQ.gT];cases kx<;> simp [isKey] at dc;cases d<;> simp [kC] at cR;refine⟨by simp [Instr.sameNow,←h],fun r=>?_⟩;subst r;simp at h;rw[h]
 ·cases h
theorem mb.tO{κ:bh}{D:Nat}{p:ae×ae}{es:List (ae×ae)}{l:List MapEntry}(h:mb κ D (p::es) l):∃e l',l=e::l'∧dA κ D p.1 e.key∧dA κ D p.2 e.val∧mb κ D es l':=by
 cases l with
 |nil=>exact absurd h.1 (by simp)
 |cons e l'=>refine⟨e,l',rfl,(h.2 0 p e rfl rfl).1,(h.2 0 p e rfl rfl).2,by have:=h.1;simpa using this,fun j q f gr bt=>h.2 (j+1) q f (by simpa using gr) (by simpa using bt)⟩
theorem oK{κ:bh}{D:Nat}{kx:wq}{d:TypeDesc}{x:ae}{X:Value}(cR:kC kx d=true)(dc:isKey kx x=true)(a9:dA κ D x X):∀(es:List (ae×ae)) (l:List MapEntry) (i:Nat) (r:Option ae),mb κ D es l→findKey x es=some r→
  (r=none∧Instr.findNow d X l i=some none)∨∃v j e,r=some v∧Instr.findNow d X l i=some (some (i+j,e.val))∧l[j]? =some e∧e.key=X∧dA κ D v e.val
 |[],l,i,r,hm,h=>by have:l=[]:=kF hm.1;subst this;simp only[findKey,bj] at h;exact .inl ⟨h.symm,rfl⟩
 |(y,v)::es,l,i,r,hm,h=>by
  obtain⟨e,l',rfl,eQ,bJ,B⟩:=hm.tO;simp only[findKey] at h;cases u:sa x y with
  |none=>rw[u] at h;cases h
  |some b=>
   rw[u] at h;obtain⟨ar,av⟩:=uP cR dc a9 eQ u;cases b with
   |true=>simp only[bj] at h;exact .inr ⟨v,0,e,h.symm,by simp [Instr.findNow,ar],rfl,(av rfl).symm,bJ⟩
   |false=>
    simp only at h;rcases oK cR dc a9 es l' (i+1) r B h with⟨dM,A⟩|⟨fB,j,hR,dM,A,F,H,I⟩
    ·exact .inl ⟨dM,by simp [Instr.findNow,ar,A]⟩
    ·refine .inr ⟨fB,j+1,hR,dM,?_,by simpa using F,H,I⟩;simp [Instr.findNow,ar,A];omega
theorem pL{κ:bh}{D:Nat}{kx:wq}{d:TypeDesc}{x v:ae}{X V:Value}(cR:kC kx d=true)(dc:isKey kx x=true)(a9:dA κ D x X)(bJ:dA κ D v V):∀(es:List (ae×ae)) (l:List MapEntry) (i:Nat) (r:List (ae×ae)),mb κ D es l→putKey x v es=some r→
  (Instr.findNow d X l i=some none∧∀clock,mb κ D r (l++[{key:=X,val:=V,born:=clock}]))∨∃j e,Instr.findNow d X l i=some (some (i+j,e.val))∧l[j]? =some e∧e.key=X∧mb κ D r (l.set j {e with key:=X,val:=V})
 |[],l,i,r,hm,h=>by
  have:l=[]:=kF hm.1;subst this;simp only[putKey,bj] at h;subst h;refine .inl ⟨rfl,fun clock=>⟨rfl,fun j p e fp he=>?_⟩⟩;cases j with
  |zero=>simp at fp he;subst fp;subst he;exact⟨a9,bJ⟩
  |succ j=>simp at fp
 |(y,u)::es,l,i,r,hm,h=>by
  obtain⟨e,l',rfl,eQ,hu,H⟩:=hm.tO;simp only[putKey] at h;cases A:sa x y with
  |none=>rw[A] at h;cases h
  |some b=>
   rw[A] at h;obtain⟨ar,av⟩:=uP cR dc a9 eQ A;cases b with
   |true=>
    simp only[bj] at h;subst h;refine .inr ⟨0,e,by simp [Instr.findNow,ar],rfl,(av rfl).symm,by have:=hm.1;simpa using this,fun j p q fp gr=>?_⟩;cases j with
    |zero=>simp at fp gr;subst fp;subst gr;exact⟨by rw[av rfl];exact eQ,bJ⟩
    |succ j=>exact H.2 j p q (by simpa using fp) (by simpa using gr)
   |false=>
    simp only at h;cases fp:putKey x v es with
    |none=>rw[fp] at h;cases h
    |some B=>
     rw[fp] at h;simp only[ep,bj] at h;subst h;have cons:∀{I},mb κ D B I→mb κ D ((y,u)::B) (e::I):=fun J=>by
      refine⟨by simp [J.1],fun j p q fp gr=>?_⟩;cases j with
      |zero=>simp at fp gr;subst fp;subst gr;exact⟨eQ,hu⟩
      |succ j=>exact J.2 j p q (by simpa using fp) (by simpa using gr)
     rcases pL cR dc a9 bJ es l' (i+1) B H fp with⟨dM,F⟩|⟨j,hR,dM,F,K,L⟩
     ·exact .inl ⟨by simp [Instr.findNow,ar,dM],fun clock=>by simpa using cons (F clock)⟩
     ·refine .inr ⟨j+1,hR,?_,by simpa using F,K,by simpa using cons L⟩;simp [Instr.findNow,ar,dM];omega
section
variable{P:Program}{ty:TypeId}{ρ:Operand→Value}{κ:bh}{s:ag}{w:World}(a3:cY κ s w)
include a3
theorem uQ{E:Env}(bo:E.F=.not){k:ae→ag→ah}{r:ah}(bt:r≠.fail){t:TypeId}{b:Option Loc}(aQ:lV E s k b=r):∃fB s',k fB s'=r∧dK P (.makeMap t none) ty ρ κ s w fB s':=by
 unfold lV at aQ;cases b with
 |none=>exact absurd aQ.symm bt
 |some b=>
  simp only at aQ;cases e:s.hd b (.map []) with
  |none=>rw[e] at aQ;exact absurd aQ.symm bt
  |some p=>
   obtain⟨l,s'⟩:=p;rw[e] at aQ;simp only[bo,aU.not] at aQ;obtain⟨u,y,bK,h⟩:=ij.by e
   obtain⟨κ',hb,g2,A,m7⟩:=a3.OM (w':=w.alloc (.map #[] 0)) h rfl rfl rfl rfl;refine⟨_,_,aQ,.map (some w.heap.size),κ',w.alloc (.map #[] 0),.inl (fun dst pos after guard=>?_),g2,hb,?_⟩
   ·simp [execOp,Instr.makeMap,Result.andThen]
   ·simp only[ae.ap,bK];rw[←A];exact .map u y (Nat.lt_succ_of_le h.le) m7
theorem wK{E:Env}(bo:E.F=.not){k:ae→ag→ah}{r:ah}(bt:r≠.fail){o:Op}{t J Y:TypeId}{d:TypeDesc}{kx:wq}(dU:P.underlying t=some (.map J Y))(u:P.underlying J=some d)(cR:kC kx d=true){m x v:ae}{M X V:Value}
  (hm:dA κ (s.aa+1) (m.ap s.aa) M)(a9:dA κ (s.aa+1) x X)(bJ:dA κ (s.aa+1) v V)(K:∀dst pos after guard,execOp ρ ⟨dst,o,ty,pos,after,guard⟩=(do Instr.mapUpdate t M X V;pure .skip:Sem Next))(aQ:lb E s k kx m x v=r):
  ∃fB s',k fB s'=r∧dK P o ty ρ κ s w fB s':=by
 cases m<;> simp only[lb] at aQ<;> try exact absurd aQ.symm bt
 rename_i a;simp only[ae.ap] at hm;rw[←ag.hJ] at aQ;cases y:a.ap s.aa with
 |l i=>cases a<;> simp [Loc.ap] at y
 |g e i=>
  rw[y] at aQ hm;have Z:M=.map (some (κ.loc e i))∧e<s.aa+1∧i<κ.n e:=by cases hm;exact⟨rfl,by assumption,by assumption⟩
  obtain⟨rfl,he,bY⟩:=Z;cases cB:s.get (.g e i) with
  |none=>rw[cB] at aQ;exact absurd aQ.symm bt
  |some ab=>
   rw[cB] at aQ;cases ab<;> try exact absurd aQ.symm bt
   rename_i es;simp only[bo,aU.not] at aQ;obtain⟨A,h⟩:=cV aQ bt;simp only[bm] at A;cases fp:putKey x v es with
   |none=>rw[fp] at h;exact absurd h.symm bt
   |some L=>
    rw[fp] at h;simp only at h;rw[←ag.lf,y] at h;cases B:s.set (.g e i) (.map L) with
    |none=>rw[B] at h;exact absurd h.symm bt
    |some s'=>
     rw[B] at h;obtain⟨fi,clock,ar,av⟩:=a3.obj e i _ cB;have N:=mL y (ej.cons a9 (ej.cons bJ (ej.nil _ _))) A.2;have O:=N.2 0 x X rfl rfl;have ac:=N.2 1 v V rfl rfl;have I:=Fo cR A.1.1 O;rcases pL cR A.1.1 O ac es fi.toList 0 L av fp with⟨dM,H⟩|⟨j,U,dM,H,ad,af⟩
     ·obtain⟨hb,g2⟩:=a3.Fk (fi:=fi.push {key:=X,val:=V,born:=clock}) (clock:=clock+1) cB B (by simpa using H clock);refine⟨_,_,h,undef,κ,_,.inr ⟨fun dst pos after guard=>?_,rfl⟩,g2,hb,.dead _⟩;rw[K];simp [Instr.mapUpdate,run_underlying dU,MapKept.run_getObj_map ar,MapKept.run_checkKey u I,MapKept.run_findKey u dM,MapKept.run_setObj_map _ ar,Result.andThen]
     ·have df:fi[j]? =some U:=by simpa using H
      obtain⟨hb,g2⟩:=a3.Fk (fi:=fi.modify j fun e=>{e with key:=X,val:=V}) (clock:=clock) cB B (by
       have:(fi.modify j fun e=>{e with key:=X,val:=V}).toList=fi.toList.set j {U with key:=X,val:=V}:=by
        apply List.ext_getElem?;intro q;simp only[Array.getElem?_toList,Array.getElem?_modify,List.getElem?_set];by_cases gr:j=q
        ·subst gr;have ai:j<fi.toList.length:=(eA.1 H).1;rw[if_pos rfl,if_pos rfl,if_pos ai,df];rfl
        ·simp [gr]
       rw[this];exact af)
      refine⟨_,_,h,undef,κ,_,.inr ⟨fun dst pos after guard=>?_,rfl⟩,g2,hb,.dead _⟩;rw[K];simp only[bf] at dM;have aj:(fi[j]?.map MapEntry.key).getD X=X:=by rw[df];exact ad
      simp [Instr.mapUpdate,run_underlying dU,MapKept.run_getObj_map ar,MapKept.run_checkKey u I,MapKept.run_findKey u dM,MapKept.run_setObj_map _ ar,aj,MapKept.run_keyThatStays I,Result.andThen]
theorem wL{E:Env}(bo:E.F=.not){k:ae→ag→ah}{r:ah}(bt:r≠.fail){t ab J:TypeId}{x y:Operand}{d:TypeDesc}{kx:wq}{ok:Bool}{zero:ae}{i:TypeInfo}{Z:Value}(dU:P.underlying t=some (.map ab J))(H:P.underlying ab=some d)(cR:kC kx d=true)
  (bY:P.info? J=some i)(ai:i.zero=some Z)(hC:hg zero Z=true){m u:ae}
  (hm:dA κ (s.aa+1) (m.ap s.aa) (ρ x))(a9:dA κ (s.aa+1) u (ρ y))(aQ:lc E s k kx zero ok m u=r):∃fB,k fB s=r∧dK P (.lookup t x y ok) ty ρ κ s w fB s:=by
 unfold lc at aQ;obtain⟨ac,h⟩:=cV aQ bt;clear aQ;have K:=Fo cR ac a9;have ad:(zeroValue J).run P w=.ok Z w:=by simp [zeroValue,typeInfo,bY,ai]
 cases A:entriesOf s m with
 |none=>rw[A] at h;exact absurd h.symm bt
 |some es=>
  rw[A] at h;simp only[bo,aU.not] at h;have aj:∃l:Array MapEntry,mb κ (s.aa+1) es l.toList∧((ρ x=.map none∧l= #[])∨∃q clock,ρ x=.map (some q)∧w.heap[q]? =some (.map l clock)):=by
   cases m<;> simp only[entriesOf] at A<;> try cases A
   ·rename_i a;simp only[ae.ap] at hm;rw[←ag.hJ] at A;cases B:a.ap s.aa with
    |l j=>cases a<;> simp [Loc.ap] at B
    |g e j=>
     rw[B] at A hm;have I:ρ x=.map (some (κ.loc e j))∧e<s.aa+1:=by generalize ρ x=q at hm;cases hm;exact⟨rfl,by assumption⟩
     cases cB:s.get (.g e j) with
     |none=>rw[cB] at A;cases A
     |some ak=>
      rw[cB] at A;cases ak<;> simp only[bj] at A<;> try cases A
      obtain⟨fi,clock,ar,av⟩:=a3.obj e j _ cB;refine⟨fi,⟨av.1,fun q p L fp af=>⟨((av.2 q p L fp af).1).up (by have:=I.2;omega),((av.2 q p L fp af).2).up (by have:=I.2;omega)⟩⟩,?_⟩;exact .inr ⟨_,clock,I.1,ar⟩
   ·have I:ρ x=.map none:=by
     simp only[ae.ap] at hm;generalize ρ x=q at hm;cases hm;rfl
    exact⟨#[],⟨rfl,fun q p L fp=>by simp at fp⟩,.inl ⟨I,rfl⟩⟩
  obtain⟨l,bK,al⟩:=aj;have hex:∀(a:Option (Nat×Value)) (V:Value),Instr.findNow d (ρ y) l.toList 0=some a→V=(match a with |some (_,v)=>v|none=>Z)→∀dst pos after guard,(execOp ρ ⟨dst,.lookup t x y ok,ty,pos,after,guard⟩).run P w=.ok (.value (if ok then .tuple #[V,.bool a.isSome] else V)) w:=by
   intro a V B M dst pos after guard;have dM:(Instr.lookup t (ρ x) (ρ y) ok).run P w=.ok (if ok then .tuple #[V,.bool a.isSome] else V) w:=by
    rcases al with⟨e,rfl⟩|⟨q,clock,e,ar⟩
    ·cases a with
     |none=>simp [Instr.lookup,run_underlying dU,e,MapKept.run_checkKey H K,MapKept.run_findKey H B,ad,M,Result.andThen]
     |some p=>simp [Instr.findNow] at B
    ·cases a with
     |none=>simp [Instr.lookup,run_underlying dU,e,MapKept.run_getObj_map ar,MapKept.run_checkKey H K,MapKept.run_findKey H B,ad,M,Result.andThen]
     |some p=>simp [Instr.lookup,run_underlying dU,e,MapKept.run_getObj_map ar,MapKept.run_checkKey H K,MapKept.run_findKey H B,M,Result.andThen]
   simp only[execOp,Sem.run_bind,dM,Result.andThen];rfl
  cases N:findKey u es with
  |none=>rw[N] at h;exact absurd h.symm bt
  |some am=>
   rw[N] at h;obtain⟨O,an⟩:=nT zero Z hC;rcases oK cR ac a9 es l.toList 0 am bK N with⟨rfl,U⟩|⟨v,j,e,rfl,U,ao,aq,Y⟩
   ·simp only at h;refine⟨_,h,bE a3 _ (hex none Z U rfl) ?_⟩;cases ok with
    |true=>have:ej κ (s.aa+1) [zero,.bool false] [Z,.bool false]:=.cons (O _ _) (.cons (.bool _) (.nil _ _));exact .eb _ _ this.1 this.2
    |false=>simp only[cond_false,bS,↓reduceIte];rw[(O κ (s.aa+1)).zL];exact O _ _
   ·simp only at h;refine⟨_,h,bE a3 _ (hex _ e.val U rfl) ?_⟩;cases ok with
    |true=>have:ej κ (s.aa+1) [v,.bool true] [e.val,.bool true]:=.cons Y (.cons (.bool _) (.nil _ _));exact .eb _ _ this.1 this.2
    |false=>simp only[cond_false,bS,↓reduceIte];rw[Y.zL];exact Y
end
abbrev wM(ro:Option Nat):Fence:={Fence.wide with round:=ro}
structure hi (l:Nat) (κ:bh) (s:ag) (w:World) (κ':bh) (s':ag) (w':World):Prop where
 k:gO κ κ' (s.aa+1)
 aa:s'.aa=s.aa
 size:w.heap.size≤w'.heap.size
 os:w'.os=w.os
 tape:w'.tape=w.tape
 output:w'.output=w.output
 kK:∀b,b<w.heap.size→b≠l→¬Live κ s b→w'.heap[b]? =w.heap[b]?
 live:∀b,b<w.heap.size→Live κ' s' b→Live κ s b
 oF:∀a,κ'.F a≠none→κ.F a≠none∨w.heap.size≤a.block∨Live κ s a.block
theorem ft.x{l:Nat}{κ κ':bh}{s s':ag}{w w':World}(h:ft κ s w κ' s' w'):hi l κ s w κ' s' w':=⟨h.k,h.aa,h.size,h.os,h.tape,h.output,fun b e _=>h.kK b e,h.live,h.oF⟩
theorem hi.trans{l:Nat}{κ r u:bh}{s y A:ag}{w B F:World}(h:hi l κ s w r y B)(k:hi l r y B u A F):hi l κ s w u A F:=by
 refine⟨h.k.trans (h.aa ▸ k.k),k.aa.trans h.aa,Nat.le_trans h.size k.size,k.os.trans h.os,k.tape.trans h.tape,k.output.trans h.output,fun b e dk bK=>?_,fun b e bK=>?_,fun a H=>?_⟩
 ·rw[k.kK b (fX e h.size) dk (fun I=>bK (h.live b e I)),h.kK b e dk bK]
 ·exact h.live b e (k.live b (fX e h.size) bK)
 ·rcases k.oF a H with ar|ar|ar
  ·exact h.oF a ar
  ·exact .inr (.inl (Nat.le_trans h.size ar))
  ·by_cases e:a.block<w.heap.size
   ·exact .inr (.inr (h.live _ e ar))
   ·exact .inr (.inl (by omega))
def zM(P:Program)(f j:Nat):Prop:=
 (∃fn,P.funcs[f]? =some fn∧fn.body.isSome=true∧(fn.name== "runtime.NumGoroutine")=false)∧
 ∀(dC xs:List ae) (κ:bh) (s:ag) (w:World) (dr:List Value) (l:Nat),qy s j dC=some xs→cY κ s w→ej κ (s.aa+1) dC dr→l<w.heap.size→¬Live κ s l→(∀o,w.heap[l]? =some o→o.isCells=false)→
  ∀(J:Nat→ag→Prop) (y:ag→Option Obj→Prop),J 0 s→
  (∀(i:Nat) (x:ae) (A:Value) (κ':bh) (s':ag) (w':World),xs[i]? =some x→ft κ s w κ' s' w'→cY κ' s' w'→J i s'→dC.all (fS s s')=true→dA κ' (s'.aa+1) x A→
   YieldAt Fence.wide 0 P l #[A] w' fun e r=>
    (e=.returned (.bool true)∧∃u h,ft κ' s' w' u h r∧cY u h r∧J (i+1) h∧dC.all (fS s h)=true)∨
    (e=.returned (.bool false)∧∃u h,hi l κ' s' w' u h r∧cY u h r∧y h r.heap[l]?))→
  CallsIn Fence.wide 0 P f (#[.func (.yield l) #[] #[]]++dr.toArray) w fun e w'=>(∃v,e=.returned v)∧
   ((∃κ' s',ft κ s w κ' s' w'∧cY κ' s' w'∧J xs.length s')∨∃κ' s',hi l κ s w κ' s' w'∧cY κ' s' w'∧y s' w'.heap[l]?)
structure kD where
 dZ:Nat→Option TypeDesc
 info:Nat→Option (Nat×Nat×Value)
 VI:Nat→List ae
 eqs:Nat→Bool
 CV:Nat→Nat→Bool:=fun _ _=>false
structure kD.pn (T:kD) (P:Program):Prop where
 dZ:∀t d,T.dZ t=some d→P.underlying t=some d
 info:∀t n b z,T.info t=some (n,b,z)→∃i,P.info? t=some i∧i.size=n∧i.bytes=b∧i.zero=some z
 eqs:∀t,T.eqs t=true→P.stoodInHeld t=false∧P.eqGuardType P.depth t=false
 CV:∀f j,T.CV f j=true→zM P f j
def i6(T:kD):Nat→List wq→List Field→Bool
 |_,[],[]=>true
 |j,k::ig,f::jy=>Nat.beq f.offset j&&decide (f.name≠ "_")&&(match T.dZ f.type with
   |some d=>kC k d
   |none=>false)&&i6 T (j+1) ig jy
 |_,_,_=>false
def Vn(T:kD)(e:OK)(t:Nat)(d:TypeDesc):Bool:=
 match e,d with
 |.agg ig,.struct jy=>T.eqs t&&i6 T 0 ig jy.toList
 |.agg [.int _,.int _],.array 2 e=>T.eqs t&&(match T.dZ e with
   |some (.int _)=>true
   |_=>false)&&(T.info e).map (·.1)==some 1
 |_,_=>false
def kD.size(T:kD)(t:Nat):Option Nat:=(T.info t).map (·.1)
def kD.bytes(T:kD)(t:Nat):Option Nat:=(T.info t).map (·.2.1)
def kD.zero(T:kD)(t:Nat)(z:List ae):Bool:=
 match T.info t with
 |some (_,_,v)=>mJ z v.cells.toList
 |none=>false
def kD.load(T:kD)(t:Nat)(n:Option Nat):Bool:=
 match T.dZ t with
 |some d=>match n with
  |none=>zD d==false
  |some n=>zD d==true&&T.size t==some n
 |none=>false
section
variable{P:Program}{T:kD}(eO:T.pn P)
include eO
theorem kD.pn.size{t n:Nat}(h:T.size t=some n):e9 P t=some n:=by
 unfold kD.size at h;cases bY:T.info t with
 |none=>rw[bY] at h;cases h
 |some p=>obtain⟨e,b,z⟩:=p;rw[bY] at h;simp only[ep,bj] at h;obtain⟨i,ar,av,_⟩:=eO.info _ _ _ _ bY;simp [e9,ar,av,h]
theorem kD.pn.bytes{t n:Nat}(h:T.bytes t=some n):(P.info? t).map (·.bytes)=some n:=by
 unfold kD.bytes at h;cases bY:T.info t with
 |none=>rw[bY] at h;cases h
 |some p=>obtain⟨e,b,z⟩:=p;rw[bY] at h;simp only[ep,bj] at h;obtain⟨i,ar,_,av,_⟩:=eO.info _ _ _ _ bY;simp [ar,av,h]
theorem kD.pn.zero{t:Nat}{z:List ae}(h:T.zero t z=true):jT P t z=true:=by
 unfold kD.zero at h;cases bY:T.info t with
 |none=>rw[bY] at h;cases h
 |some p=>obtain⟨e,b,v⟩:=p;rw[bY] at h;obtain⟨i,ar,_,_,av⟩:=eO.info _ _ _ _ bY;simp only[jT,ar,f0,av];exact h
theorem kD.pn.load{t:Nat}{n:Option Nat}(h:T.load t n=true):jS P t n=true:=by
 unfold kD.load at h;cases cR:T.dZ t with
 |none=>rw[cR] at h;cases h
 |some d=>
  rw[cR] at h
  have:=eO.dZ _ _ cR;cases n with
  |none=>simp only at h;simp [jS,kM,this];simpa using h
  |some n=>simp only[bm] at h;have av:=eO.size (by simpa using h.2:T.size t=some n);simp [jS,kM,this,av];simpa using h.1
end
def j2:Nat→List bB→List (Nat×Operand)→Bool
 |_,[],[]=>true
 |i,x::xs,(j,y)::e=>Nat.beq i j&&cD x y&&j2 (i+1) xs e
 |_,_,_=>false
theorem jU:∀(i:Nat) (xs:List bB) (e:List (Nat×Operand)),j2 i xs e=true→∃r:List Operand,e=(r.zipIdx i).map (fun p=>(p.2,p.1))∧dx xs r=true
 |_,[],[],_=>⟨[],rfl,rfl⟩
 |_,[],_::_,h=>by simp [j2] at h
 |_,_::_,[],h=>by simp [j2] at h
 |i,x::xs,(j,y)::e,h=>by simp only[j2,bm] at h;obtain⟨r,ar,av⟩:=jU (i+1) xs e h.2;have u:=dj h.1.1;subst u;exact⟨y::r,by simp [ar],by simp [dx,h.1.2,av]⟩
def lY(T:kD):List Field→Option (List (Nat×Nat))
 |[]=>some []
 |f::jy=>(T.size f.type).bind fun n=>(lY T jy).map fun l=>(f.offset,n)::l
theorem oo{P:Program}{T:kD}(eO:T.pn P):∀(jy:List Field) (l:List (Nat×Nat)),lY T jy=some l→(jy.mapM fun f=>(e9 P f.type).map fun n=>(f.offset,n))=some l
 |[],l,h=>by simp only[lY,bj] at h;subst h;rfl
 |f::jy,l,h=>by
  simp only[lY] at h;cases dk:T.size f.type with
  |none=>rw[dk] at h;cases h
  |some n=>
   rw[dk] at h;cases bK:lY T jy with
   |none=>rw[bK] at h;cases h
   |some l'=>rw[bK] at h;simp only[f0,ep,bj] at h;subst h;rw[List.mapM_cons];simp [eO.size dk,oo eO jy l' bK]
def xj(a b:BinOp):Bool:=decide (a=b)
def eB(T:kD)(H:f9)(op:Op):Bool:=
 match H with
 |.move x|.oC x|.m1 x=>
  match op with
  |.move y|.assign y=>cD x y
  |_=>false
 |.pick c a b=>
  match op with
  |.pick nK fN I=>cD c nK&&cD a fN&&cD b I
  |_=>false
 |.alloc z=>
  match op with
  |.alloc t=>T.zero t z
  |_=>false
 |.fq x|.jP x=>
  match op with
  |.box _ y=>cD x y
  |_=>false
 |.build z ea=>
  match op with
  |.build t h=>
   match T.dZ t with
   |some (.struct jy)=>
    match lY T jy.toList with
    |some pl=>T.zero t z&&kg (pl.toArray[·]?) ea h.toList
    |none=>false
   |some (.array _ el)=>
    match T.size el with
    |some sz=>T.zero t z&&kg (fun i=>some (i*sz,sz)) ea h.toList
    |none=>false
   |_=>false
  |_=>false
 |.buildSlice sz ea=>
  match op with
  |.buildSlice t len h=>
   match T.dZ t with
   |some (.slice el)=>T.size el==some sz&&T.zero el (T.VI el)&&Nat.beq (T.VI el).length sz&&Nat.beq len ea.length&&Nat.ble (len*sz) 16777216&&j2 0 ea h.toList
   |_=>false
  |_=>false
 |.load n x=>
  match op with
  |.load t y=>T.load t n&&cD x y
  |_=>false
 |.store n x v=>
  match op with
  |.store t y u=>T.size t==some n&&cD x y&&cD v u
  |_=>false
 |.kZ _ _ n x v=>
  match op with
  |.store t y u=>T.size t==some n&&cD x y&&cD v u
  |_=>false
 |.nilCheck x=>
  match op with
  |.nilCheck y=>cD x y
  |_=>false
 |.bin o x y=>
  match op with
  |.binOp o' _ kw tM _=>xj o o'&&cD x kw&&cD y tM
  |_=>false
 |.eq neg e x y=>
  match op with
  |.binOp o t kw tM _=>
   match T.dZ t with
   |some d=>xj o (if neg then .neq else .eql)&&(pH e d||Vn T e t d)&&cD x kw&&cD y tM
   |none=>false
  |_=>false
 |.un o x=>
  match op with
  |.unOp o' _ y=>decide (o=o')&&cD x y
  |_=>false
 |.k9 k x=>
  match op with
  |.convert src dst y=>
   match T.dZ src,T.dZ dst with
   |some _,some (.int lz)=>decide (k=lz)&&cD x y
   |_,_=>false
  |_=>false
 |.nL x=>
  match op with
  |.convert src dst y=>
   match T.dZ src,T.dZ dst with
   |some _,some .string=>cD x y
   |_,_=>false
  |_=>false
 |.gI x=>
  match op with
  |.convert src dst y=>
   match T.dZ src,T.dZ dst with
   |some (.slice el),some .string=>
    match T.dZ el with
    |some (.int .u8)=>cD x y
    |_=>false
   |_,_=>false
  |_=>false
 |.iT x=>
  match op with
  |.convert src dst y=>
   match T.dZ src,T.dZ dst with
   |some .string,some (.slice el)=>
    match T.dZ el with
    |some (.int .u8)=>cD x y
    |_=>false
   |_,_=>false
  |_=>false
 |.jB t x=>
  match op with
  |.makeInterface OF y=>
   match T.dZ t with
   |some (.interface _)=>false
   |some _=>Nat.beq t OF&&cD x y
   |none=>false
  |_=>false
 |.kb f dC=>
  match op with
  |.makeFunc (.func wt) first J=>Nat.beq f wt&&Nat.beq first.size 0&&dx dC J.toList
  |_=>false
 |.makeSlice z bytes l c=>
  match op with
  |.makeSlice t l' nK=>
   match T.dZ t with
   |some (.slice el)=>T.zero el z&&T.size el==some z.length&&T.bytes el==some bytes&&Nat.blt 0 bytes&&cD l l'&&cD c nK
   |_=>false
  |_=>false
 |.kc x gk bY=>
  match op with
  |.slice t y r A none=>
   match T.dZ t with
   |some .string=>cD x y&&fu gk r&&fu bY A
   |_=>false
  |_=>false
 |.slice sz x gk bY iE=>
  match op with
  |.slice t y r A B=>
   match T.dZ t with
   |some (.slice el)=>T.size el==some sz&&cD x y&&fu gk r&&fu bY A&&fu iE B&&(!iE.isSome||bY.isSome)
   |_=>false
  |_=>false
 |.iO sz len x gk bY iE=>
  match op with
  |.slice t y r A B=>
   match T.dZ t with
   |some (.array n el)=>Nat.beq n len&&T.size el==some sz&&cD x y&&fu gk r&&fu bY A&&fu iE B&&(!iE.isSome||bY.isSome)
   |_=>false
  |_=>false
 |.jC sz bytes _ x y=>
  match op with
  |.call {callee:=.builtin .append,args:=⟨[kw,tM]⟩,argTypes:=⟨[t,t2]⟩}=>
   match T.dZ t with
   |some (.slice el)=>
    match T.info el with
    |some (n,b,z)=>
     (match T.dZ t2 with
      |some (.slice _)|some .string=>true
      |_=>false)&&Nat.beq n sz&&Nat.beq b bytes&&Nat.beq z.cells.size sz&&Nat.blt 0 bytes&&Nat.ble bytes 1048576&&cD x kw&&cD y tM
    |none=>false
   |_=>false
  |_=>false
 |.jD sz bytes _ x y=>
  match op with
  |.call {callee:=.builtin .append,args:=⟨[kw,tM]⟩,argTypes:=⟨[t,t2]⟩}=>
   match T.dZ t with
   |some (.slice el)=>
    match T.info el with
    |some (n,b,z)=>
     (match T.dZ t2 with
      |some (.slice _)|some .string=>true
      |_=>false)&&Nat.beq n sz&&Nat.beq b bytes&&Nat.beq z.cells.size sz&&Nat.blt 0 bytes&&Nat.ble bytes 1048576&&cD x kw&&cD y tM
    |none=>false
   |_=>false
  |_=>false
 |.jE sz bytes x y=>
  match op with
  |.call {callee:=.builtin .append,args:=⟨[kw,tM]⟩,argTypes:=⟨[t,t2]⟩}=>
   match T.dZ t with
   |some (.slice el)=>
    match T.info el with
    |some (n,b,z)=>
     (match T.dZ t2 with
      |some (.slice _)|some .string=>true
      |_=>false)&&Nat.beq n sz&&Nat.beq b bytes&&Nat.beq z.cells.size sz&&Nat.blt 0 bytes&&Nat.ble bytes 1048576&&cD x kw&&cD y tM
    |none=>false
   |_=>false
  |_=>false
 |.gA sz ea=>
  match op with
  |.buildSlice t len h=>
   match T.dZ t with
   |some (.slice el)=>T.size el==some sz&&T.zero el (T.VI el)&&Nat.beq (T.VI el).length sz&&Nat.beq len ea.length&&Nat.ble (len*sz) 16777216&&j2 0 ea h.toList
   |_=>false
  |_=>false
 |.gB sz ea=>
  match op with
  |.buildSlice t len h=>
   match T.dZ t with
   |some (.slice el)=>T.size el==some sz&&T.zero el (T.VI el)&&Nat.beq (T.VI el).length sz&&Nat.beq len ea.length&&Nat.ble (len*sz) 16777216&&j2 0 ea h.toList
   |_=>false
  |_=>false
 |.fieldAddr off x=>
  match op with
  |.fieldAddr t y i=>
   match T.dZ t with
   |some (.struct jy)=>
    match jy[i]? with
    |some f=>
     match T.size f.type with
     |some n=>Nat.beq f.offset off&&Nat.blt 0 n&&cD x y
     |none=>false
    |none=>false
   |_=>false
  |_=>false
 |.field off n x=>
  match op with
  |.field t y i=>
   match T.dZ t with
   |some (.struct jy)=>
    match jy[i]? with
    |some f=>Nat.beq f.offset off&&T.load f.type n&&cD x y
    |none=>false
   |_=>false
  |_=>false
 |.iK sz x i=>
  match op with
  |.indexAddr t y j=>
   match T.dZ t with
   |some (.slice el)=>T.size el==some sz&&cD x y&&cD i j
   |_=>false
  |_=>false
 |.fr sz len x i=>
  match op with
  |.indexAddr t y j=>
   match T.dZ t with
   |some (.array n el)=>Nat.beq n len&&T.size el==some sz&&cD x y&&cD i j
   |_=>false
  |_=>false
 |.mG x i=>
  match op with
  |.index t y j=>
   match T.dZ t with
   |some .string=>cD x y&&cD i j
   |_=>false
  |_=>false
 |.nM sz len n x i=>
  match op with
  |.index t y j=>
   match T.dZ t with
   |some (.array m el)=>Nat.beq m len&&T.size el==some sz&&T.load el n&&cD x y&&cD i j
   |_=>false
  |_=>false
 |.extract x i=>
  match op with
  |.extract y j=>Nat.beq i j&&cD x y
  |_=>false
 |.call f xs|.hn f xs=>
  match op with
  |.call c=>
   match c.callee with
   |.value (.func wt)=>Nat.beq f wt&&dx xs c.args.toList
   |_=>false
  |_=>false
 |.eu f xs|.ly f xs=>
  match op with
  |.call c=>
   match c.callee with
   |.value g=>cD f g&&dx xs c.args.toList
   |_=>false
  |_=>false
 |.len b x=>
  match op with
  |.call {callee:=.builtin .len,args:=⟨[y]⟩,argTypes:=⟨[t]⟩}=>
   match T.dZ t with
   |some .string=>b&&cD x y
   |some (.slice _)=> !b&&cD x y
   |_=>false
  |_=>false
 |.append sz bytes _ x y=>
  match op with
  |.call {callee:=.builtin .append,args:=⟨[kw,tM]⟩,argTypes:=⟨[t,t2]⟩}=>
   match T.dZ t with
   |some (.slice el)=>
    match T.info el with
    |some (n,b,z)=>
     (match T.dZ t2 with
      |some (.slice _)|some .string=>true
      |_=>false)&&Nat.beq n sz&&Nat.beq b bytes&&Nat.beq z.cells.size sz&&Nat.blt 0 bytes&&Nat.ble bytes 1048576&&cD x kw&&cD y tM
    |none=>false
   |_=>false
  |_=>false
 |.copy sz x y=>
  match op with
  |.call {callee:=.builtin .copy,args:=⟨[kw,tM]⟩,argTypes:=⟨[t,_]⟩}=>
   match T.dZ t with
   |some (.slice el)=>T.size el==some sz&&cD x kw&&cD y tM
   |_=>false
  |_=>false
 |.min xs=>
  match op with
  |.call c=>
   match c.callee with
   |.builtin .min=>dx xs c.args.toList
   |_=>false
  |_=>false
 |.max xs=>
  match op with
  |.call c=>
   match c.callee with
   |.builtin .max=>dx xs c.args.toList
   |_=>false
  |_=>false
 |.makeMap _=>
  match op with
  |.makeMap _ none=>true
  |_=>false
 |.mH kx m x v=>
  match op with
  |.mapUpdate t jg kw fB|.insert t jg kw fB=>
   match T.dZ t with
   |some (.map F _)=>
    match T.dZ F with
    |some d=>kC kx d&&cD m jg&&cD x kw&&cD v fB
    |none=>false
   |_=>false
  |_=>false
 |.lookup kx z ok m x=>
  match op with
  |.lookup t jg kw K=>
   match T.dZ t with
   |some (.map F L)=>
    match T.dZ F,T.info L with
    |some d,some (_,_,Z)=>kC kx d&&hg z Z&&(ok==K)&&cD m jg&&cD x kw
    |_,_=>false
   |_=>false
  |_=>false
 |.ln _ f xs=>
  match op with
  |.call c=>
   match c.callee with
   |.value (.func wt)=>Nat.beq f wt&&dx xs c.args.toList
   |_=>false
  |_=>false
 |.jQ _ f xs=>
  match op with
  |.call c=>
   match c.callee with
   |.value g=>cD f g&&dx xs c.args.toList
   |_=>false
  |_=>false
 |.uk neg x=>
  match op with
  |.binOp o t kw (.const .nilIface) _=>
   match T.dZ t with
   |some (.interface _)=>xj o (if neg then .neq else .eql)&&cD x kw
   |_=>false
  |_=>false
 |.no=>true
theorem dA.k4{κ:bh}{D:Nat}{v:ae}{x:Value}(h:dA κ D v x)(d:Nat):v.ap d=v:=by
 cases h<;> try rfl
 rename_i sz es g a cap dr cB ar av bO dD e r;cases g<;> try rfl
 rename_i l;cases l with
 |l i=>exact absurd cB (by simp [iz])
 |g d i=>rfl
theorem xk{P:Program}{w:World}{κ:bh}{D:Nat}(f:ae→ae→Option ae)(g:Value→Value→Sem Value)
  (A:∀x y z X Y,f x y=some z→dA κ D x X→dA κ D y Y→∃Z,(g X Y).run P w=.ok Z w∧dA κ D z Z):∀(u:List ae) (e:List Value) (x v:ae) (X:Value),ul f x u=some v→dA κ D x X→ej κ D u e→
   ∃V,(e.foldlM g X).run P w=.ok V w∧dA κ D v V
 |[],e,x,v,X,h,a9,r=>by
  simp only[ul,bj] at h
  have:e=[]:=kF r.1;subst this;subst h;exact⟨X,by simp,a9⟩
 |y::u,e,x,v,X,h,a9,r=>by
  cases e with
  |nil=>exact absurd r.1 (by simp)
  |cons Y e=>
   simp only[ul] at h;cases hC:f x y with
   |none=>rw[hC] at h;cases h
   |some z=>rw[hC] at h;simp only[f0] at h;obtain⟨Z,ar,av⟩:=A x y z X Y hC a9 (r.2 0 y Y rfl rfl);obtain⟨V,bO,dD⟩:=xk f g A u e z v Z h av ⟨by have:=r.1;simpa using this,fun j c y a1 eQ=>r.2 (j+1) c y (by simpa using a1) (by simpa using eQ)⟩;exact⟨V,by simp [List.foldlM_cons,ar,bO],dD⟩
section
variable{P:Program}{ty:TypeId}{κ:bh}{s:ag}{w:World}
theorem Io(x y z:ae)(X Y:Value)(h:min2 x y=some z)(a9:dA κ (s.aa+1) x X)(eQ:dA κ (s.aa+1) y Y):∃Z,(Builtin.min2 X Y).run P w=.ok Z w∧dA κ (s.aa+1) z Z:=by cases x<;> cases y<;> simp [min2] at h;subst h;rw[a9.ew,eQ.ew];exact⟨_,by simp only[Builtin.min2];rfl,.int _ _⟩
theorem Ip(x y z:ae)(X Y:Value)(h:max2 x y=some z)(a9:dA κ (s.aa+1) x X)(eQ:dA κ (s.aa+1) y Y):∃Z,(Builtin.max2 X Y).run P w=.ok Z w∧dA κ (s.aa+1) z Z:=by cases x<;> cases y<;> simp [max2] at h;subst h;rw[a9.ew,eQ.ew];exact⟨_,by simp only[Builtin.max2];rfl,.int _ _⟩
theorem ik{ao:Nat→ae}{a:Act}{G:Nat→ae}(bt:wl κ s ao a)(dS:j9 κ G):∀(xs:List bB) (e:List Operand),dx xs e=true→ej κ (s.aa+1) (xs.map fun x=>(aq G ao x).ap s.aa) (e.map a.eval)
 |[],[],_=>.nil _ _
 |[],_::_,h=>by simp [dx] at h
 |_::_,[],h=>by simp [dx] at h
 |x::xs,y::e,h=>by simp only[dx,bm] at h;exact .cons (bq bt dS h.1) (ik bt dS xs e h.2)
def mj(κ:bh)(s:ag)(w:World)(v:ae)(s':ag)(x:Value)(w':World):Prop:=∃κ',ft κ s w κ' s' w'∧cY κ' s' w'∧dA κ' (s.aa+1) (v.ap s.aa) x
def oq(P:Program)(o:Op)(ty:TypeId)(ρ:Operand→Value)(κ:bh)(s:ag)(w:World)(v:ae)(s':ag):Prop:=
 dK P o ty ρ κ s w v s'∨∃f xs,(∀dst pos after guard,(execOp ρ ⟨dst,o,ty,pos,after,guard⟩).run P w=.ok (.enter f xs) w)∧Calls P f xs w fun e w'=>∃x,e=.returned x∧mj κ s w v s' x w'
structure mM (P:Program) (E:Env):Prop where
 loop:∃n,∀step bN ao s k,E.loop step bN ao s k=dP step bN n ao s k
 nx:∀f args s v s',E.call f args s≠.panic v s'
 ok:∀f args s v s' κ w xs,E.call f args s=.ok v s'→cY κ s w→j9 κ E.au→ej κ (s.aa+1) args xs→
  (∃x w',(callFunc f xs.toArray).run P w=.ok (.value x) w'∧mj κ s w v s' x w')∨
  ((callFunc f xs.toArray).run P w=.ok (.enter f xs.toArray) w∧Calls P f xs.toArray w fun e w'=>∃x,e=.returned x∧mj κ s w v s' x w')
theorem wN{E:Env}(ju:mM P E)(a3:cY κ s w)(dS:j9 κ E.au){f:Nat}{args:List ae}{v:ae}{s':ag}{xs:List Value}{o:Op}{ρ:Operand→Value}(h:E.call f args s=.ok v s')(a9:ej κ (s.aa+1) args xs)
  (e:∀dst pos after guard,execOp ρ ⟨dst,o,ty,pos,after,guard⟩=callFunc f xs.toArray):oq P o ty ρ κ s w v s':=by
 rcases ju.ok f args s v s' κ w xs h a3 dS a9 with⟨x,w',ar,κ',av,bO,dD⟩|⟨ar,av⟩
 ·exact .inl ⟨x,κ',w',.inl (fun dst pos after guard=>by rw[e];exact ar),av,bO,dD⟩
 ·exact .inr ⟨f,xs.toArray,fun dst pos after guard=>by rw[e];exact ar,av⟩
theorem mj.pure(a3:cY κ s w){v:ae}{u:ag}{x:Value}{w':World}(h:mj {κ with n:=fun _=>0} {own:=[],up:=[],ro:=[]} w v u x w')(bJ:v.bb=true):mj κ s w v s x w':=by
 obtain⟨κ',ar,av,bO⟩:=h;have r:∀b,¬Live {κ with n:=fun _=>0} {own:=[],up:=[],ro:=[]} b:=fun b ⟨d,i,o,cB,_⟩=>by simp [ag.get] at cB
 have dc:gO κ {κ with F:=κ'.F} (s.aa+1):=⟨fun a v h=>ar.k.F a v h,fun _ _=>aB _,fun _ _ _ _=>rfl,fun _ _ _ _ _ _ h=>h⟩;refine⟨{κ with F:=κ'.F},⟨dc,rfl,ar.size,ar.os,ar.tape,ar.output,fun b e _=>ar.kK b e (r b),fun b e bK=>?_,fun a y=>?_⟩,?_,?_⟩
 ·obtain⟨d,i,o,cB,A⟩:=bK;exact⟨d,i,o,cB,A⟩
 ·rcases ar.oF a y with q|q|q
  ·exact .inl q
  ·exact .inr (.inl q)
  ·exact absurd q (r _)
 ·refine a3.world dc rfl rfl (fun a v h=>av.iA a v h) (fun b e=>⟨ar.kK b (a3.jK e) (r b),fun o=>?_⟩);show κ'.F ⟨b,o,none⟩=κ.F ⟨b,o,none⟩;cases gr:κ.F ⟨b,o,none⟩ with
  |some v=>exact ar.k.F _ _ gr
  |none=>
   cases B:κ'.F ⟨b,o,none⟩ with
   |none=>rfl
   |some v=>
    rcases ar.oF ⟨b,o,none⟩ (by rw[B];simp) with q|q|q
    ·exact absurd gr q
    ·exact absurd (a3.jK e) (Nat.not_lt.2 q)
    ·exact absurd q (r _)
 ·have H:dA κ' (({own:=[],up:=[],ro:=[]}:ag).aa+1) v x:=by rw[jf bJ] at bO;exact bO
  rw[jf bJ];exact H.bb bJ _ (fun _ _ h=>h)
theorem uR{E:Env}(ju:mM P E)(a3:cY κ s w)(dS:j9 κ E.au){f:Nat}{args:List ae}{v:ae}{r:ag}{xs:List Value}{o:Op}{ρ:Operand→Value}(h:E.call f args {own:=[],up:=[],ro:=[]}=.ok v r)(bJ:v.bb=true)(a9:ej κ (s.aa+1) args xs)(aQ:ae.a7 args=true)
  (u:∀dst pos after guard,execOp ρ ⟨dst,o,ty,pos,after,guard⟩=callFunc f xs.toArray):oq P o ty ρ κ s w v s:=by
 have y:ej {κ with n:=fun _=>0} (({own:=[],up:=[],ro:=[]}:ag).aa+1) args xs:=⟨a9.1,fun j c x a1 A=>(a9.2 j c x a1 A).bb (iG aQ a1) _ (fun _ _ h=>h)⟩;have B:j9 {κ with n:=fun _=>0} E.au:=fun n=>⟨(dS n).1.bb (dS n).2 _ (fun _ _ h=>h),(dS n).2⟩
 rcases ju.ok f args _ v r _ w xs h a3.empty B y with⟨x,w',ar,av⟩|⟨ar,av⟩
 ·obtain⟨κ',F,H,I⟩:=av.pure a3 bJ;exact .inl ⟨x,κ',w',.inl (fun dst pos after guard=>by rw[u];exact ar),F,H,I⟩
 ·exact .inr ⟨f,xs.toArray,fun dst pos after guard=>by rw[u];exact ar,av.mono fun e w' ⟨x,he,J⟩=>⟨x,he,J.pure a3 bJ⟩⟩
theorem kO{ρ:Operand→Value}{c:Call}{f:Nat}{xs:Array Value}(a1:∃y,c.callee=.value y∧ρ y=.func (.func f) #[] xs):∀dst pos after guard,execOp ρ ⟨dst,.call c,ty,pos,after,guard⟩=callFunc f (c.args.toList.map ρ++xs.toList).toArray:=by
 intro dst pos after guard;obtain⟨y,eQ,e⟩:=a1;have ar:resolve ρ c ty=(Pure.pure {target:=.fn (.func f) xs,args:= #[]++c.args.map ρ}:Sem Deferred):=by simp only[resolve,eQ,e,Deferred.ofValue]
 have av:(#[]++c.args.map ρ)++xs=(c.args.toList.map ρ++xs.toList).toArray:=by apply Array.ext';simp
 show(do let d←resolve ρ c ty;invoke d.target d.args)=_;rw[ar];show invoke (.fn (.func f) xs) (#[]++c.args.map ρ)=_;simp only[invoke,av]
end
theorem cY.CW{κ κ':bh}{s:ag}{w:World}(a3:cY κ s w)(o:dp)(dc:gO κ κ' (s.aa+1))(dk:∀d,κ'.n d=if d=s.aa then κ.n d+1 else κ.n d)(H:∀d i m,i<κ.n d→κ'.lo d i m=κ.lo d i m)(h1:κ'.F=κ.F)
  (I:zv κ' s.aa s.own.length w o)(B:∀b,bg κ' s.aa s.own.length o=some b→¬Live κ s b):cY κ' (s.new o) w:=by
 have A:=ij.new s o;have key:∀d i o,s.get (.g d i)=some o→zv κ' d i w o∧bg κ' d i o=bg κ d i o:=fun d i o h=>(a3.obj d i o h).bN (a3.ns h) (dc.low (by have:=ag.gv h;omega)) (fun m=>H d i m (a3.ns h)) (fun b J=>⟨rfl,fun x=>by rw[h1]⟩)
 refine⟨fun a v h=>a3.iA a v (h1 ▸ h),fun d l h=>?_,fun d i o' h=>?_,fun d i u fG hx y b h r e hR=>?_⟩
 ·rw[A.ao] at h;rw[dk];split at h
  ·rename_i cR;cases bt:s.ao d with
   |none=>rw[bt] at h;cases h
   |some l'=>rw[bt] at h;simp only[ep,bj] at h;rw[←h,if_pos cR,←a3.len d l' bt];simp
  ·rename_i cR;rw[if_neg cR];exact a3.len d l h
 ·rw[A.get] at h;split at h
  ·rename_i a1;obtain⟨rfl,rfl⟩:=a1;simp only[bj] at h;exact h ▸ I
  ·exact(key d i o' h).1
 ·rw[A.get] at h r;split at h
  ·rename_i a1;obtain⟨rfl,rfl⟩:=a1;simp only[bj] at h;subst h;split at r
   ·rename_i kL;exact⟨kL.1.symm,kL.2.symm⟩
   ·rw[(key fG hx y r).2] at hR;exact absurd ⟨fG,hx,y,r,hR⟩ (B b e)
  ·split at r
   ·rename_i kL;obtain⟨rfl,rfl⟩:=kL;simp only[bj] at r;subst r;rw[(key d i u h).2] at e;exact absurd ⟨d,i,u,h,e⟩ (B b hR)
   ·rw[(key d i u h).2] at e;rw[(key fG hx y r).2] at hR;exact a3.inj d i u fG hx y b h r e hR
theorem cY.zN{κ:bh}{s:ag}{w:World}(a3:cY κ s w){i:Nat}{o:dp}(cB:s.own[i]? =some o):cY κ {s with own:=s.own.set i .gone} w∧ft κ s w κ {s with own:=s.own.set i .gone} w:=by
 have r:s.get (.g s.aa i)=some o:=by simp [ag.get,cB]
 exact a3.setObj r (o':=.gone) (by simp [ag.set]) (.refl _ _) rfl (fun _ _ _ _=>rfl) (fun a v h=>a3.iA a v h) (fun b e e3=>⟨rfl,fun _=>rfl⟩) (aB _) rfl rfl rfl trivial (fun b e=>by simp [bg] at e)
def bh.row(κ:bh)(D I b n cap sz:Nat):bh:=
 {κ with n:=fun d=>if d=D then κ.n d+1 else κ.n d,loc:=fun d i=>if d=D∧i=I then b else κ.loc d i,lo:=fun d i m=>if d=D∧i=I then(if m=n then some (⟨b,0,none⟩,cap,sz) else none) else κ.lo d i m}
theorem gO.row{κ:bh}{D I b n cap sz:Nat}(e:I=κ.n D)(E:Nat):gO κ (κ.row D I b n cap sz) E:=by
 have e3:∀d i,i<κ.n d→¬(d=D∧i=I):=by
  rintro d i bY ⟨rfl,rfl⟩
  omega
 refine⟨fun _ _ h=>h,fun d _=>?_,fun d i _ bY=>?_,fun d i n x _ bY h=>?_⟩
 ·simp only[bh.row];split<;> omega
 ·simp only[bh.row];rw[if_neg (e3 d i bY)]
 ·simp only[bh.row];rw[if_neg (e3 d i bY)];exact h
theorem cY.newRow{κ:bh}{s:ag}{w w':World}(a3:cY κ s w)(cs:List ae)(xs:List Value)(C:Array Value)(e:TypeId)(n sz cap:Nat)(a9:ej κ (s.aa+1) cs xs)(ju:C.size=cap*sz)(hle:cs.length≤C.size)(df:∀j,j<cs.length→C[j]? =xs[j]?)
  (hw:w'.heap=w.heap.push (.cells C e (0,0)))(u:w'.os=w.os)(dU:w'.tape=w.tape)(hu:w'.output=w.output):
  cY (κ.row s.aa s.own.length w.heap.size n cap sz) (s.new (.cells cs)) w'∧ft κ s w (κ.row s.aa s.own.length w.heap.size n cap sz) (s.new (.cells cs)) w':=by
 have y:s.own.length=κ.n s.aa:=a3.len s.aa s.own (by simp [ag.ao]);have dc:gO κ (κ.row s.aa s.own.length w.heap.size n cap sz) (s.aa+1):=gO.row y _;have A:w'.heap[w.heap.size]? =some (.cells C e (0,0)):=by rw[hw];simp
 have B:C.toList.take cs.length=xs:=by
  apply List.ext_getElem?;intro j;rw[List.getElem?_take];split
  ·rename_i F;rw[←df j F];simp
  ·rw[List.getElem?_eq_none (by rw[a9.1];omega)]
 exact a3.newObj (w':=w') (.cells cs) dc (ij.new s _) (fun d=>rfl) (fun d i m bY=>if_neg (by rintro ⟨rfl,rfl⟩;omega)) (.inl rfl) (fun b r=>by rw[hw,Array.getElem?_push];simp [Nat.ne_of_lt r]) (by rw[hw];simp) u dU hu
  ⟨⟨C,e,(0,0),by simp [bh.row,A],fun j _=>by simp,by rw[B];exact a9.mono dc,fun m b c z h=>by
   simp only[bh.row,and_self,if_true] at h;split at h
   ·simp only[bj,eW] at h;obtain⟨_,rfl,rfl⟩:=h;omega
   ·cases h⟩,fun o=>a3.p8 (by simp [bh.row])⟩ (fun b r=>by simp [bg,bh.row] at r;omega)
theorem cY.rename{κ:bh}{s:ag}{w:World}(a3:cY κ s w){i n m cap sz:Nat}{cs:List ae}(cB:s.own[i]? =some (.cells cs))(H:κ.lo s.aa i m=some (⟨κ.loc s.aa i,0,none⟩,cap,sz)):
  cY (κ.row s.aa s.own.length (κ.loc s.aa i) n cap sz) {s with own:=s.own.set i .gone++[.cells cs]} w∧ft κ s w (κ.row s.aa s.own.length (κ.loc s.aa i) n cap sz) {s with own:=s.own.set i .gone++[.cells cs]} w:=by
 have I:s.own.length=κ.n s.aa:=a3.len s.aa s.own (by simp [ag.ao]);have dc:gO κ (κ.row s.aa s.own.length (κ.loc s.aa i) n cap sz) (s.aa+1):=gO.row I _;have bY:i<s.own.length:=(eA.1 cB).1;have u:s.get (.g s.aa i)=some (.cells cs):=by simp [ag.get,cB]
 obtain⟨ar,av⟩:=a3.zN cB;obtain⟨⟨C,e,jt,J,K,L,M⟩,N⟩:=a3.obj _ _ _ u;have y:(κ.row s.aa s.own.length (κ.loc s.aa i) n cap sz).loc s.aa s.own.length=κ.loc s.aa i:=by simp [bh.row]
 have O:zv (κ.row s.aa s.own.length (κ.loc s.aa i) n cap sz) s.aa s.own.length w (.cells cs):=by
  refine⟨⟨C,e,jt,by rw[y];exact J,K,L.mono dc,fun jg b c z h=>?_⟩,fun o=>by rw[y];exact N o⟩;simp only[bh.row,and_self,if_true] at h;split at h
  ·simp only[bj,eW] at h;obtain⟨_,rfl,rfl⟩:=h;exact M m _ _ _ H
  ·cases h
 have key:=ar.CW (κ':=κ.row s.aa s.own.length (κ.loc s.aa i) n cap sz) (.cells cs) dc (fun d=>rfl) (fun d hx jg ah=>if_neg (by rintro ⟨bO,dD⟩;have r:d=s.aa:=bO;subst r;have ai:hx=s.own.length:=dD;omega)) rfl (by
   show zv _ s.aa (s.own.set i .gone).length w _;rw[List.length_set];exact O) (fun b A=>by
   have U:b=κ.loc s.aa i:=by have:bg (κ.row s.aa s.own.length (κ.loc s.aa i) n cap sz) s.aa (s.own.set i .gone).length (.cells cs)=some b:=A;rw[List.length_set] at this;simp only[bg,y,bj] at this;exact this.symm
   subst U
   rintro ⟨fG,hx,o',bO,dD⟩
   have V:=ag.uv (s:=s) (s':={s with own:=s.own.set i .gone}) (d:=s.aa) (i:=i) (o:=.gone) (by simp [ag.set]) u fG hx;rw[V] at bO;split at bO
   ·simp only[bj] at bO;subst bO;simp [bg] at dD
   ·rename_i e3;obtain⟨B,F⟩:=a3.inj fG hx o' s.aa i _ _ bO u dD rfl;exact e3 ⟨B,F⟩)
 refine⟨key,⟨dc,rfl,aB _,rfl,rfl,rfl,fun _ _ _=>rfl,fun b A bK=>?_,fun a Y=>.inl Y⟩⟩;obtain⟨fG,hx,o',bO,dD⟩:=bK;have Z:=(ij.new {s with own:=s.own.set i .gone} (.cells cs)).get fG hx;have r:(({s with own:=s.own.set i .gone}:ag).new (.cells cs)).get (.g fG hx)=some o':=bO;rw[Z] at r;split at r
 ·rename_i a1;simp only[bj] at r;subst r;obtain⟨B,F⟩:=a1;have ab:hx=s.own.length:=by rw[F];simp
  have ac:fG=s.aa:=B;subst ab ac;simp only[bg,y,bj] at dD;exact⟨s.aa,i,_,u,by simp [bg,dD]⟩
 ·rename_i a1;have aj:=ar.ns r;have ak:=ag.gv r;have ad:bg κ fG hx o'=some b:=by
   have e3:¬(fG=s.aa∧hx=s.own.length):=by rintro ⟨af,al⟩;subst af;omega
   cases o' with
   |cells am=>simp only[bg,bh.row,if_neg e3] at dD ⊢;exact dD
   |map es=>simp only[bg,bh.row,if_neg e3] at dD ⊢;exact dD
   |tok k=>simp only[bg,bh.row,if_neg e3] at dD ⊢;exact dD
   |gone=>simp [bg] at dD
  exact av.live b A ⟨fG,hx,o',r,ad⟩
section
variable{P:Program}{ty:TypeId}{ρ:Operand→Value}{κ:bh}{s:ag}{w:World}(a3:cY κ s w)
include a3
theorem uS{E:Env}(bo:E.F=.not){k:ae→ag→ah}{r:ah}(bt:r≠.fail){t t2 el:TypeId}{sz bytes:Nat}{z:Value}(h:m9 P t t2 el sz bytes z){x y:Operand}{X Y:ae}
  (kA:dA κ (s.aa+1) (X.ap s.aa) (ρ x))(aR:dA κ (s.aa+1) (Y.ap s.aa) (ρ y))(aQ:lU E s k sz bytes X Y=r):∃fB s',k fB s'=r∧dK P (.call {callee:=.builtin .append,args:= #[x,y],argTypes:= #[t,t2]}) ty ρ κ s w fB s':=by
 unfold lU at aQ;cases iB:dG s Y with
 |none=>rw[iB] at aQ;exact absurd aQ.symm bt
 |some p=>
  obtain⟨u,new⟩:=p;rw[iB] at aQ;obtain⟨M,bd,J⟩:=ki a3 aR iB;cases new with
  |nil=>exact absurd aQ.symm bt
  |cons aS aT=>
   simp only[bo,aU.not] at aQ;generalize aV:aS::aT=new at *;have kB:0<new.length:=by rw[←aV];simp
   have aD:s.own.length=κ.n s.aa:=a3.len s.aa s.own (by simp [ag.ao]);split at aQ
   ·
    rename_i aW;obtain⟨B,Z⟩:=cV aQ bt;simp only[bm] at B;obtain⟨⟨⟨aj,ak⟩,al⟩,am⟩:=B;have dM:=dj aj;have an:=(dj ak).symm;subst dM;subst an;have bO:=dW al;simp only[ae.ap] at kA;have ab:ρ x=.slice none 0 0:=by
     rcases kA.ht with⟨_,_,e⟩|⟨A,cap,dr,e,cB,_⟩
     ·exact e
     ·cases cB
    obtain⟨hlen,xs,a1,fU⟩:=fj (P:=P) M J new.length (aB _) w.drew (fun _=>rfl);have aq:=(fj (P:=P) M J new.length (aB _) w (fun _=>rfl)).1;simp only[List.take_length] at fU;have H:=e4 new u J;have N:xs.length=new.length*u:=by rw[fU.1,H]
    have K:(Builtin.firstCells u 0 (.slice none 0 0)).run P w.drew=.ok (#[]:Array Value) w.drew:=by
     obtain⟨_,os,K,O⟩:=fj (P:=P) (s:=s) (κ:=κ) (w:=w) (X:=Value.slice none 0 0) (v:=.dead) (sz:=u) (es:=[]) (.inr ⟨none,0,rfl,fun _=>rfl,fun a U=>(by cases U)⟩) (fun e he=>(by cases he)) 0 (aB _) w.drew (fun _=>rfl)
     have:os=[]:=kF (by simpa using O.1);rw[this] at K;exact K
    obtain⟨cap,C,L,V,ac,ad⟩:=iP (ty:=ty) h (base:=none) (fD:=0) (i5:=0) (os:=[]) aq a1 K N (by simp) (by omega) (by rw[bf];exact bO);simp only[bf,List.nil_append] at L ac ad;obtain⟨hb,g2⟩:=a3.newRow (w':=w.drew.alloc (.cells C el)) (new.flatMap ae.cells) xs C el new.length u cap fU V (by rw[H,V];exact fO _ L) (fun j df=>ac j (by rw[←H];exact df)) rfl rfl rfl rfl;refine⟨_,_,Z,_,_,_,.inl (hK (by rw[ab];exact ad)),g2,hb,?_⟩;simp only[ae.ap,Loc.ap];have bK:(κ.row s.aa s.own.length w.heap.size new.length cap u).loc s.aa s.own.length=w.heap.size:=by simp [bh.row]
    have key:=dA.cZ (κ:=κ.row s.aa s.own.length w.heap.size new.length cap u) (D:=s.aa+1) s.aa s.own.length 0 new.length 0 cap u (Nat.lt_succ_self _) (by simp [bh.row,aD]) L (.inr ⟨rfl,kB,rfl,by rw[bK];simp [bh.row]⟩);rw[bK] at key;exact key
   ·
    rename_i i len aW;split at aQ
    rotate_left
    ·exact absurd aQ.symm bt
    rename_i cs as;obtain⟨B,Z⟩:=cV aQ bt;simp only[bm,Bool.not_eq_true'] at B;obtain⟨⟨⟨⟨⟨⟨aj,ak⟩,al⟩,am⟩,aX⟩,aY⟩,aE⟩:=B;have dM:=dj aj;have an:=(dj ak).symm;subst dM;subst an;have af:=dj al;have be:len≠0:=fun eJ=>by rw[eJ] at am;cases am
    have au:=dW aX;simp only[ae.ap,Loc.ap] at kA;have cB:s.get (.g s.aa i)=some (.cells cs):=by simp [ag.get,as]
    obtain⟨lE,ab,cR,bY,bi,uN⟩:=kA.jL;obtain⟨_,_,_,aF⟩:(0:Nat)=0∧0<len∧(0:Nat)=0∧κ.lo s.aa i len=some (⟨κ.loc s.aa i,0,none⟩,lE,u):=by
     rcases uN with ar|ar
     ·omega
     ·exact ar
    obtain⟨⟨I,nV,av,aw,aG,aH,aI⟩,aJ⟩:=a3.obj _ _ _ cB;have aZ:=aI len _ _ _ aF;have H:=e4 new u J;have ax:i<s.own.length:=(eA.1 as).1;have hmul:(len+new.length)*u=len*u+new.length*u:=e5 _ _ _;have aK:=nU a3 cB 0;rw[bW] at aK;by_cases ay:len+new.length≤lE
    ·
     obtain⟨hlen,xs,a1,fU⟩:=fj (P:=P) M J new.length (aB _) w (fun _=>rfl);simp only[List.take_length] at fU;have N:xs.length=new.length*u:=by rw[fU.1,H]
     have bj:(len+new.length)*u≤I.size:=Nat.le_trans (fO _ ay) aZ;have ar:=nw aY fU;have a0:=run_storeCells_cells (P:=P) (κ.loc s.aa i) (len*u) xs 0 w (fun j df=>by rw[fI aw];simp;omega) (fun j df=>by
      have hu:=aG (len*u+0+j) (by omega);simp only[World.frozen?,aw];rw[Bool.and_eq_false_iff];by_cases aL:av.1≤len*u+0+j
      ·right;simp only[decide_eq_false_iff_not];exact fun h=>hu ⟨aL,h⟩
      ·left;simpa using aL) ar
     have a2:=run_append_fits (ty:=ty) h (base:=some ⟨κ.loc s.aa i,0,none⟩) (fD:=len) (i5:=lE) hlen a1 ay (w':=w.setCells (κ.loc s.aa i) (len*u) xs) (by
      have a4:(⟨κ.loc s.aa i,0,none⟩:Addr).add (len*u)=⟨κ.loc s.aa i,len*u,none⟩:=by rw[fT rfl];simp
      simp only[a4];simpa using a0)
     have az:=me xs w (κ.loc s.aa i) (len*u) I nV av aw (by omega);obtain⟨px,qG,CO⟩:=mg xs w (κ.loc s.aa i) (len*u);have tw:cs.length≤I.size:=by have:=aH.1;simp at this;omega
     have a5:(dN I.toList (len*u) xs).take (cs++new.flatMap ae.cells).length=I.toList.take cs.length++xs:=by
      rw[gu,H,af,←N];apply List.ext_getElem?;intro j;rw[List.getElem?_take];by_cases df:j<len*u
      ·rw[if_pos (by omega),gK _ _ _ (by simp;omega),if_neg (by omega),ha (by simp;omega),List.getElem?_take,if_pos (by omega)]
      ·rw[jW (by simp;omega)];have wJ:(I.toList.take (len*u)).length=len*u:=by simp;omega
       rw[wJ];by_cases aM:j<len*u+xs.length
       ·rw[if_pos aM,gK _ _ _ (by simp;omega),if_pos (by omega)]
       ·rw[if_neg aM,List.getElem?_eq_none (by omega)]
     let s1:ag:={s with own:=s.own.set i (.cells (cs++new.flatMap ae.cells))}
     have aN:cY κ s1 (w.setCells (κ.loc s.aa i) (len*u) xs)∧ft κ s w κ s1 (w.setCells (κ.loc s.aa i) (len*u) xs):=by
      refine a3.setObj cB (o':=.cells (cs++new.flatMap ae.cells)) (by simp [ag.set,s1]) (.refl _ _) rfl (fun _ _ _ _=>rfl) (fun a v h=>?_) (fun b _ B=>⟨?_,fun _=>rfl⟩) (by rw[mf];exact aB _) px qG CO ⟨⟨(dN I.toList (len*u) xs).toArray,nV,av,by rw[az];simp,by simpa [fH] using aG,?_,fun m b cap sz hm=>by simpa [fH] using aI m b cap sz hm⟩,aJ⟩ (fun b B=>.inl B)
      ·obtain⟨au,a6⟩:=a3.iA a v h;refine⟨au,?_⟩;rw[gD (w:=w) ?_]
       ·exact a6
       ·rw[az,if_neg];intro dM;have a7:a=⟨κ.loc s.aa i,a.off,none⟩:=by cases a;simp_all
        rw[a7,aJ] at h;cases h
      ·rw[az,if_neg (fun dM=>B (by simp [bg,dM]))]
      ·show ej κ _ _ ((dN I.toList (len*u) xs).take _);rw[a5];exact aH.append fU
     have a8:s1.own[i]? =some (.cells (cs++new.flatMap ae.cells)):=by simp [s1,ax]
     obtain⟨hb,g2⟩:=aN.1.rename (n:=len+new.length) a8 aF;have aA:({s1 with own:=s1.own.set i .gone++[.cells (cs++new.flatMap ae.cells)]}:ag)= {s with own:=s.own.set i .gone++[.cells (cs++new.flatMap ae.cells)]}:=by simp [s1]
     rw[aA] at hb g2;refine⟨_,_,Z,_,_,_,.inl (hK (by rw[ab];exact a2)),aN.2.trans g2,hb,?_⟩;simp only[ae.ap,Loc.ap];have aC:s1.own.length=s.own.length:=by simp [s1]
     have bK:(κ.row s1.aa s1.own.length (κ.loc s1.aa i) (len+new.length) lE u).loc s.aa s.own.length=κ.loc s.aa i:=by rw[aC];show(if s.aa=s.aa∧s.own.length=s.own.length then κ.loc s.aa i else κ.loc s.aa s.own.length)=_;simp
     have key:=dA.cZ (κ:=κ.row s1.aa s1.own.length (κ.loc s1.aa i) (len+new.length) lE u) (D:=s.aa+1) s.aa s.own.length 0 (len+new.length) 0 lE u (Nat.lt_succ_self _) (by
      rw[aC];show s.own.length<if s.aa=s.aa then κ.n s.aa+1 else κ.n s.aa
      rw[if_pos rfl];omega) ay (.inr ⟨rfl,by omega,rfl,by
      rw[bK,aC];show(if s.aa=s.aa∧s.own.length=s.own.length then(if len+new.length=len+new.length then some ((⟨κ.loc s.aa i,0,none⟩:Addr),lE,u) else none) else κ.lo s.aa s.own.length (len+new.length))=_;simp⟩)
     rw[bK] at key;exact key
    ·
     obtain⟨hlen,xs,a1,fU⟩:=fj (P:=P) M J new.length (aB _) w.drew (fun _=>rfl);have aq:=(fj (P:=P) M J new.length (aB _) w (fun _=>rfl)).1;simp only[List.take_length] at fU;have N:xs.length=new.length*u:=by rw[fU.1,H]
     have a9:u≠0:=fun eJ=>by rw[eJ] at aE;cases aE
     obtain⟨aO,ba⟩:=kh u a9 len cs (by omega);obtain⟨_,os,K,O⟩:=fj (P:=P) (s:=s) (κ:=κ) (w:=w) (X:=Value.slice (some ⟨κ.loc s.aa i,0,none⟩) len lE) (v:=.dead) (sz:=u) (es:=chunk u len cs) (.inr ⟨some ⟨κ.loc s.aa i,0,none⟩,lE,by rw[fo],fun U=>(by cases U),fun fN U=>(by cases U;rw[aO,jr (by omega)];exact aK)⟩) ba len (by rw[fo];exact aB _) w.drew (fun _=>rfl);rw[show(chunk u len cs).take len=chunk u len cs from jr (by rw[fo];exact aB _),aO,jr (by omega)] at O;have bb:os.length=len*u:=by rw[O.1,af]
     obtain⟨ai,C,L,V,ac,ad⟩:=iP (ty:=ty) h (base:=some ⟨κ.loc s.aa i,0,none⟩) (fD:=len) (i5:=lE) aq a1 K N bb (by omega) au;obtain⟨hb,g2⟩:=a3.newRow (w':=w.drew.alloc (.cells C el)) (cs++new.flatMap ae.cells) (os++xs) C el (len+new.length) u ai (O.append fU) V (by rw[gu,H,af,V,←e5];exact fO _ L) (fun j df=>ac j (by rw[gu,H,af] at df;omega)) rfl rfl rfl rfl;have bc:(s.new (.cells (cs++new.flatMap ae.cells))).own[i]? =some (.cells cs):=by simp only[ag.new];rw[ha ax];exact as
     obtain⟨aP,m7⟩:=hb.zN bc;have aA:({s.new (.cells (cs++new.flatMap ae.cells)) with own:=(s.new (.cells (cs++new.flatMap ae.cells))).own.set i .gone}:ag)= {s with own:=s.own.set i .gone++[.cells (cs++new.flatMap ae.cells)]}:=by simp only[ag.new];congr 1;exact List.set_append_left _ _ ax
     rw[aA] at aP m7;refine⟨_,_,Z,_,_,_,.inl (hK (by rw[ab];exact ad)),g2.trans m7,aP,?_⟩;simp only[ae.ap,Loc.ap];have bK:(κ.row s.aa s.own.length w.heap.size (len+new.length) ai u).loc s.aa s.own.length=w.heap.size:=by simp [bh.row]
     have key:=dA.cZ (κ:=κ.row s.aa s.own.length w.heap.size (len+new.length) ai u) (D:=s.aa+1) s.aa s.own.length 0 (len+new.length) 0 ai u (Nat.lt_succ_self _) (by simp [bh.row,aD]) L (.inr ⟨rfl,by omega,rfl,by rw[bK];simp [bh.row]⟩);rw[bK] at key;exact key
   ·exact absurd aQ.symm bt
end
section
variable{P:Program}{ty:TypeId}{ρ:Operand→Value}{κ:bh}{s:ag}{w:World}
theorem wO{T:kD}(eO:T.pn P){D:Nat}:∀(jy:List Field) (ig:List wq) (j:Nat) (cs h3:List ae) (xs A:List Value) (b:Bool),i6 T j ig jy=true→e8 ig (cs.drop j)=true→e8 ig (h3.drop j)=true→ej κ D cs xs→ej κ D h3 A→iV (cs.drop j) (h3.drop j)=some b→
  ∀d,(Op.eqFields (d+1) xs.toArray A.toArray jy).run P w=.ok b w:=by
 intro jy
 induction jy with
 |nil=>
  intro ig j cs h3 xs A b ar av bO a9 eQ h d;cases ig with
  |cons k ig=>simp [i6] at ar
  |nil=>
   cases a1:cs.drop j with
   |cons c F=>rw[a1] at av;simp [e8] at av
   |nil=>
    cases cR:h3.drop j with
    |cons c F=>rw[cR] at bO;simp [e8] at bO
    |nil=>rw[a1,cR] at h;simp only[iV,bj] at h;subst h;simp [Op.eqFields]
 |cons f jy V=>
  intro ig j cs h3 xs A b ar av bO a9 eQ h d;cases ig with
  |nil=>simp [i6] at ar
  |cons k ig=>
   simp only[i6,bm,b6] at ar;obtain⟨⟨⟨dM,dk⟩,dU⟩,aQ⟩:=ar;have M:=dj dM;cases a1:cs.drop j with
   |nil=>rw[a1] at av;cases k<;> simp [e8] at av
   |cons c F=>
    cases cR:h3.drop j with
    |nil=>rw[cR] at bO;cases k<;> simp [e8] at bO
    |cons nK J=>
     have N:cs.drop (j+1)=F:=by rw[←List.drop_drop,a1];rfl
     have O:h3.drop (j+1)=J:=by rw[←List.drop_drop,cR];rfl
     have Y:cs[j]? =some c:=by have:=congrArg (fun l:List ae=>l[0]?) a1;simpa using this
     have Z:h3[j]? =some nK:=by have:=congrArg (fun l:List ae=>l[0]?) cR;simpa using this
     obtain⟨x,aa,K⟩:=a9.get Y;obtain⟨y,ab,L⟩:=eQ.get Z;rw[a1] at av;rw[cR] at bO;rw[a1,cR] at h;cases hu:T.dZ f.type with
     |none=>rw[hu] at dU;cases dU
     |some H=>
      rw[hu] at dU;have I:=eO.dZ _ _ hu;have U:kM P f.type=some false:=by cases k<;> cases H<;> simp [kC] at dU<;> simp [kM,I,zD]
      have ac:(part f.type xs.toArray f.offset).run P w=.ok x w:=by rw[M];simp [part,iY U,aa]
      have ad:(part f.type A.toArray f.offset).run P w=.ok y w:=by rw[M];simp [part,iY U,ab]
      have key:∀(e:Bool),(Op.equalIn (d+1) f.type x y).run P w=.ok e w→∀r,iV F J=some r→b=(e&&r)→e8 ig F=true→e8 ig J=true→(Op.eqFields (d+1) xs.toArray A.toArray (f::jy)).run P w=.ok b w:=by
       intro e he r B u k1 pI;simp only[Op.eqFields,dk,ne_eq,not_false_eq_true,↓reduceIte,Sem.run_bind,ac,ad,Result.andThen_ok,he];cases e with
       |false=>simp [u]
       |true=>simp only[g3,bS,↓reduceIte];rw[u,er];exact V ig (j+1) cs h3 xs A r aQ (by rw[N];exact k1) (by rw[O];exact pI) a9 eQ (by rw[N,O];exact B) d
      cases k with
      |int ek=>cases c<;> simp [e8] at av;cases nK<;> simp [e8] at bO;rename_i k1 a pI fN;obtain⟨rfl,av⟩:=av;obtain⟨rfl,bO⟩:=bO;cases H<;> simp [kC] at dU;simp only[iV,↓reduceIte] at h;obtain⟨r,B,u⟩:=Option.map_eq_some_iff.1 h;rw[K.ew,L.ew] at key;exact key _ (run_equalIn_int w d f.type _ _ a fN I) r B u.symm av bO
      |str=>
       cases c<;> simp [e8] at av;cases nK<;> simp [e8] at bO;rename_i a fN;cases H<;> simp [kC] at dU;simp only[iV] at h;obtain⟨r,B,u⟩:=Option.map_eq_some_iff.1 h;obtain⟨z,rfl,hC⟩:=K.h4;obtain⟨VH,rfl,af⟩:=L.h4;have ag:(a==fN)=(z.toList==VH.toList):=by
        rw[←hC,←af,ByteArray.toList_eq,ByteArray.toList_eq];rw[Bool.eq_iff_iff];simp only[beq_iff_eq];constructor
        ·intro e;exact(List.map_inj_right (f:=UInt8.toNat) (fun a b h=>UInt8.toNat_inj.1 h)).1 e
        ·intro e;rw[e]
       rw[ag] at u;exact key _ (run_equalIn_string w d f.type z VH I) r B u.symm av bO
      |bool=>cases c<;> simp [e8] at av;cases nK<;> simp [e8] at bO;rename_i a fN;cases H<;> simp [kC] at dU;simp only[iV] at h;obtain⟨r,B,u⟩:=Option.map_eq_some_iff.1 h;rw[K.gT,L.gT] at key;exact key _ (run_equalIn_bool' w d f.type a fN I) r B u.symm av bO
theorem yh{T:kD}(eO:T.pn P)(a3:cY κ s w){ig:List wq}{b neg:Bool}{v u:ae}{t yt:TypeId}{x y:Operand}{jy:Array Field}{op:BinOp}(F:op=if neg then .neq else .eql)(dU:P.underlying t=some (.struct jy))(he:T.eqs t=true)(bt:i6 T 0 ig jy.toList=true)
  (a9:dA κ (s.aa+1) (v.ap s.aa) (ρ x))(eQ:dA κ (s.aa+1) (u.ap s.aa) (ρ y))(h:pw (.agg ig) v u=some b):dK P (.binOp op t x y yt) ty ρ κ s w (.bool (bif neg then !b else b)) s:=by
 obtain⟨ar,av⟩:=eO.eqs t he;have A:P.fieldsOf t=jy:=by simp [Program.fieldsOf,dU]
 rw[←uL (d:=s.aa)] at h;generalize I:v.ap s.aa=fB at *;generalize J:u.ap s.aa=K at *;simp only[pw] at h;split at h
 ·rename_i cs h3;cases e:e8 ig cs&&e8 ig h3 with
  |false=>rw[e] at h;cases h
  |true=>
   rw[e] at h;rw[bm] at e;obtain⟨xs,ex,fU⟩:=a9.mh;obtain⟨r,B,H⟩:=eQ.mh;have run:=wO (w:=w) eO jy.toList ig 0 cs h3 xs r b bt (by simpa using e.1) (by simpa using e.2) fU H (by simpa using h) 9998;have dM:=run_equalIn_agg (P:=P) w 9999 t xs.toArray r.toArray (by rw[A];exact dU) ar;rw[A,run] at dM;have g:=fun op=>run_eqGuard_agg (P:=P) w op t x y xs.toArray r.toArray av
   refine bE a3 _ (fun dst pos after guard=>?_) (.bool _);subst F;cases neg
   ·have wI:=run_eql_struct (P:=P) w t xs.toArray r.toArray;rw[dM] at wI;simp only[execOp,bS,↓reduceIte,ex,B,Sem.run_bind,g,Result.andThen_ok,wI,Sem.run_pure,cond_false]
   ·have wI:=run_neq_struct (P:=P) w t xs.toArray r.toArray;rw[dM] at wI;simp only[execOp,↓reduceIte,ex,B,Sem.run_bind,g,Result.andThen_ok,wI,Sem.run_pure,bX]
 ·cases h
end
theorem qQ{P:Program}{w:World}(d:Nat){t e:TypeId}{k:IntKind}(dU:P.underlying t=some (.array 2 e))(he:P.underlying e=some (.int k))(a3:e9 P e=some 1){k0 k1:IntKind}(u y JM wI:Int):
  (Op.equalIn (d+2) t (.agg #[.int k0 u,.int k1 y]) (.agg #[.int k0 JM,.int k1 wI])).run P w=.ok (u==JM&&y==wI) w:=by
 have eZ:(sizeOf e).run P w=.ok 1 w:=ey a3 w;have A:kM P e=some false:=by simp [kM,he,zD]
 have p:∀(xs:Array Value) (i:Nat) (v:Value),xs[i]? =some v→(part e xs i).run P w=.ok v w:=fun xs i v h=>by simp [part,iY A,h]
 obtain⟨fG,cR⟩:∃fG,fG=d+1:=⟨_,rfl⟩;have r:∀(k0:IntKind) (a b:Int),(Op.equalIn fG e (.int k0 a) (.int k0 b)).run P w=.ok (a==b) w:=fun k0 a b=>by rw[cR];exact run_equalIn_int w d e k0 k a b he
 rw[show d+2=fG+1 by omega];simp only[Op.equalIn,Sem.run_bind,run_underlying dU,Result.andThen_ok,eZ];simp only[Std.Legacy.Range.forIn_eq_forIn_range',Std.Legacy.Range.size,List.range',Nat.sub_zero,Nat.add_sub_cancel,Nat.div_one,List.forIn_cons,List.forIn_nil,Sem.run_bind,Nat.mul_one,bf,Nat.reduceAdd,Nat.reduceSub,Nat.reduceDiv];rw[p _ 0 (.int k0 u) rfl];simp only[Result.andThen_ok];rw[p _ 0 (.int k0 JM) rfl];simp only[Result.andThen_ok];rw[r];cases eJ:u==JM with
 |false=>simp
 |true=>simp only[Result.andThen_ok,g3,bS,↓reduceIte,Sem.run_pure,Sem.run_bind];rw[p _ 1 (.int k1 y) rfl];simp only[Result.andThen_ok];rw[p _ 1 (.int k1 wI) rfl];simp only[Result.andThen_ok];rw[r];cases ar:y==wI<;> simp
section
variable{P:Program}{ty:TypeId}{ρ:Operand→Value}{κ:bh}{s:ag}{w:World}
theorem yi{T:kD}(eO:T.pn P)(a3:cY κ s w){k0 k1:IntKind}{b neg:Bool}{v u:ae}{t yt:TypeId}{x y:Operand}{e:TypeId}{k:IntKind}{op:BinOp}(J:op=if neg then .neq else .eql)(dU:P.underlying t=some (.array 2 e))(he:T.eqs t=true)(hu:P.underlying e=some (.int k))(hC:e9 P e=some 1)
  (a9:dA κ (s.aa+1) (v.ap s.aa) (ρ x))(eQ:dA κ (s.aa+1) (u.ap s.aa) (ρ y))(h:pw (.agg [.int k0,.int k1]) v u=some b):dK P (.binOp op t x y yt) ty ρ κ s w (.bool (bif neg then !b else b)) s:=by
 obtain⟨ar,av⟩:=eO.eqs t he;rw[←uL (d:=s.aa)] at h;generalize L:v.ap s.aa=fB at *;generalize M:u.ap s.aa=N at *;simp only[pw] at h;split at h
 ·rename_i cs h3;cases B:e8 [.int k0,.int k1] cs&&e8 [.int k0,.int k1] h3 with
  |false=>rw[B] at h;cases h
  |true=>
   rw[B] at h;rw[bm] at B;have I:∀cs,e8 [.int k0,.int k1] cs=true→∃r A,cs=[.int k0 r,.int k1 A]:=fun cs h=>by
    match cs with
    |[]=>simp [e8] at h
    |[c]=>cases c<;> simp [e8] at h
    |c::nK::l=>
     cases c<;> simp [e8] at h;cases nK<;> simp [e8] at h;obtain⟨rfl,rfl,bO⟩:=h;cases l with
     |nil=>exact⟨_,_,rfl⟩
     |cons _ _=>simp [e8] at bO
   obtain⟨r,A,rfl⟩:=I cs B.1;obtain⟨JM,wI,rfl⟩:=I h3 B.2;obtain⟨xs,ex,fU⟩:=a9.mh;obtain⟨O,H,K⟩:=eQ.mh;have two:∀(r A:Int) (xs:List Value),ej κ (s.aa+1) [.int k0 r,.int k1 A] xs→xs=[.int k0 r,.int k1 A]:=fun r A xs h=>by
    match xs,h with
    |[iw,bQ],h=>rw[(h.2 0 _ _ rfl rfl).ew,(h.2 1 _ _ rfl rfl).ew]
   rw[two _ _ _ fU] at ex;rw[two _ _ _ K] at H;simp only[iV,↓reduceIte,ep,Bool.and_true,bX,bj] at h;have run:=qQ (P:=P) (w:=w) 9998 dU hu hC (k0:=k0) (k1:=k1) r A JM wI;have g:=fun op=>run_eqGuard_agg (P:=P) w op t x y #[.int k0 r,.int k1 A] #[.int k0 JM,.int k1 wI] av
   refine bE a3 _ (fun dst pos after guard=>?_) (.bool _);subst J;cases neg
   ·have F:=run_eql_struct (P:=P) w t #[.int k0 r,.int k1 A] #[.int k0 JM,.int k1 wI];rw[run] at F;simp only[execOp,bS,↓reduceIte,ex,H,Sem.run_bind,g,Result.andThen_ok,F,Sem.run_pure,cond_false,←h]
   ·have F:=run_neq_struct (P:=P) w t #[.int k0 r,.int k1 A] #[.int k0 JM,.int k1 wI];rw[run] at F;simp only[execOp,↓reduceIte,ex,H,Sem.run_bind,g,Result.andThen_ok,F,Sem.run_pure,bX,←h]
 ·cases h
end
theorem zO{κ:bh}{D d:Nat}{v:ae}{x:Value}(bJ:dA κ D (v.ap d) x):dA κ D ((nN v).ap d) x:=by
 unfold nN;split
 ·rename_i sz es a;cases aQ:ae.a7 es with
  |false=>exact bJ
  |true=>
   simp only[bX];simp only[ae.ap] at bJ ⊢;rcases bJ.ht with⟨_,av,_⟩|⟨fN,cap,dr,rfl,cB,dk,h,dD,y,r,u⟩
   ·simp [e2.ap] at av
   ·exact .cr _ _ _ _ _ dr trivial dk h dD (.inl fun e he=>ed.1 aQ e he) r u
 ·exact bJ
theorem CX(s:ag)(v:ae):(x3 s v).ap s.aa=v.ap s.aa:=by
 unfold x3;split
 ·rename_i d i o l c z;cases e:Nat.beq d s.aa with
  |false=>rfl
  |true=>have:=dj e;subst this;rfl
 ·rfl
section
variable{P:Program}{T:kD}(eO:T.pn P){ty:TypeId}{κ:bh}{s:ag}{w:World}(a3:cY κ s w){E:Env}(bo:E.F=.not)(ju:mM P E){ao:Nat→ae}{a:Act}(bZ:wl κ s ao a)(dS:j9 κ E.au){k kp:ae→ag→ah}{r:ah}(bt:r≠.fail)
include a3 bo bZ dS bt
theorem nW{v:Option ae}(h:qu E s k v=r):∃fB,v=some fB∧k fB s=r:=by
 cases v with
 |none=>exact absurd h.symm bt
 |some fB=>simp only[qu,bo,aU.not] at h;exact⟨fB,rfl,h⟩
theorem CY{o:BinOp}{x y:bB}{kw tM:Operand}{t yt:TypeId}(a9:cD x kw=true)(eQ:cD y tM=true)(aQ:qu E s k (al o (aq E.au ao x) (aq E.au ao y))=r):∃v s',k v s'=r∧oq P (.binOp o t kw tM yt) ty a.eval κ s w v s':=by
 obtain⟨v,bJ,dc⟩:=nW a3 bo bZ dS bt aQ;refine⟨v,s,dc,.inl ?_⟩;have ar:=bq bZ dS a9;have av:=bq bZ dS eQ;generalize aq E.au ao x=X at ar bJ;generalize aq E.au ao y=Y at av bJ;unfold al at bJ;split at bJ
 ·exact qJ a3 ar.ew av.ew (.inl rfl) bJ
 ·exact qJ a3 ar.ew av.ew (.inr rfl) bJ
 ·rename_i k1 h pI u _ _;split at bJ
  ·rename_i e;subst e;exact uD a3 ar.ew av.ew bJ
  ·cases bJ
 ·exact uE a3 ar av bJ
 ·cases bJ
theorem Iq{o:UnOp}{x:bB}{kw:Operand}{t:TypeId}(a9:cD x kw=true)(aQ:qu E s k (kv o (aq E.au ao x))=r):∃v s',k v s'=r∧oq P (.unOp o t kw) ty a.eval κ s w v s':=by
 obtain⟨v,bJ,dc⟩:=nW a3 bo bZ dS bt aQ;refine⟨v,s,dc,.inl ?_⟩;have ar:=bq bZ dS a9;generalize aq E.au ao x=X at ar bJ;unfold kv at bJ;split at bJ
 ·simp only[bj] at bJ;subst bJ;exact ww a3 ar.ew
 ·simp only[bj] at bJ;subst bJ;exact wx a3 ar.ew
 ·simp only[bj] at bJ;subst bJ;exact wy a3 ar.gT
 ·cases bJ
theorem sS{f:ae→ae→Option ae}{g:Value→Value→Sem Value}(u:∀x y z X Y,f x y=some z→dA κ (s.aa+1) x X→dA κ (s.aa+1) y Y→∃Z,(g X Y).run P w=.ok Z w∧dA κ (s.aa+1) z Z){xs:List bB}{e:List Operand}(fU:dx xs e=true)
  {o:Op}(A:∀x rest,e.map a.eval=x::rest→∀dst pos after guard,execOp a.eval ⟨dst,o,ty,pos,after,guard⟩=(do pure (.value (←rest.foldlM g x)):Sem Next))
  (aQ:k3 E s k f (xs.map fun x=>(aq E.au ao x).ap s.aa)=r):∃v s',k v s'=r∧oq P o ty a.eval κ s w v s':=by
 have bJ:=ik bZ dS xs e fU;cases kA:xs.map (fun x=>(aq E.au ao x).ap s.aa) with
 |nil=>rw[kA] at aQ;exact absurd aQ.symm bt
 |cons x l=>
  rw[kA] at aQ bJ;cases h:e.map a.eval with
  |nil=>rw[h] at bJ;exact absurd bJ.1 (by simp)
  |cons Y L=>rw[h] at bJ;simp only[k3] at aQ;obtain⟨v,ar,dc⟩:=nW a3 bo bZ dS bt aQ;obtain⟨V,av,bO⟩:=xk f g u l L x v Y ar (bJ.2 0 x Y rfl rfl) ⟨by have:=bJ.1;simpa using this,fun j c y a1 eQ=>bJ.2 (j+1) c y (by simpa using a1) (by simpa using eQ)⟩;refine⟨v,s,dc,.inl (bE a3 V (fun dst pos after guard=>?_) (by rw[bO.k4];exact bO))⟩;rw[A Y L h];simp [av]
theorem uT{o:Op}{ρ:Operand→Value}{v:ae}{s':ag}(dc:k v s'=r)(h:dK P o ty ρ κ s w v s'):∃v s',k v s'=r∧oq P o ty ρ κ s w v s':=⟨v,s',dc,.inl h⟩
theorem mF{o:Op}{ρ:Operand→Value}(h:∃v,k v s=r∧dK P o ty ρ κ s w v s):∃v s',k v s'=r∧oq P o ty ρ κ s w v s':=by obtain⟨v,ar,av⟩:=h;exact⟨v,s,ar,.inl av⟩
theorem tA{o:Op}{ρ:Operand→Value}(h:∃v s',k v s'=r∧dK P o ty ρ κ s w v s'):∃v s',k v s'=r∧oq P o ty ρ κ s w v s':=by obtain⟨v,s',ar,av⟩:=h;exact⟨v,s',ar,.inl av⟩
include ju in
theorem lH{f:Nat}{args:List ae}{xs:List Value}{o:Op}{ρ:Operand→Value}(a9:ej κ (s.aa+1) args xs)(e:∀dst pos after guard,execOp ρ ⟨dst,o,ty,pos,after,guard⟩=callFunc f xs.toArray)(aQ:eu E s k kp f args=r):∃v s',k v s'=r∧oq P o ty ρ κ s w v s':=by
 unfold eu at aQ;cases a1:E.call f args s with
 |fail=>rw[a1] at aQ;exact absurd aQ.symm bt
 |panic v s'=>exact absurd a1 (ju.nx _ _ _ _ _)
 |ok v s'=>rw[a1] at aQ;obtain⟨_,h⟩:=cV aQ bt;exact⟨v,s',h,wN ju a3 dS a1 a9 e⟩
include ju in
theorem pM{f:Nat}{args:List ae}{xs:List Value}{o:Op}{ρ:Operand→Value}(a9:ej κ (s.aa+1) args xs)(h:∀dst pos after guard,execOp ρ ⟨dst,o,ty,pos,after,guard⟩=callFunc f xs.toArray)(aQ:hs E s k f args=r):∃v s',k v s'=r∧oq P o ty ρ κ s w v s':=by
 unfold hs at aQ;obtain⟨u,e⟩:=cV aQ bt;cases a1:E.call f args {own:=[],up:=[],ro:=[]} with
 |fail=>rw[a1] at e;exact absurd e.symm bt
 |panic v s'=>exact absurd a1 (ju.nx _ _ _ _ _)
 |ok v s'=>rw[a1] at e;obtain⟨y,A⟩:=cV e bt;exact⟨v,s,A,uR ju a3 dS a1 y a9 u h⟩
include eO ju in
theorem zP{ab:f9}{op:Op}(h:eB T ab op=true)(aQ:aL E ao s k kp ab=r):∃v s',k v s'=r∧oq P op ty a.eval κ s w v s':=by
 have h1:E.F=.not:=bo;cases ab with
 |move x=>
  simp only[aL,bo,aU.not] at aQ;simp only[eB] at h;split at h
  ·exact uT a3 bo bZ dS bt aQ (sK a3 (bq bZ dS h))
  ·exact uT a3 bo bZ dS bt aQ (pE a3 (bq bZ dS h))
  ·cases h
 |m1 x=>
  simp only[aL,bo,aU.not] at aQ;simp only[eB] at h;split at h
  ·exact uT a3 bo bZ dS bt aQ (sK a3 (zO (bq bZ dS h)))
  ·exact uT a3 bo bZ dS bt aQ (pE a3 (zO (bq bZ dS h)))
  ·cases h
 |oC x=>
  simp only[aL] at aQ;simp only[eB] at h;split at h
  ·exact tA a3 bo bZ dS bt (qN a3 bo bt (fun _ _ _ _=>by simp [execOp]) (bq bZ dS h) aQ)
  ·exact tA a3 bo bZ dS bt (qN a3 bo bt (fun _ _ _ _=>by simp [execOp]) (bq bZ dS h) aQ)
  ·cases h
 |pick c x y=>
  simp only[aL] at aQ;simp only[eB] at h;split at h
  ·simp only[bm] at h;have a1:=bq bZ dS h.1.1;generalize aq E.au ao c=X at a1 aQ;cases X<;> simp only[m4,bo,aU.not] at aQ<;> try exact absurd aQ.symm bt
   exact uT a3 bo bZ dS bt aQ (zC a3 a1.gT (bq bZ dS h.1.2) (bq bZ dS h.2))
  ·cases h
 |alloc z=>
  simp only[aL,bo,aU.not] at aQ;simp only[eB] at h;split at h
  ·exact uT a3 bo bZ dS bt aQ (yd a3 (eO.zero h))
  ·cases h
 |fq x=>
  simp only[aL,bo,aU.not] at aQ;simp only[eB] at h;obtain⟨H,K⟩:=cV aQ bt;split at h
  ·exact uT a3 bo bZ dS bt K (ye a3 (bq bZ dS h) H)
  ·cases h
 |jP x=>
  simp only[aL,bo,aU.not] at aQ;simp only[eB] at h;obtain⟨H,K⟩:=cV aQ bt;split at h
  ·exact uT a3 bo bZ dS bt K (wF a3 (bq bZ dS h) H)
  ·cases h
 |build z ea=>
  simp only[aL] at aQ;simp only[eB] at h;obtain⟨v,ar,dc⟩:=nW a3 bo bZ dS bt aQ;cases Y:fg E.au s.aa ao z ea with
  |none=>rw[Y] at ar;cases ar
  |some cs=>
   rw[Y] at ar;simp only[ep,bj] at ar;subst ar;split at h
   ·rename_i t u;split at h
    ·rename_i jy dU;split at h
     ·rename_i pl ah;simp only[bm] at h
      have:=py (ty:=ty) a3 bZ dS (eO.dZ _ _ dU) (eO.zero h.1) (pl:=pl.toArray) (by simpa using oo eO _ _ ah) h.2 Y;exact uT a3 bo bZ dS bt dc (by simpa using this)
     ·cases h
    ·rename_i n el dU;split at h
     ·rename_i sz eZ;simp only[bm] at h
      have:=qa (ty:=ty) a3 bZ dS (eO.dZ _ _ dU) (eO.size eZ) (eO.zero h.1) h.2 Y;exact uT a3 bo bZ dS bt dc (by simpa using this)
     ·cases h
    ·cases h
   ·cases h
 |buildSlice sz ea=>
  simp only[aL,hI,bo,aU.not] at aQ;simp only[eB] at h;obtain⟨H,K⟩:=cV aQ bt;split at h
  ·rename_i t len u;split at h
   ·rename_i el dU;simp only[bm,beq_iff_eq] at h;obtain⟨⟨⟨⟨⟨ar,av⟩,bO⟩,dD⟩,B⟩,A⟩:=h;obtain⟨J,e,dd⟩:=jU 0 ea u.toList A;have hlen:ea.length=J.length:=by
     have:∀(ea:List bB) (u:List Operand),dx ea u=true→ea.length=u.length:=by
      intro ea
      induction ea with
      |nil=>intro u h;cases u<;> simp [dx] at h ⊢
      |cons p ea U=>intro u h;cases u with
       |nil=>simp [dx] at h
       |cons q u=>simp only[dx,bm] at h;simp [U u h.2]
     exact this ea J dd
    have bK:len=J.length:=by rw[←hlen];exact dj dD
    simp only[bm,List.all_eq_true,Nat.beq_eq_true_eq] at H;have ag:=dW B
    have:=qK (ty:=ty) a3 bZ dS (eO.dZ _ _ dU) (eO.size ar) (eO.zero av) (dj bO) (by rw[←bK];omega) dd H.1 (fun e he=>⟨(H.2 e he).1,dj (H.2 e he).2⟩);rw[←e] at this;rw[bK];exact uT a3 bo bZ dS bt K (by simpa using this)
   ·cases h
  ·cases h
 |load n x=>
  simp only[aL] at aQ;simp only[eB] at h;split at h
  ·simp only[bm] at h;exact mF a3 bo bZ dS bt (zF a3 bo bt (eO.load h.1) (bq bZ dS h.2) aQ)
  ·cases h
 |store n x v=>
  simp only[aL] at aQ;simp only[eB] at h;split at h
  ·simp only[bm,beq_iff_eq] at h;exact tA a3 bo bZ dS bt (qL a3 bo bt (eO.size h.1.1) (bq bZ dS h.1.2) (bq bZ dS h.2) aQ)
  ·cases h
 |kZ m y n x v=>
  simp only[aL,la] at aQ;simp only[eB] at h;split at h
  ·simp only[bm,beq_iff_eq] at h;obtain⟨v,s',dM,I⟩:=tA a3 bo bZ dS bt (qL a3 bo bt (eO.size h.1.1) (bq bZ dS h.1.2) (bq bZ dS h.2) aQ);exact⟨v,s',(cV dM bt).2,I⟩
  ·cases h
 |nilCheck x=>
  simp only[aL] at aQ;simp only[eB] at h;split at h
  ·have a9:=bq bZ dS h;generalize aq E.au ao x=X at a9 aQ;unfold iW at aQ;split at aQ
   ·simp only[bo,aU.not] at aQ;exact uT a3 bo bZ dS bt aQ (tx a3 a9 (by assumption))
   ·exact absurd aQ.symm bt
  ·cases h
 |bin o x y=>
  simp only[aL] at aQ;simp only[eB] at h;split at h
  ·simp only[bm,xj,b6] at h;obtain⟨⟨rfl,av⟩,bO⟩:=h;exact CY a3 bo bZ dS bt av bO aQ
  ·cases h
 |eq neg e x y=>
  simp only[aL] at aQ;simp only[eB] at h;obtain⟨v,ar,dc⟩:=nW a3 bo bZ dS bt aQ;split at h
  ·split at h
   ·rename_i d dU;simp only[bm,xj,b6] at h;obtain⟨⟨⟨dM,av⟩,bO⟩,dD⟩:=h;cases he:pw e (aq E.au ao x) (aq E.au ao y) with
    |none=>rw[he] at ar;cases ar
    |some b=>
     rw[he] at ar;simp only[ep,bj] at ar;subst ar;rcases(Bool.or_eq_true _ _).mp av with av|av
     ·exact uT a3 bo bZ dS bt dc (Im a3 dM (eO.dZ _ _ dU) av (bq bZ dS bO) (bq bZ dS dD) he)
     ·unfold Vn at av;split at av
      ·simp only[bm] at av;exact uT a3 bo bZ dS bt dc (yh eO a3 dM (eO.dZ _ _ dU) av.1 av.2 (bq bZ dS bO) (bq bZ dS dD) he)
      ·simp only[bm,beq_iff_eq] at av;obtain⟨⟨B,A⟩,L⟩:=av;split at A
       ·rename_i hu;exact uT a3 bo bZ dS bt dc (yi eO a3 dM (eO.dZ _ _ dU) B (eO.dZ _ _ hu) (eO.size L) (bq bZ dS bO) (bq bZ dS dD) he)
       ·cases A
      ·cases av
   ·cases h
  ·cases h
 |un o x=>
  simp only[aL] at aQ;simp only[eB] at h;split at h
  ·simp only[bm,b6] at h;obtain⟨rfl,av⟩:=h;exact Iq a3 bo bZ dS bt av aQ
  ·cases h
 |k9 d x=>
  simp only[aL] at aQ;simp only[eB] at h;split at h
  ·split at h
   ·rename_i M N;simp only[bm,b6] at h;obtain⟨rfl,av⟩:=h;have a9:=bq bZ dS av;generalize aq E.au ao x=X at a9 aQ;cases X<;> simp only[j0,bo,aU.not] at aQ<;> try exact absurd aQ.symm bt
    exact uT a3 bo bZ dS bt aQ (uF a3 (eO.dZ _ _ M) (eO.dZ _ _ N) a9.ew)
   ·cases h
  ·cases h
 |nL x=>
  simp only[aL] at aQ;simp only[eB] at h;split at h
  ·split at h
   ·rename_i M N;have a9:=bq bZ dS h;generalize aq E.au ao x=X at a9 aQ;cases X<;> simp only[l6] at aQ<;> try exact absurd aQ.symm bt
    exact uT a3 bo bZ dS bt aQ (wz a3 (eO.dZ _ _ M) (eO.dZ _ _ N) a9)
   ·cases h
  ·cases h
 |gI x=>
  simp only[aL] at aQ;simp only[eB] at h;split at h
  ·split at h
   ·rename_i M N;split at h
    ·rename_i iB;exact mF a3 bo bZ dS bt (qP a3 bo bt (eO.dZ _ _ M) (eO.dZ _ _ iB) (eO.dZ _ _ N) (bq bZ dS h) aQ)
    ·cases h
   ·cases h
  ·cases h
 |iT x=>
  simp only[aL] at aQ;simp only[eB] at h;split at h
  ·split at h
   ·rename_i M N;split at h
    ·rename_i iB;exact mF a3 bo bZ dS bt (qO a3 bo bt (eO.dZ _ _ M) (eO.dZ _ _ N) (eO.dZ _ _ iB) (bq bZ dS h) aQ)
    ·cases h
   ·cases h
  ·cases h
 |jB t x=>
  simp only[aL,bo,aU.not] at aQ;simp only[eB] at h;split at h
  ·split at h
   ·cases h
   ·rename_i d cR dU;simp only[bm] at h
    have:=dj h.1;subst this;exact uT a3 bo bZ dS bt aQ (uG a3 (eO.dZ _ _ dU) (by cases d<;> first|rfl |exact absurd rfl (cR _)) (bq bZ dS h.2))
   ·cases h
  ·cases h
 |kb f dC=>
  simp only[aL,bo,aU.not] at aQ;simp only[eB] at h;split at h
  ·rename_i wt first al
   simp only[bm] at h;have dM:=dj h.1.1;have I:first= #[]:=Array.eq_empty_of_size_eq_zero (dj h.1.2)
   subst dM;subst I
   have:=wG (P:=P) (ty:=ty) a3 (f:=f) bZ dS h.2;exact uT a3 bo bZ dS bt aQ (by simpa using this)
  ·cases h
 |makeSlice z bytes l c=>
  simp only[aL] at aQ;simp only[eB] at h;split at h
  ·split at h
   ·rename_i dU;simp only[bm,beq_iff_eq] at h;obtain⟨⟨⟨⟨⟨ar,av⟩,bO⟩,dD⟩,B⟩,A⟩:=h;exact tA a3 bo bZ dS bt (sn a3 bo bt (eO.dZ _ _ dU) (eO.zero ar) (eO.size av) (eO.bytes bO) (by simpa [Nat.blt_eq] using dD) (bq bZ dS B) (bq bZ dS A) aQ)
   ·cases h
  ·cases h
 |kc x gk bY=>
  simp only[aL] at aQ;simp only[eB] at h;split at h
  ·split at h
   ·rename_i dU;simp only[bm] at h;exact mF a3 bo bZ dS bt (wD a3 bo bt bZ dS (eO.dZ _ _ dU) h.1.1 h.1.2 h.2 aQ)
   ·cases h
  ·cases h
 |slice sz x gk bY iE=>
  simp only[aL] at aQ;simp only[eB] at h;split at h
  ·split at h
   ·rename_i dU;simp only[bm,beq_iff_eq] at h;obtain⟨⟨⟨⟨⟨ar,av⟩,bO⟩,dD⟩,B⟩,A⟩:=h;exact mF a3 bo bZ dS bt (yb a3 bo bt bZ dS (eO.dZ _ _ dU) (eO.size ar) av bO dD B (by intro hm;rw[hm] at A;simpa using A) aQ)
   ·cases h
  ·cases h
 |fieldAddr off x=>
  simp only[aL] at aQ;simp only[eB] at h;split at h
  ·split at h
   ·rename_i dU;split at h
    ·rename_i ac;split at h
     ·rename_i hC;simp only[bm] at h;exact mF a3 bo bZ dS bt (sk a3 bo bt (eO.dZ _ _ dU) ac (dj h.1.1) (eO.size hC) (by have:=h.1.2;rw[Nat.blt_eq] at this;omega) (bq bZ dS h.2) aQ)
     ·cases h
    ·cases h
   ·cases h
  ·cases h
 |field off n x=>
  simp only[aL] at aQ;simp only[eB] at h;split at h
  ·split at h
   ·rename_i dU;split at h
    ·rename_i ac;simp only[bm] at h;exact mF a3 bo bZ dS bt (x9 a3 bo bt (eO.dZ _ _ dU) ac (dj h.1.1) (eO.load h.1.2) (bq bZ dS h.2) aQ)
    ·cases h
   ·cases h
  ·cases h
 |iK sz x i=>
  simp only[aL] at aQ;simp only[eB] at h;split at h
  ·split at h
   ·rename_i dU;simp only[bm,beq_iff_eq] at h;exact mF a3 bo bZ dS bt (ya a3 bo bt (eO.dZ _ _ dU) (eO.size h.1.1) (bq bZ dS h.1.2) (bq bZ dS h.2) aQ)
   ·cases h
  ·cases h
 |fr sz len x i=>
  simp only[aL] at aQ;simp only[eB] at h;split at h
  ·split at h
   ·rename_i dU;simp only[bm,beq_iff_eq] at h
    have:=dj h.1.1.1;subst this;exact mF a3 bo bZ dS bt (wC a3 bo bt (eO.dZ _ _ dU) (eO.size h.1.1.2) (bq bZ dS h.1.2) (bq bZ dS h.2) aQ)
   ·cases h
  ·cases h
 |mG x i=>
  simp only[aL] at aQ;simp only[eB] at h;split at h
  ·split at h
   ·rename_i dU;simp only[bm] at h;exact mF a3 bo bZ dS bt (wB a3 bo bt (eO.dZ _ _ dU) (bq bZ dS h.1) (bq bZ dS h.2) aQ)
   ·cases h
  ·cases h
 |nM sz len n x i=>
  simp only[aL] at aQ;simp only[eB] at h;split at h
  ·split at h
   ·rename_i dU;simp only[bm,beq_iff_eq] at h
    have:=dj h.1.1.1.1;subst this;exact mF a3 bo bZ dS bt (wA a3 bo bt (eO.dZ _ _ dU) (eO.size h.1.1.1.2) (eO.load h.1.1.2) (bq bZ dS h.1.2) (bq bZ dS h.2) aQ)
   ·cases h
  ·cases h
 |extract x i=>
  simp only[aL] at aQ;simp only[eB] at h;split at h
  ·simp only[bm] at h
   have:=dj h.1;subst this;have a9:=bq bZ dS h.2;generalize aq E.au ao x=X at a9 aQ;cases X<;> simp only[jZ] at aQ<;> try exact absurd aQ.symm bt
   rename_i vs;obtain⟨v,ar,dc⟩:=nW a3 bo bZ dS bt aQ;obtain⟨xs,ex,bK,bJ⟩:=dA.uB (x:=a.eval _) a9;have bY:=(eA.1 ar).1;exact uT a3 bo bZ dS bt dc (uH a3 a9 ar ((bJ i v _ ar (eI (by omega:i<xs.length))).k4 _))
  ·cases h
 |call f xs=>
  simp only[aL,bo,aU.not] at aQ;simp only[eB] at h;split at h
  ·rename_i c;split at h
   ·rename_i wt a1;simp only[bm] at h
    have:=dj h.1;subst this;exact lH a3 bo ju bZ dS bt (ik bZ dS _ _ h.2) (fun dst pos after guard=>by rw[kO ⟨_,a1,rfl⟩];simp) aQ
   ·cases h
  ·cases h
 |hn f xs=>
  simp only[aL,bo,aU.not] at aQ;simp only[eB] at h;split at h
  ·rename_i c;split at h
   ·rename_i wt a1;simp only[bm] at h
    have:=dj h.1;subst this;exact pM a3 bo ju bZ dS bt (ik bZ dS _ _ h.2) (fun dst pos after guard=>by rw[kO ⟨_,a1,rfl⟩];simp) aQ
   ·cases h
  ·cases h
 |eu g xs=>
  simp only[aL] at aQ;simp only[eB] at h;split at h
  ·rename_i c;split at h
   ·rename_i g' a1;simp only[bm] at h;have a9:=bq bZ dS h.1;generalize aq E.au ao g=X at a9 aQ;cases X<;> simp only[k2,bo,aU.not] at aQ<;> try exact absurd aQ.symm bt
    obtain⟨J,V,bJ⟩:=dA.tP (x:=a.eval _) a9;exact lH a3 bo ju bZ dS bt ((ik bZ dS _ _ h.2).append bJ) (fun dst pos after guard=>by rw[kO ⟨_,a1,V⟩]) aQ
   ·cases h
  ·cases h
 |ly g xs=>
  simp only[aL] at aQ;simp only[eB] at h;split at h
  ·rename_i c;split at h
   ·rename_i g' a1;simp only[bm] at h;have a9:=bq bZ dS h.1;generalize aq E.au ao g=X at a9 aQ;cases X<;> simp only[jJ,bo,aU.not] at aQ<;> try exact absurd aQ.symm bt
    obtain⟨J,V,bJ⟩:=dA.tP (x:=a.eval _) a9;exact pM a3 bo ju bZ dS bt ((ik bZ dS _ _ h.2).append bJ) (fun dst pos after guard=>by rw[kO ⟨_,a1,V⟩]) aQ
   ·cases h
  ·cases h
 |len b x=>
  simp only[aL] at aQ;simp only[eB] at h;split at h
  ·split at h
   ·rename_i dU;simp only[bm] at h;exact mF a3 bo bZ dS bt (uI a3 bo bt (eO.dZ _ _ dU) (.inl ⟨h.1,rfl⟩) (bq bZ dS h.2) aQ)
   ·rename_i el dU;simp only[bm,Bool.not_eq_true'] at h;exact mF a3 bo bZ dS bt (uI a3 bo bt (eO.dZ _ _ dU) (.inr ⟨h.1,el,rfl⟩) (bq bZ dS h.2) aQ)
   ·cases h
  ·cases h
 |append sz bytes at_ x y=>
  simp only[aL,f7] at aQ;simp only[eB] at h;split at aQ
  rotate_left
  ·exact absurd aQ.symm bt
  split at h
  ·rename_i kw tM t t2;split at h
   ·rename_i el dU;split at h
    ·rename_i n b z bY;simp only[bm] at h;obtain⟨⟨⟨⟨⟨⟨⟨ar,av⟩,bO⟩,dD⟩,B⟩,A⟩,L⟩,O⟩:=h;have dM:=dj av;have I:=dj bO;subst dM;subst I;refine tA a3 bo bZ dS bt (pJ a3 bo bt (z:=z) ⟨eO.dZ _ _ dU,?_,eO.info _ _ _ _ bY,dj dD,by simpa [Nat.blt_eq] using B,dW A⟩ (bq bZ dS L) (bq bZ dS O) aQ);split at ar
     ·rename_i lG;exact .inl ⟨_,eO.dZ _ _ lG⟩
     ·rename_i lG;exact .inr (eO.dZ _ _ lG)
     ·cases ar
    ·cases h
   ·cases h
  ·cases h
 |jC sz bytes at_ x y=>
  simp only[aL,kH] at aQ;split at aQ
  rotate_left
  ·exact absurd aQ.symm bt
  rename_i ai;rw[←ai] at aQ;simp only[f7] at aQ;simp only[eB] at h;split at aQ
  rotate_left
  ·exact absurd aQ.symm bt
  split at h
  ·rename_i kw tM t t2;split at h
   ·rename_i el dU;split at h
    ·rename_i n b z bY;simp only[bm] at h;obtain⟨⟨⟨⟨⟨⟨⟨ar,av⟩,bO⟩,dD⟩,B⟩,A⟩,L⟩,O⟩:=h;have dM:=dj av;have I:=dj bO;subst dM;subst I;refine tA a3 bo bZ dS bt (pJ a3 bo bt (z:=z) ⟨eO.dZ _ _ dU,?_,eO.info _ _ _ _ bY,dj dD,by simpa [Nat.blt_eq] using B,dW A⟩ (bq bZ dS L) (bq bZ dS O) aQ);split at ar
     ·rename_i lG;exact .inl ⟨_,eO.dZ _ _ lG⟩
     ·rename_i lG;exact .inr (eO.dZ _ _ lG)
     ·cases ar
    ·cases h
   ·cases h
  ·cases h
 |jD sz bytes at_ x y=>
  simp only[aL,l7] at aQ;simp only[eB] at h;split at aQ
  rotate_left
  ·exact absurd aQ.symm bt
  split at h
  ·rename_i kw tM t t2;split at h
   ·rename_i el dU;split at h
    ·rename_i n b z bY;simp only[bm] at h;obtain⟨⟨⟨⟨⟨⟨⟨ar,av⟩,bO⟩,dD⟩,B⟩,A⟩,L⟩,O⟩:=h;have dM:=dj av;have I:=dj bO;subst dM;subst I;refine tA a3 bo bZ dS bt (uO a3 bo bt (z:=z) ⟨eO.dZ _ _ dU,?_,eO.info _ _ _ _ bY,dj dD,by simpa [Nat.blt_eq] using B,dW A⟩ (bq bZ dS L) (bq bZ dS O) aQ);split at ar
     ·rename_i lG;exact .inl ⟨_,eO.dZ _ _ lG⟩
     ·rename_i lG;exact .inr (eO.dZ _ _ lG)
     ·cases ar
    ·cases h
   ·cases h
  ·cases h
 |jE sz bytes x y=>
  simp only[aL] at aQ;simp only[eB] at h;split at h
  ·rename_i kw tM t t2;split at h
   ·rename_i el dU;split at h
    ·rename_i n b z bY;simp only[bm] at h;obtain⟨⟨⟨⟨⟨⟨⟨ar,av⟩,bO⟩,dD⟩,B⟩,A⟩,L⟩,O⟩:=h;have dM:=dj av;have I:=dj bO;subst dM;subst I;refine tA a3 bo bZ dS bt (uS a3 bo bt (z:=z) ⟨eO.dZ _ _ dU,?_,eO.info _ _ _ _ bY,dj dD,by simpa [Nat.blt_eq] using B,dW A⟩ (by rw[CX];exact bq bZ dS L) (bq bZ dS O) aQ);split at ar
     ·rename_i lG;exact .inl ⟨_,eO.dZ _ _ lG⟩
     ·rename_i lG;exact .inr (eO.dZ _ _ lG)
     ·cases ar
    ·cases h
   ·cases h
  ·cases h
 |gA sz ea=>
  simp only[aL,jH,bo,aU.not] at aQ;simp only[eB] at h;obtain⟨H,K⟩:=cV aQ bt;split at h
  ·rename_i t len u;split at h
   ·rename_i el dU;simp only[bm,beq_iff_eq] at h;obtain⟨⟨⟨⟨⟨ar,av⟩,bO⟩,dD⟩,B⟩,A⟩:=h;obtain⟨J,e,dd⟩:=jU 0 ea u.toList A;have hlen:ea.length=J.length:=by
     have:∀(ea:List bB) (u:List Operand),dx ea u=true→ea.length=u.length:=by
      intro ea
      induction ea with
      |nil=>intro u h;cases u<;> simp [dx] at h ⊢
      |cons p ea U=>intro u h;cases u with
       |nil=>simp [dx] at h
       |cons q u=>simp only[dx,bm] at h;simp [U u h.2]
     exact this ea J dd
    have bK:len=J.length:=by rw[←hlen];exact dj dD
    simp only[bm,List.all_eq_true,Nat.beq_eq_true_eq] at H;have ag:=dW B
    have:=qb (ty:=ty) a3 bZ dS (eO.dZ _ _ dU) (eO.size ar) (eO.zero av) (dj bO) (by rw[←bK];omega) dd rfl H.1 (fun e he=>⟨(H.2 e he).1,dj (H.2 e he).2⟩);rw[←e] at this;rw[bK];exact uT a3 bo bZ dS bt K (by simpa using this)
   ·cases h
  ·cases h
 |gB sz ea=>
  simp only[aL,jI,bo,aU.not] at aQ;simp only[eB] at h;obtain⟨H,K⟩:=cV aQ bt;split at h
  ·rename_i t len u;split at h
   ·rename_i el dU;simp only[bm,beq_iff_eq] at h;obtain⟨⟨⟨⟨⟨ar,av⟩,bO⟩,dD⟩,B⟩,A⟩:=h;obtain⟨J,e,dd⟩:=jU 0 ea u.toList A;have hlen:ea.length=J.length:=by
     have:∀(ea:List bB) (u:List Operand),dx ea u=true→ea.length=u.length:=by
      intro ea
      induction ea with
      |nil=>intro u h;cases u<;> simp [dx] at h ⊢
      |cons p ea U=>intro u h;cases u with
       |nil=>simp [dx] at h
       |cons q u=>simp only[dx,bm] at h;simp [U u h.2]
     exact this ea J dd
    have bK:len=J.length:=by rw[←hlen];exact dj dD
    simp only[bm,List.all_eq_true,Nat.beq_eq_true_eq] at H;have ag:=dW B
    have:=qc (ty:=ty) a3 bZ dS (eO.dZ _ _ dU) (eO.size ar) (eO.zero av) (dj bO) (by rw[←bK];omega) dd rfl (fun e he=>⟨(H e he).1,dj (H e he).2⟩);rw[←e] at this;rw[bK];exact uT a3 bo bZ dS bt K (by simpa using this)
   ·cases h
  ·cases h
 |iO sz len x gk bY iE=>
  simp only[aL] at aQ;simp only[eB] at h;split at h
  ·split at h
   ·rename_i dU;simp only[bm,beq_iff_eq] at h;obtain⟨⟨⟨⟨⟨⟨eJ,ar⟩,av⟩,bO⟩,dD⟩,B⟩,A⟩:=h
    have:=dj eJ;subst this;exact mF a3 bo bZ dS bt (wE a3 bo bt bZ dS (eO.dZ _ _ dU) (eO.size ar) av bO dD B (by intro hm;rw[hm] at A;simpa using A) aQ)
   ·cases h
  ·cases h
 |copy sz x y=>
  simp only[aL] at aQ;simp only[eB] at h;split at h
  ·rename_i kw tM t t2;split at h
   ·rename_i el dU;simp only[bm,beq_iff_eq] at h;have a9:=bq bZ dS h.1.2;generalize aq E.au ao x=X at a9 aQ;cases X<;> simp only[lC] at aQ<;> try exact absurd aQ.symm bt
    rename_i OG off len cap q;obtain⟨gr,K⟩:=cV aQ bt
    have:=dj gr;subst this;exact tA a3 bo bZ dS bt (zK a3 bo bt (eO.dZ _ _ dU) (eO.size h.1.1) (fun fN am an ap p5 e=>by cases e;rfl) a9 (bq bZ dS h.2) K)
   ·cases h
  ·cases h
 |min xs=>
  simp only[aL] at aQ;simp only[eB] at h;split at h
  ·rename_i c;split at h
   ·rename_i a1;refine sS a3 bo bZ dS bt (g:=Builtin.min2) Io h (fun x rest ad dst pos after guard=>?_) aQ;have ae:(c.args.map a.eval).toList=x::rest:=by rw[Array.toList_map];exact ad
    simp only[execOp,resolve,a1,pure_bind,invoke,builtin,Builtin.min_,ae]
   ·cases h
  ·cases h
 |max xs=>
  simp only[aL] at aQ;simp only[eB] at h;split at h
  ·rename_i c;split at h
   ·rename_i a1;refine sS a3 bo bZ dS bt (g:=Builtin.max2) Ip h (fun x rest ad dst pos after guard=>?_) aQ;have ae:(c.args.map a.eval).toList=x::rest:=by rw[Array.toList_map];exact ad
    simp only[execOp,resolve,a1,pure_bind,invoke,builtin,Builtin.max_,ae]
   ·cases h
  ·cases h
 |makeMap at_=>
  simp only[aL] at aQ;simp only[eB] at h;split at h
  ·exact tA a3 bo bZ dS bt (uQ a3 bo bt aQ)
  ·cases h
 |mH kx m x v=>
  simp only[aL] at aQ;simp only[eB] at h;have key:∀{t:TypeId} {jg kw fB:Operand} {o:Op},(match T.dZ t with
   |some (.map af _)=>
    match T.dZ af with
    |some d=>kC kx d&&cD m jg&&cD x kw&&cD v fB
    |none=>false
   |_=>false)=true→(∀dst pos after guard,execOp a.eval ⟨dst,o,ty,pos,after,guard⟩=(do Instr.mapUpdate t (a.eval jg) (a.eval kw) (a.eval fB);pure .skip:Sem Next))→∃v s',k v s'=r∧oq P o ty a.eval κ s w v s':=by
   intro t jg kw fB o h aj;split at h
   ·rename_i af ak dU;split at h
    ·rename_i d cR;simp only[bm] at h;exact tA a3 bo bZ dS bt (wK a3 bo bt (eO.dZ _ _ dU) (eO.dZ _ _ cR) h.1.1.1 (bq bZ dS h.1.1.2) (bq bZ dS h.1.2) (bq bZ dS h.2) aj aQ)
    ·cases h
   ·cases h
  split at h
  ·exact key h (fun _ _ _ _=>rfl)
  ·exact key h (fun _ _ _ _=>rfl)
  ·cases h
 |lookup kx z ok m x=>
  simp only[aL] at aQ;simp only[eB] at h;split at h
  ·split at h
   ·rename_i af ak dU;split at h
    ·rename_i d n b Z cR bY;simp only[bm,beq_iff_eq] at h;obtain⟨⟨⟨⟨ar,av⟩,bO⟩,dD⟩,B⟩:=h;subst bO;obtain⟨i,i1,_,_,i2⟩:=eO.info _ _ _ _ bY;exact mF a3 bo bZ dS bt (wL a3 bo bt (eO.dZ _ _ dU) (eO.dZ _ _ cR) ar i1 i2 av (bq bZ dS dD) (bq bZ dS B) aQ)
    ·cases h
   ·cases h
  ·cases h
 |ln ig f xs=>
  simp only[aL,bo,aU.not] at aQ;simp only[eB] at h;split at h
  ·rename_i c;split at h
   ·rename_i wt a1;simp only[bm] at h
    have:=dj h.1;subst this;obtain⟨v,s',dM,I⟩:=lH (ty:=ty) (ρ:=a.eval) (o:=.call c) a3 bo ju bZ dS bt (ik bZ dS _ _ h.2) (fun dst pos after guard=>by rw[kO ⟨_,a1,rfl⟩];simp) aQ;exact⟨v,s',cV dM bt |>.2,I⟩
   ·cases h
  ·cases h
 |jQ ig g xs=>
  simp only[aL] at aQ;simp only[eB] at h;split at h
  ·rename_i c;split at h
   ·rename_i g' a1;simp only[bm] at h;have a9:=bq bZ dS h.1;generalize aq E.au ao g=X at a9 aQ;cases X<;> simp only[ke,bo,aU.not] at aQ<;> try exact absurd aQ.symm bt
    obtain⟨J,V,bJ⟩:=dA.tP (x:=a.eval _) a9;obtain⟨v,s',dM,I⟩:=lH (ty:=ty) (ρ:=a.eval) (o:=.call c) a3 bo ju bZ dS bt ((ik bZ dS _ _ h.2).append bJ) (fun dst pos after guard=>by rw[kO ⟨_,a1,V⟩]) aQ;exact⟨v,s',cV dM bt |>.2,I⟩
   ·cases h
  ·cases h
 |uk neg x=>
  simp only[aL] at aQ;simp only[eB] at h;obtain⟨v,ar,dc⟩:=nW a3 bo bZ dS bt aQ;split at h
  ·split at h
   ·rename_i dU;simp only[bm,xj,b6] at h;exact uT a3 bo bZ dS bt dc (zJ a3 h.1 (eO.dZ _ _ dU) (bq bZ dS h.2) rfl ar)
   ·cases h
  ·cases h
 |no=>exact absurd aQ.symm bt
end
def ah.bind(r:ah)(k kp:ae→ag→ah):ah:=
 match r with
 |.ok v s=>k v s
 |.panic v s=>kp v s
 |.fail=>.fail
section
variable{E:Env}(bo:E.F=.not)(ao:Nat→ae)(s:ag)(k kp:ae→ag→ah)
include bo
theorem lg(v:Option ae):qu E s k v=ah.bind (qu E s .ok v) k kp:=by cases v<;> simp [qu,bo,aU.not,ah.bind]
theorem mN(m:Option Nat)(cs:List ae):eR E s k m cs=ah.bind (eR E s .ok m cs) k kp:=by
 cases m<;> simp only[eR,bo,aU.not]
 ·cases cs<;> rfl
 ·cases Nat.ble _ _<;> rfl
theorem yj(a:Loc)(off:Nat)(vs:List ae):ii E s k a off vs=ah.bind (ii E s .ok a off vs) k kp:=by
 simp only[ii,bo,aU.not];cases s.get a with
 |none=>rfl
 |some o=>
  cases o<;> try rfl
  simp only;cases(_&&_:Bool)<;> try rfl
  simp only[bX];cases s.set a _<;> rfl
theorem wP(x:ae)(gk bY:Option bB):jG E ao s k x gk bY=ah.bind (jG E ao s .ok x gk bY) k kp:=by
 cases x<;> simp only[jG,bo,aU.not]<;> try rfl
 cases dB E.au ao gk 0<;> try rfl
 cases dB E.au ao bY _<;> try rfl
 simp only;cases(_&&_:Bool)<;> rfl
theorem yk(z:Nat)(x:ae)(gk bY iE:Option bB):jR E ao s k z x gk bY iE=ah.bind (jR E ao s .ok z x gk bY iE) k kp:=by
 cases x<;> simp only[jR,bo,aU.not]<;> try rfl
 ·cases dB E.au ao gk 0<;> try rfl
  cases dB E.au ao bY _<;> try rfl
  cases iE with
  |none=>simp only;cases(_&&_:Bool)<;> rfl
  |some x=>
   simp only;rename_i g _ _;cases eX (aq E.au ao x)<;> cases g<;> try rfl
   all_goals simp only;cases(_&&_:Bool)<;> rfl
 ·cases dB E.au ao gk 0<;> try rfl
  cases dB E.au ao bY _<;> try rfl
  cases dB E.au ao iE _<;> try rfl
  simp only;cases(_&&_:Bool)<;> rfl
theorem uU(q bytes:Nat)(b:Loc)(x y:ae):jY E s k q bytes b x y=ah.bind (jY E s .ok q bytes b x y) k kp:=by
 simp only[jY,bo,aU.not];cases y<;> try rfl
 rename_i z new _;cases x<;> try rfl
 rename_i sz es g;simp only;cases(_&&_:Bool)<;> try rfl
 simp only[bX];cases new<;> try rfl
 cases g<;> try rfl
 ·simp only;cases sb s b _<;> try rfl
  simp only[bX];cases s.hd b _<;> rfl
 ·simp only;rename_i a;cases s.get a<;> try rfl
  rename_i o;cases o<;> try rfl
  simp only;cases(_&&_:Bool)<;> try rfl
  simp only[bX];cases s.set a _<;> rfl
theorem wQ(z n:Nat)(x:ae)(gk bY iE:Option bB):ix E ao s k z n x gk bY iE=ah.bind (ix E ao s .ok z n x gk bY iE) k kp:=by
 cases x<;> simp only[ix,bo,aU.not]<;> try rfl
 cases dB E.au ao gk 0<;> try rfl
 cases dB E.au ao bY _<;> try rfl
 cases dB E.au ao iE _<;> try rfl
 simp only;cases(_&&_:Bool)<;> rfl
theorem pN(q bytes:Nat)(b:Loc)(x y:ae):hG E s k q bytes b x y=ah.bind (hG E s .ok q bytes b x y) k kp:=by
 simp only[hG,bo,aU.not];cases dG s y with
 |none=>rfl
 |some p=>
  obtain⟨z,new⟩:=p;cases x<;> try rfl
  ·rename_i sz es g;simp only;cases(_&&_:Bool)<;> try rfl
   simp only[bX];cases new<;> try rfl
   cases g<;> try rfl
   ·simp only;cases s.hd b _<;> rfl
   ·simp only;cases s.hd b _<;> rfl
   rename_i a;simp only;cases s.get a<;> try rfl
   rename_i o;cases o<;> try rfl
   simp only;cases(_&&_:Bool)<;> try rfl
   simp only[bX];cases s.set a _<;> rfl
  ·rename_i a off len cap sz;simp only;cases s.get a<;> try rfl
   rename_i o;cases o<;> try rfl
   simp only;cases(_&&_:Bool)<;> try rfl
   simp only[bX];cases s.set a _<;> rfl
theorem wR(kx:wq)(m x v:ae):lb E s k kx m x v=ah.bind (lb E s .ok kx m x v) k kp:=by
 cases m<;> simp only[lb,bo,aU.not]<;> try rfl
 cases s.get _<;> try rfl
 rename_i o;cases o<;> try rfl
 simp only;cases(_&&_:Bool)<;> try rfl
 simp only[bX];cases putKey x v _<;> try rfl
 simp only;cases s.set _ _<;> rfl
theorem wS(kx:wq)(z:ae)(ok:Bool)(m x:ae):lc E s k kx z ok m x=ah.bind (lc E s .ok kx z ok m x) k kp:=by
 simp only[lc,bo,aU.not];cases isKey kx x<;> try rfl
 simp only[bX];cases entriesOf s m<;> try rfl
 simp only;cases findKey x _<;> try rfl
 rename_i o;cases o<;> rfl
theorem CZ(sz:Nat)(x i:ae):kz E s k sz x i=ah.bind (kz E s .ok sz x i) k kp:=by
 simp only[kz,bo,aU.not];cases eX i<;> try rfl
 cases x<;> try rfl
 ·simp only;cases Nat.beq _ _<;> try rfl
  simp only[bX];rename_i es _;split<;> rfl
 ·simp only;cases(_&&_:Bool)<;> rfl
theorem wT(sz len:Nat)(x i:ae):hH E s k sz len x i=ah.bind (hH E s .ok sz len x i) k kp:=by
 simp only[hH,bo,aU.not];cases eX i<;> try rfl
 simp only;cases Nat.blt _ _<;> try rfl
 cases x<;> rfl
theorem sT(f:Nat)(args:List ae):eu E s k kp f args=ah.bind (eu E s .ok .panic f args) k kp:=by
 simp only[eu];cases E.call f args s<;> try rfl
 simp only;cases Nat.beq _ _<;> rfl
theorem qR(xs:List (Option Nat×ae))(f:Nat)(args:List ae):hW E s k kp xs f args=ah.bind (hW E s .ok .panic xs f args) k kp:=by
 simp only[hW,eu];cases E.call f args s<;> try rfl
 simp only;cases Nat.beq _ _<;> try rfl
 simp only[bX];cases xs.all _<;> rfl
theorem qS(f:Nat)(args:List ae):hs E s k f args=ah.bind (hs E s .ok f args) k kp:=by
 simp only[hs];cases ae.a7 args<;> try rfl
 simp only[bX];cases E.call f args _<;> try rfl
 rename_i v _;simp only;cases v.bb<;> rfl
theorem yl(n:Option Nat)(v:ae):dX E s k n v=ah.bind (dX E s .ok n v) k kp:=by
 cases v<;> simp only[dX]<;> try rfl
 ·rename_i a off;cases s.get a<;> try rfl
  rename_i o;cases o<;> try rfl
  exact mN bo s k kp _ _
 ·exact mN bo s k kp _ _
theorem so(off:Nat)(v:ae):gJ E s k off v=ah.bind (gJ E s .ok off v) k kp:=by cases v<;> simp only[gJ,bo,aU.not]<;> rfl
theorem ym(off:Nat)(n:Option Nat)(v:ae):lB E s k off n v=ah.bind (lB E s .ok off n v) k kp:=by
 cases v<;> simp only[lB]<;> try rfl
 exact mN bo s k kp _ _
theorem wU(v i:ae):h0 E s k v i=ah.bind (h0 E s .ok v i) k kp:=by
 cases v<;> simp only[h0,bo,aU.not]<;> try rfl
 cases eX i<;> try rfl
 simp only;split<;> rfl
theorem wV(sz len:Nat)(n:Option Nat)(v i:ae):kd E s k sz len n v i=ah.bind (kd E s .ok sz len n v i) k kp:=by
 cases v<;> simp only[kd]<;> try rfl
 cases eX i<;> try rfl
 simp only;cases Nat.blt _ _<;> try rfl
 exact mN bo s k kp _ _
theorem uV(i:Nat)(v:ae):jZ E s k i v=ah.bind (jZ E s .ok i v) k kp:=by
 cases v<;> simp only[jZ]<;> try rfl
 exact lg bo s k kp _
theorem C0(b:Bool)(v:ae):pC E s k b v=ah.bind (pC E s .ok b v) k kp:=by cases b<;> cases v<;> simp only[pC,bo,aU.not]<;> rfl
theorem zQ(d x:ae):copyV E s k d x=ah.bind (copyV E s .ok d x) k kp:=by
 cases d<;> simp only[copyV,bo,aU.not]<;> try rfl
 rename_i a off len cap sz;cases dG s x<;> try rfl
 simp only;cases s.get a<;> try rfl
 rename_i o;cases o<;> try rfl
 simp only;cases(_&&_:Bool)<;> try rfl
 simp only[bX];cases s.set a _<;> rfl
theorem yn(q:Nat)(d x:ae):lC E s k q d x=ah.bind (lC E s .ok q d x) k kp:=by
 cases d<;> simp only[lC]<;> try rfl
 cases Nat.beq _ _<;> first|rfl |skip
 simp only[bX];exact zQ bo s k kp _ _
theorem zR(zero:List ae)(bytes:Nat)(l c:ae):m3 E s k zero bytes l c=ah.bind (m3 E s .ok zero bytes l c) k kp:=by
 simp only[m3,bo,aU.not];cases eX l<;> try rfl
 cases eX c<;> try rfl
 simp only;cases(_&&_:Bool)<;> rfl
theorem k5(n:Nat)(a v:ae):fh E s k n a v=ah.bind (fh E s .ok n a v) k kp:=by
 cases a<;> simp only[fh]<;> try rfl
 cases(_&&_:Bool)<;> try rfl
 exact yj bo s k kp _ _ _
theorem wW(m:Option Nat)(y:ae)(n:Nat)(a v:ae):la E s k m y n a v=ah.bind (la E s .ok m y n a v) k kp:=by
 unfold la;rw[k5 bo s _ kp n a v,k5 bo s (fun u t=>bif nO (eY s m y) (eY t m y) then .ok u t else .fail) .panic n a v];cases fh E s .ok n a v<;> try rfl
 simp only[ah.bind];cases nO _ _<;> rfl
theorem uW(d:IntKind)(v:ae):j0 E s k d v=ah.bind (j0 E s .ok d v) k kp:=by cases v<;> simp only[j0,bo,aU.not]<;> rfl
theorem wX(v:ae):l6 s k v=ah.bind (l6 s .ok v) k kp:=by cases v<;> rfl
theorem qT(v:ae):hf E s k v=ah.bind (hf E s .ok v) k kp:=by cases v<;> simp only[hf,bo,aU.not]<;> rfl
theorem qU(v:ae):gC E s k v=ah.bind (gC E s .ok v) k kp:=by cases v<;> first|rfl |(simp only[gC];cases dG s _<;> first|rfl |exact lg bo s k kp _)
theorem zS(c a b:ae):m4 E s k c a b=ah.bind (m4 E s .ok c a b) k kp:=by cases c<;> simp only[m4,bo,aU.not]<;> rfl
theorem tB(v:ae):iW E s k v=ah.bind (iW E s .ok v) k kp:=by
 simp only[iW,bo,aU.not];cases isNil v<;> try rfl
 rename_i b;cases b<;> rfl
theorem yo(v:ae):mI E s k v=ah.bind (mI E s .ok v) k kp:=by
 cases v<;> simp only[mI,bo,aU.not]<;> try rfl
 rename_i a off len cap sz;cases a<;> try rfl
 simp only;rename_i i;cases s.own[i]? <;> try rfl
 rename_i o;cases o<;> try rfl
 simp only;cases(_&&_:Bool)<;> rfl
theorem qV(sz:Nat)(es:List ae):hI E s k sz es=ah.bind (hI E s .ok sz es) k kp:=by simp only[hI,bo,aU.not];cases(_&&_:Bool)<;> rfl
theorem yp(f:ae)(args:List ae):k2 E s k kp f args=ah.bind (k2 E s .ok .panic f args) k kp:=by
 cases f<;> simp only[k2,bo,aU.not]<;> try rfl
 exact sT bo s k kp _ _
theorem wY(f:ae)(args:List ae):jJ E s k f args=ah.bind (jJ E s .ok f args) k kp:=by
 cases f<;> simp only[jJ,bo,aU.not]<;> try rfl
 exact qS bo s k kp _ _
theorem qW(f:ae→ae→Option ae)(xs:List ae):k3 E s k f xs=ah.bind (k3 E s .ok f xs) k kp:=by
 cases xs<;> simp only[k3]<;> try rfl
 exact lg bo s k kp _
theorem jh(op:f9):aL E ao s k kp op=ah.bind (aL E ao s .ok .panic op) k kp:=by
 cases op<;> simp only[aL]
 case move=>simp only[bo,aU.not];rfl
 case m1=>simp only[bo,aU.not];rfl
 case oC=>exact yo bo s k kp _
 case pick=>exact zS bo s k kp _ _ _
 case alloc=>simp only[bo,aU.not];rfl
 case fq x=>simp only[bo,aU.not];cases(aq E.au ao x).ff<;> rfl
 case jP x=>simp only[bo,aU.not];cases(aq E.au ao x).ff<;> rfl
 case build=>exact lg bo s k kp _
 case buildSlice=>exact qV bo s k kp _ _
 case load=>exact yl bo s k kp _ _
 case store=>exact k5 bo s k kp _ _ _
 case kZ=>exact wW bo s k kp _ _ _ _ _
 case nilCheck=>exact tB bo s k kp _
 case bin=>exact lg bo s k kp _
 case eq=>exact lg bo s k kp _
 case un=>exact lg bo s k kp _
 case k9=>exact uW bo s k kp _ _
 case nL=>exact wX bo s k kp _
 case gI=>exact qU bo s k kp _
 case iT=>exact qT bo s k kp _
 case jB=>simp only[bo,aU.not];rfl
 case kb=>simp only[bo,aU.not];rfl
 case makeSlice=>exact zR bo s k kp _ _ _ _
 case kc=>exact wP bo ao s k kp _ _ _
 case slice=>exact yk bo ao s k kp _ _ _ _ _
 case fieldAddr=>exact so bo s k kp _ _
 case field=>exact ym bo s k kp _ _ _
 case iK=>exact CZ bo s k kp _ _ _
 case fr=>exact wT bo s k kp _ _ _ _
 case mG=>exact wU bo s k kp _ _
 case nM=>exact wV bo s k kp _ _ _ _ _
 case extract=>exact uV bo s k kp _ _
 case call=>simp only[bo,aU.not];exact sT bo s k kp _ _
 case eu=>exact yp bo s k kp _ _
 case hn=>simp only[bo,aU.not];exact qS bo s k kp _ _
 case ly=>exact wY bo s k kp _ _
 case len=>exact C0 bo s k kp _ _
 case append=>
  simp only[f7];cases hZ E.au ao _<;> try rfl
  exact pN bo s k kp _ _ _ _ _
 case jD=>
  simp only[l7];cases hZ E.au ao _<;> try rfl
  exact uU bo s k kp _ _ _ _ _
 case gA=>simp only[jH,bo,aU.not];cases(_&&_:Bool)<;> rfl
 case gB=>simp only[jI,bo,aU.not];cases List.all _ _<;> rfl
 case jE=>
  simp only[lU,bo,aU.not];cases dG s _ with
  |none=>rfl
  |some p=>
   obtain⟨z,new⟩:=p;cases new with
   |nil=>rfl
   |cons c new=>
    simp only;split
    ·cases(_&&_:Bool)<;> rfl
    ·split
     ·cases(_&&_:Bool)<;> rfl
     ·rfl
    ·rfl
 case iO=>exact wQ bo ao s k kp _ _ _ _ _ _
 case jC=>
  simp only[kH];cases aq E.au ao _<;> try rfl
  simp only[f7];cases hZ E.au ao _<;> try rfl
  exact pN bo s k kp _ _ _ _ _
 case makeMap=>
  simp only[lV,bo,aU.not];cases hZ E.au ao _<;> try rfl
  simp only;cases s.hd _ _<;> rfl
 case mH=>exact wR bo s k kp _ _ _ _
 case lookup=>exact wS bo s k kp _ _ _ _ _
 case no=>rfl
 case uk=>exact lg bo s k kp _
 case ln=>simp only[bo,aU.not];exact qR bo s k kp _ _ _
 case jQ=>
  simp only[ke,bo,aU.not];cases aq E.au ao _<;> try rfl
  exact qR bo s k kp _ _ _
 case copy=>exact yn bo s k kp _ _ _
 case min=>exact qW bo s k kp _ _
 case max=>exact qW bo s k kp _ _
end
def ga(o:Option ae)(k:ae→ag→ah)(s:ag):ah:=
 match o with
 |some v=>k v s
 |none=>.fail
def f9.pz:f9→Nat
 |.load .. |.gI _|.lookup ..=>1
 |.oC _|.alloc _|.jP _|.store .. |.kZ .. |.makeSlice .. |.append .. |.jC .. |.jD .. |.gA .. |.gB .. |.jE .. |.copy .. |.call .. |.eu .. |.makeMap _|.mH .. |.ln .. |.jQ ..=>2
 |_=>0
def f9.JN:f9→List bB
 |.move x|.oC x|.fq x|.jP x|.load _ x|.nilCheck x|.un _ x|.k9 _ x|.nL x|.gI x|.iT x|.jB _ x|.fieldAddr _ x|.field _ _ x|.extract x _|.len _ x=>[x]
 |.pick a b c=>[a,b,c]
 |.uk _ x=>[x]
 |.m1 x=>[x]
 |.alloc _=>[]
 |.build _ ea=>ea.map (·.2.2)
 |.buildSlice _ xs|.kb _ xs|.call _ xs|.hn _ xs|.min xs|.max xs=>xs
 |.store _ a b|.bin _ a b|.eq _ _ a b|.makeSlice _ _ a b|.iK _ a b|.fr _ _ a b|.mG a b|.nM _ _ _ a b|.copy _ a b|.lookup _ _ _ a b=>[a,b]
 |.append _ _ c a b=>c.toList++[a,b]
 |.jC _ _ c a b=>c.toList++[a,b]
 |.jD _ _ c a b=>c.toList++[a,b]
 |.gA _ xs=>xs
 |.gB _ xs=>xs
 |.jE _ _ a b=>[a,b]
 |.makeMap c=>c.toList
 |.kZ _ y _ a v=>[y,a,v]
 |.mH _ a b c=>[a,b,c]
 |.no=>[]
 |.eu f xs|.ly f xs=>f::xs
 |.ln ig _ xs=>ig.map (·.2)++xs
 |.jQ ig f xs=>f::(ig.map (·.2)++xs)
 |.kc x gk bY=>x::(gk.toList++bY.toList)
 |.slice _ x gk bY iE=>x::(gk.toList++bY.toList++iE.toList)
 |.iO _ _ x gk bY iE=>x::(gk.toList++bY.toList++iE.toList)
section
variable{E:Env}(bo:E.F=.not)(ao:Nat→ae)
include bo
theorem ny(v:Option ae):∃o,∀s k,qu E s k v=ga o k s:=⟨v,fun s k=>by cases v<;> simp only[qu,bo,aU.not,ga]⟩
theorem oL(m:Option Nat)(cs:List ae):∃o,∀s k,eR E s k m cs=ga o k s:=by
 cases m<;> simp only[eR,bo,aU.not]
 ·cases cs
  ·exact⟨none,fun _ _=>rfl⟩
  ·exact⟨some _,fun _ _=>rfl⟩
 ·cases Nat.ble _ _
  ·exact⟨none,fun _ _=>rfl⟩
  ·exact⟨some _,fun _ _=>rfl⟩
theorem wZ(x:ae)(gk bY:Option bB):∃o,∀s k,jG E ao s k x gk bY=ga o k s:=by
 cases x<;> simp only[jG,bo,aU.not]<;> try exact⟨none,fun _ _=>rfl⟩
 cases dB E.au ao gk 0<;> try exact⟨none,fun _ _=>rfl⟩
 cases dB E.au ao bY _<;> try exact⟨none,fun _ _=>rfl⟩
 simp only;cases(_&&_:Bool)
 ·exact⟨none,fun _ _=>rfl⟩
 ·exact⟨some _,fun _ _=>rfl⟩
theorem w0(z n:Nat)(x:ae)(gk bY iE:Option bB):∃o,∀s k,ix E ao s k z n x gk bY iE=ga o k s:=by
 cases x<;> simp only[ix,bo,aU.not]<;> try exact⟨none,fun _ _=>rfl⟩
 cases dB E.au ao gk 0<;> try exact⟨none,fun _ _=>rfl⟩
 cases dB E.au ao bY _<;> try exact⟨none,fun _ _=>rfl⟩
 cases dB E.au ao iE _<;> try exact⟨none,fun _ _=>rfl⟩
 simp only;cases(_&&_:Bool)
 ·exact⟨none,fun _ _=>rfl⟩
 ·exact⟨some _,fun _ _=>rfl⟩
theorem yq(z:Nat)(x:ae)(gk bY iE:Option bB):∃o,∀s k,jR E ao s k z x gk bY iE=ga o k s:=by
 cases x<;> simp only[jR,bo,aU.not]<;> try exact⟨none,fun _ _=>rfl⟩
 ·cases dB E.au ao gk 0<;> try exact⟨none,fun _ _=>rfl⟩
  cases dB E.au ao bY _<;> try exact⟨none,fun _ _=>rfl⟩
  cases iE with
  |none=>
   simp only;cases(_&&_:Bool)
   ·exact⟨none,fun _ _=>rfl⟩
   ·exact⟨some _,fun _ _=>rfl⟩
  |some x=>
   simp only;rename_i g _ _;cases eX (aq E.au ao x)<;> cases g<;> try exact⟨none,fun _ _=>rfl⟩
   all_goals
    simp only;cases(_&&_:Bool)
    ·exact⟨none,fun _ _=>rfl⟩
    ·exact⟨some _,fun _ _=>rfl⟩
 ·cases dB E.au ao gk 0<;> try exact⟨none,fun _ _=>rfl⟩
  cases dB E.au ao bY _<;> try exact⟨none,fun _ _=>rfl⟩
  cases dB E.au ao iE _<;> try exact⟨none,fun _ _=>rfl⟩
  simp only;cases(_&&_:Bool)
  ·exact⟨none,fun _ _=>rfl⟩
  ·exact⟨some _,fun _ _=>rfl⟩
theorem C1(sz:Nat)(x i:ae):∃o,∀s k,kz E s k sz x i=ga o k s:=by
 simp only[kz,bo,aU.not];cases eX i<;> try exact⟨none,fun _ _=>rfl⟩
 rename_i i;cases x<;> try exact⟨none,fun _ _=>rfl⟩
 ·simp only;cases Nat.beq _ _
  ·exact⟨none,fun _ _=>rfl⟩
  rename_i es _;simp only[bX];cases es[i]?
  ·exact⟨none,fun _ _=>rfl⟩
  ·exact⟨some _,fun _ _=>rfl⟩
 ·simp only;cases(_&&_:Bool)
  ·exact⟨none,fun _ _=>rfl⟩
  ·exact⟨some _,fun _ _=>rfl⟩
theorem w1(sz len:Nat)(x i:ae):∃o,∀s k,hH E s k sz len x i=ga o k s:=by
 simp only[hH,bo,aU.not];cases eX i<;> try exact⟨none,fun _ _=>rfl⟩
 simp only;cases Nat.blt _ _<;> try exact⟨none,fun _ _=>rfl⟩
 cases x<;> first|exact⟨none,fun _ _=>rfl⟩|exact⟨some _,fun _ _=>rfl⟩
theorem qX(f:Nat)(args:List ae):∃o,∀s k,hs E s k f args=ga o k s:=by
 simp only[hs];cases ae.a7 args<;> try exact⟨none,fun _ _=>rfl⟩
 simp only[bX];cases E.call f args _<;> try exact⟨none,fun _ _=>rfl⟩
 rename_i v _;simp only;cases v.bb
 ·exact⟨none,fun _ _=>rfl⟩
 ·exact⟨some _,fun _ _=>rfl⟩
theorem sp(off:Nat)(v:ae):∃o,∀s k,gJ E s k off v=ga o k s:=by cases v<;> simp only[gJ,bo,aU.not]<;> first|exact⟨none,fun _ _=>rfl⟩|exact⟨some _,fun _ _=>rfl⟩
theorem yr(off:Nat)(n:Option Nat)(v:ae):∃o,∀s k,lB E s k off n v=ga o k s:=by
 cases v<;> simp only[lB]<;> try exact⟨none,fun _ _=>rfl⟩
 exact oL bo _ _
theorem w2(v i:ae):∃o,∀s k,h0 E s k v i=ga o k s:=by
 cases v<;> simp only[h0,bo,aU.not]<;> try exact⟨none,fun _ _=>rfl⟩
 cases eX i<;> try exact⟨none,fun _ _=>rfl⟩
 rename_i fb i;simp only;cases fb[i]?
 ·exact⟨none,fun _ _=>rfl⟩
 ·exact⟨some _,fun _ _=>rfl⟩
theorem w3(sz len:Nat)(n:Option Nat)(v i:ae):∃o,∀s k,kd E s k sz len n v i=ga o k s:=by
 cases v<;> simp only[kd]<;> try exact⟨none,fun _ _=>rfl⟩
 cases eX i<;> try exact⟨none,fun _ _=>rfl⟩
 simp only;cases Nat.blt _ _<;> try exact⟨none,fun _ _=>rfl⟩
 exact oL bo _ _
theorem uX(i:Nat)(v:ae):∃o,∀s k,jZ E s k i v=ga o k s:=by
 cases v<;> simp only[jZ]<;> try exact⟨none,fun _ _=>rfl⟩
 exact ny bo _
theorem C2(b:Bool)(v:ae):∃o,∀s k,pC E s k b v=ga o k s:=by cases b<;> cases v<;> simp only[pC,bo,aU.not]<;> first|exact⟨none,fun _ _=>rfl⟩|exact⟨some _,fun _ _=>rfl⟩
theorem uY(d:IntKind)(v:ae):∃o,∀s k,j0 E s k d v=ga o k s:=by cases v<;> simp only[j0,bo,aU.not]<;> first|exact⟨none,fun _ _=>rfl⟩|exact⟨some _,fun _ _=>rfl⟩
omit bo in
theorem w4(v:ae):∃o,∀s k,l6 s k v=ga o k s:=by cases v<;> simp only[l6]<;> first|exact⟨none,fun _ _=>rfl⟩|exact⟨some _,fun _ _=>rfl⟩
theorem qY(v:ae):∃o,∀s k,hf E s k v=ga o k s:=by cases v<;> simp only[hf,bo,aU.not]<;> first|exact⟨none,fun _ _=>rfl⟩|exact⟨some _,fun _ _=>rfl⟩
theorem zT(c a b:ae):∃o,∀s k,m4 E s k c a b=ga o k s:=by cases c<;> simp only[m4,bo,aU.not]<;> first|exact⟨none,fun _ _=>rfl⟩|exact⟨some _,fun _ _=>rfl⟩
theorem tC(v:ae):∃o,∀s k,iW E s k v=ga o k s:=by
 simp only[iW,bo,aU.not];cases isNil v<;> try exact⟨none,fun _ _=>rfl⟩
 rename_i b;cases b
 ·exact⟨some _,fun _ _=>rfl⟩
 ·exact⟨none,fun _ _=>rfl⟩
theorem qZ(sz:Nat)(es:List ae):∃o,∀s k,hI E s k sz es=ga o k s:=by
 simp only[hI,bo,aU.not];cases(_&&_:Bool)
 ·exact⟨none,fun _ _=>rfl⟩
 ·exact⟨some _,fun _ _=>rfl⟩
theorem w5(f:ae)(args:List ae):∃o,∀s k,jJ E s k f args=ga o k s:=by
 cases f<;> simp only[jJ,bo,aU.not]<;> try exact⟨none,fun _ _=>rfl⟩
 exact qX bo _ _
theorem q0(f:ae→ae→Option ae)(xs:List ae):∃o,∀s k,k3 E s k f xs=ga o k s:=by
 cases xs<;> simp only[k3]<;> try exact⟨none,fun _ _=>rfl⟩
 exact ny bo _
theorem uZ{op:f9}(a1:op.pz=0)(d:Nat):∃o,∀(s:ag) k kp,s.aa=d→aL E ao s k kp op=ga o k s:=by
 have key:∀{f:ag→(ae→ag→ah)→ah},(∃o,∀s k,f s k=ga o k s)→∃o,∀(s:ag) (k kp:ae→ag→ah),s.aa=d→f s k=ga o k s:=fun⟨o,h⟩=>⟨o,fun s k kp _=>h s k⟩
 cases op<;> simp only[f9.pz] at a1<;> first|exact absurd a1 (by decide)|skip
 all_goals simp only[aL]
 case m1 x=>exact⟨some (nN (aq E.au ao x)),fun s k kp _=>by simp only[bo,aU.not,ga]⟩
 case move x=>exact⟨some (aq E.au ao x),fun s k kp _=>by simp only[bo,aU.not,ga]⟩
 case pick c a b=>exact key (zT bo _ _ _)
 case fq x=>
  cases bJ:(aq E.au ao x).ff
  ·exact⟨none,fun s k kp _=>by simp only[bo,aU.not,ga,cond_false]⟩
  ·exact⟨some (.bP ((aq E.au ao x).ap d).cells),fun s k kp h=>by simp only[bo,aU.not,ga,bX,h]⟩
 case build zero parts=>exact⟨(fg E.au d ao zero parts).map .agg,fun s k kp h=>by rw[h];cases fg E.au d ao zero parts<;> simp only[qu,bo,aU.not,ga,ep,Option.map_none]⟩
 case buildSlice=>exact key (qZ bo _ _)
 case nilCheck=>exact key (tC bo _)
 case bin=>exact key (ny bo _)
 case eq=>exact key (ny bo _)
 case un=>exact key (ny bo _)
 case k9=>exact key (uY bo _ _)
 case nL=>exact key (w4 _)
 case iT=>exact key (qY bo _)
 case jB t x=>exact⟨some (.iface t ((aq E.au ao x).ap d)),fun s k kp h=>by simp only[bo,aU.not,ga,h]⟩
 case kb f dC=>exact⟨some (.fn f (dC.map fun x=>(aq E.au ao x).ap d)),fun s k kp h=>by simp only[bo,aU.not,ga,h]⟩
 case kc=>exact key (wZ bo ao _ _ _)
 case slice=>exact key (yq bo ao _ _ _ _ _)
 case iO=>exact key (w0 bo ao _ _ _ _ _ _)
 case fieldAddr=>exact key (sp bo _ _)
 case field=>exact key (yr bo _ _ _)
 case iK=>exact key (C1 bo _ _ _)
 case fr=>exact key (w1 bo _ _ _ _)
 case mG=>exact key (w2 bo _ _)
 case nM=>exact key (w3 bo _ _ _ _ _)
 case extract=>exact key (uX bo _ _)
 case hn f args=>obtain⟨o,h⟩:=qX bo f (args.map fun x=>(aq E.au ao x).ap d);exact⟨o,fun s k kp cR=>by simp only[bo,aU.not,cR];exact h s k⟩
 case ly f args=>obtain⟨o,h⟩:=w5 bo (aq E.au ao f) (args.map fun x=>(aq E.au ao x).ap d);exact⟨o,fun s k kp cR=>by simp only[cR];exact h s k⟩
 case no=>exact⟨none,fun s k kp _=>rfl⟩
 case uk=>exact key (ny bo _)
 case len=>exact key (C2 bo _ _)
 case min xs=>obtain⟨o,h⟩:=q0 bo min2 (xs.map fun x=>(aq E.au ao x).ap d);exact⟨o,fun s k kp cR=>by simp only[cR];exact h s k⟩
 case max xs=>obtain⟨o,h⟩:=q0 bo max2 (xs.map fun x=>(aq E.au ao x).ap d);exact⟨o,fun s k kp cR=>by simp only[cR];exact h s k⟩
theorem sU{op:f9}(a1:op.pz=1){s s':ag}{v:ae}(h:aL E ao s .ok .panic op=.ok v s'):s'=s:=by
 have lq:∀{m:Option ae},qu E s .ok m=.ok v s'→s'=s:=fun {m} h=>by cases m<;> simp [qu,bo,aU.not] at h;exact h.2.symm
 have hy:∀{n:Option Nat} {cs:List ae},eR E s .ok n cs=.ok v s'→s'=s:=fun {n cs} h=>by obtain⟨o,e⟩:=oL bo n cs;rw[e] at h;cases o<;> simp [ga] at h;exact h.2.symm
 cases op<;> simp only[f9.pz] at a1<;> first|exact absurd a1 (by decide)|skip
 all_goals simp only[aL] at h
 case load n a=>
  unfold dX at h;split at h
  ·exact hy h
  ·split at h
   ·exact hy h
   ·cases h
  ·cases h
 case gI x=>
  unfold gC at h;split at h
  ·cases h
  ·split at h
   ·exact lq h
   ·cases h
 case lookup kx z ok m x=>
  unfold lc at h;simp only[bo,aU.not] at h;cases dc:isKey kx (ae.ap s.aa (aq E.au ao x)) with
  |false=>rw[dc] at h;cases h
  |true=>
   rw[dc,bX] at h;split at h
   ·split at h
    ·simp only[ah.ok.injEq] at h;exact h.2.symm
    ·simp only[ah.ok.injEq] at h;exact h.2.symm
    ·cases h
   ·cases h
end
theorem ag.jX{s s':ag}{a:Loc}{o:dp}(h:s.set a o=some s'):s'.aa=s.aa:=by
 unfold ag.set at h;split at h
 ·simp only[bj] at h;subst h;rfl
 ·split at h
  ·simp only[bj] at h;subst h;rfl
  ·split at h
   ·simp only[bj] at h;subst h;simp [ag.aa]
   ·cases h
theorem ag.lI{s s':ag}{a l:Loc}{o:dp}(h:s.hd a o=some (l,s')):s'.aa=s.aa:=by
 unfold ag.hd at h;split at h
 ·simp only[bj,eW] at h;rw[←h.2];rfl
 ·split at h
  ·simp only[bj,eW] at h;rw[←h.2];rfl
  ·split at h
   ·split at h
    ·simp only[bj,eW] at h;rw[←h.2];simp [ag.aa]
    ·cases h
   ·cases h
section
variable{E:Env}(bo:E.F=.not)(ao:Nat→ae)
include bo
theorem pO{s s':ag}{v:ae}{a:Loc}{off:Nat}{vs:List ae}(h:ii E s .ok a off vs=.ok v s'):s'.aa=s.aa:=by
 simp only[ii,bo,aU.not] at h;split at h
 ·cases e:(Nat.ble (off+vs.length) _&&s.ho a vs&&vs.all ae.eG) with
  |false=>rw[e] at h;cases h
  |true=>
   rw[e,bX] at h;split at h
   ·rename_i r;simp only[ah.ok.injEq] at h;rw[←h.2];exact ag.jX r
   ·cases h
 ·cases h
theorem lJ{s s':ag}{v:ae}{f:Nat}{args:List ae}(h:eu E s .ok .panic f args=.ok v s'):s'.aa=s.aa:=by
 simp only[eu] at h;split at h
 ·rename_i fB r a1;cases e:Nat.beq r.aa s.aa with
  |false=>rw[e] at h;cases h
  |true=>rw[e,bX] at h;simp only[ah.ok.injEq] at h;rw[←h.2];exact dj e
 ·cases h
 ·cases h
theorem nX{s s':ag}{v:ae}{xs:List (Option Nat×ae)}{f:Nat}{args:List ae}(h:hW E s .ok .panic xs f args=.ok v s'):eu E s .ok .panic f args=.ok v s'∧∀x,x∈xs→∃l,eY s x.1 x.2=some l∧eY s' x.1 x.2=some l:=by
 simp only[hW,eu] at h ⊢;cases a1:E.call f args s<;> rw[a1] at h<;> try cases h
 rename_i fB r;simp only at h ⊢;cases u:Nat.beq r.aa s.aa with
 |false=>rw[u] at h;cases h
 |true=>
  rw[u,bX] at h;cases e:xs.all fun x=>nO (eY s x.1 x.2) (eY r x.1 x.2) with
  |false=>rw[e] at h;cases h
  |true=>rw[e,bX] at h;simp only[ah.ok.injEq] at h;obtain⟨rfl,rfl⟩:=h;refine⟨by simp,fun x a9=>?_⟩;exact xf.1 (List.all_eq_true.1 e x a9)
theorem sV{s s':ag}{v:ae}{m:Option Nat}{y:ae}{n:Nat}{a u:ae}(h:la E s .ok m y n a u=.ok v s'):fh E s .ok n a u=.ok v s'∧∃l,eY s m y=some l∧eY s' m y=some l:=by
 unfold la at h;rw[k5 bo s _ .panic n a u] at h;cases a3:fh E s .ok n a u with
 |fail=>rw[a3] at h;cases h
 |panic fB t=>rw[a3] at h;cases h
 |ok fB t=>
  rw[a3] at h;simp only[ah.bind] at h;cases e:nO (eY s m y) (eY t m y) with
  |false=>rw[e] at h;cases h
  |true=>rw[e] at h;simp only[bX,ah.ok.injEq] at h;obtain⟨rfl,rfl⟩:=h;exact⟨rfl,xf.1 e⟩
theorem gW{b:Bool}{x:ah}{v:ae}{s':ag}(h:(bif b then x else .fail)=.ok v s'):x=.ok v s':=by
 cases b with
 |true=>exact h
 |false=>cases h
theorem ys{s s':ag}{v:ae}{d x:ae}(h:copyV E s .ok d x=.ok v s'):s'.aa=s.aa:=by
 simp only[copyV,bo,aU.not] at h;split at h
 ·split at h
  ·split at h
   ·have h:=gW bo h;split at h
    ·rename_i e;simp only[ah.ok.injEq] at h;rw[←h.2];exact ag.jX e
    ·cases h
   ·cases h
  ·cases h
 ·cases h
theorem tD{s s':ag}{v:ae}{q b:Nat}{l:Loc}{x y:ae}(h:jY E s .ok q b l x y=.ok v s'):s'.aa=s.aa:=by
 simp only[jY,bo,aU.not] at h;split at h
 ·split at h
  ·have h:=gW bo h;split at h
   ·cases h
   ·split at h
    ·have h:=gW bo h;split at h
     ·rename_i e;simp only[ah.ok.injEq] at h;rw[←h.2];exact ag.lI e
     ·cases h
    ·split at h
     ·have h:=gW bo h;split at h
      ·rename_i r;simp only[ah.ok.injEq] at h;rw[←h.2];exact ag.jX r
      ·cases h
     ·cases h
    ·cases h
  ·cases h
 ·cases h
theorem oM{s s':ag}{v:ae}{q b:Nat}{l:Loc}{x y:ae}(h:hG E s .ok q b l x y=.ok v s'):s'.aa=s.aa:=by
 simp only[hG,bo,aU.not] at h;split at h
 ·cases h
 ·split at h
  ·have h:=gW bo h;split at h
   ·simp only[ah.ok.injEq] at h;rw[←h.2]
   ·split at h
    ·split at h
     ·rename_i e;simp only[ah.ok.injEq] at h;rw[←h.2];exact ag.lI e
     ·cases h
    ·split at h
     ·rename_i e;simp only[ah.ok.injEq] at h;rw[←h.2];exact ag.lI e
     ·cases h
    ·split at h
     ·have h:=gW bo h;split at h
      ·rename_i r;simp only[ah.ok.injEq] at h;rw[←h.2];exact ag.jX r
      ·cases h
     ·cases h
    ·cases h
  ·split at h
   ·have h:=gW bo h;split at h
    ·rename_i r;simp only[ah.ok.injEq] at h;rw[←h.2];exact ag.jX r
    ·cases h
   ·cases h
  ·cases h
theorem zU{op:f9}{s s':ag}{v:ae}(h:aL E ao s .ok .panic op=.ok v s'):s'.aa=s.aa:=by
 by_cases eJ:op.pz=0
 ·obtain⟨o,e⟩:=uZ bo ao eJ s.aa;rw[e s _ _ rfl] at h;cases o<;> simp [ga] at h;rw[h.2]
 by_cases ar:op.pz=1
 ·rw[sU bo ao ar h]
 cases op<;> simp only[f9.pz] at eJ ar<;> first|exact absurd trivial eJ|exact absurd trivial ar|skip
 all_goals simp only[aL] at h
 case oC x=>
  unfold mI at h;split at h
  ·split at h
   ·simp only[bo,aU.not] at h;have h:=gW bo h;simp only[ah.ok.injEq] at h;rw[←h.2];rfl
   ·cases h
  ·cases h
 case alloc z=>simp only[bo,aU.not,ah.ok.injEq] at h;rw[←h.2];rfl
 case jP x=>simp only[bo,aU.not] at h;have h:=gW bo h;simp only[ah.ok.injEq] at h;rw[←h.2];rfl
 case store n a u=>
  unfold fh at h;split at h
  ·exact pO bo (gW bo h)
  ·cases h
 case kZ m y n a u=>
  have h:=(sV bo h).1;unfold fh at h;split at h
  ·exact pO bo (gW bo h)
  ·cases h
 case makeSlice z b l c=>
  unfold m3 at h;split at h
  ·split at h
   ·simp only[bo,aU.not] at h;have h:=gW bo h;simp only[ah.ok.injEq] at h;rw[←h.2];rfl
   ·cases h
  ·cases h
 case call f xs=>simp only[bo,aU.not] at h;exact lJ bo h
 case eu f xs=>
  unfold k2 at h;split at h
  ·simp only[bo,aU.not] at h;exact lJ bo h
  ·cases h
 case ln ig f xs=>simp only[bo,aU.not] at h;exact lJ bo (nX bo h).1
 case jQ ig f xs=>
  unfold ke at h;split at h
  ·simp only[bo,aU.not] at h;exact lJ bo (nX bo h).1
  ·cases h
 case append=>
  unfold f7 at h;split at h
  ·exact oM bo h
  ·cases h
 case jD=>
  unfold l7 at h;split at h
  ·exact tD bo h
  ·cases h
 case gA=>unfold jH at h;simp only[bo,aU.not] at h;have h:=gW bo h;simp only[ah.ok.injEq] at h;rw[←h.2];rfl
 case gB=>unfold jI at h;simp only[bo,aU.not] at h;have h:=gW bo h;simp only[ah.ok.injEq] at h;rw[←h.2];rfl
 case jE=>
  unfold lU at h;simp only[bo,aU.not] at h;split at h
  ·cases h
  split at h
  ·cases h
  split at h
  ·have h:=gW bo h;simp only[ah.ok.injEq] at h;rw[←h.2];rfl
  ·split at h
   ·have h:=gW bo h;simp only[ah.ok.injEq] at h;rw[←h.2];rfl
   ·cases h
  ·cases h
 case jC=>
  unfold kH at h;split at h
  ·unfold f7 at h;split at h
   ·exact oM bo h
   ·cases h
  ·cases h
 case makeMap=>
  unfold lV at h;split at h
  ·split at h
   ·rename_i r;simp only[bo,aU.not,ah.ok.injEq] at h;rw[←h.2];exact ag.lI r
   ·cases h
  ·cases h
 case mH kx m x u=>
  unfold lb at h;split at h
  ·split at h
   ·have h:=gW bo h;split at h
    ·split at h
     ·rename_i A;simp only[bo,aU.not,ah.ok.injEq] at h;rw[←h.2];exact ag.jX A
     ·cases h
    ·cases h
   ·cases h
  ·cases h
 case copy q d x=>
  unfold lC at h;split at h
  ·exact ys bo (gW bo h)
  ·cases h
end
end Go.Ab
