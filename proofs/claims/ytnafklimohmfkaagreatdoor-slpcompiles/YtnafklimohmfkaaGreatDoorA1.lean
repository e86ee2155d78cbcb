/- What the claim's texts say of a part of the evaluator and of the program's functions: for every argument that they name. -/
import Derived.Test.YtnafklimohmfkaaGreatDoorA0
import Derived.Laws.IdiomStrings
import Derived.MapKept
import Derived.Laws.StructEq
set_option linter.unusedSectionVars false
set_option linter.unusedSimpArgs false
set_option linter.unusedVariables false
namespace Go.Ab
theorem CN(z:List AV)(v:Array Value)(hz:∀κ D,dS κ D z v.toList)(n:Nat):∀κ D,dS κ D (List.replicate n z).flatten (madeCells v (n * z.length)).toList:=by
 intro κ D
 have hl:v.size=z.length:=by simpa using (hz κ D).1
 refine⟨by simp [madeCells],fun j c x hc hx=>?_⟩
 simp only[madeCells,Array.toList_map,List.getElem?_map] at hx
 by_cases h0:z.length=0
 ·have:z=[]:=List.eq_nil_of_length_eq_zero h0
  subst this
  simp at hc
 ·have hj:j < n * z.length:=by
   have:=(bZ.1 hc).1
   simpa using this
  have hr:(Array.range (n * z.length)).toList[j]? =some j:=by simp [hj]
  rw[hr] at hx
  simp only[e9,bM] at hx
  have hm:j % z.length < z.length:=Nat.mod_lt _ (by omega)
  have nT:z[j % z.length]? =some c:=by
   have:∀(n j:Nat),j < n * z.length→(List.replicate n z).flatten[j]? =z[j % z.length]?:=by
    intro n
    induction n with
    | zero=>intro j hj;simp at hj
    | succ n ih=>
     intro j hj
     rw[List.replicate_succ,List.flatten_cons]
     by_cases h1:j < z.length
     ·rw[eZ h1,Nat.mod_eq_of_lt h1]
     ·rw[List.getElem?_append_right (by omega),ih _ (by rw[Nat.succ_mul] at hj;omega),←Nat.mod_eq_sub_mod (by omega)]
   rw[←this n j hj]
   exact hc
  have nW:v.toList[j % z.length]? =some x:=by
   have cM:j % v.size < v.size:=by rw[hl];exact hm
   rw[←hx]
   simp only[hl] at cM ⊢
   simp [hl,hm]
  exact(hz κ D).2 _ c x nT nW
section
variable{P:Program}{ty:TypeId}{ρ:Operand→Value}{κ:bR}{s:St}{w:World}(hs:dk κ s w)
include hs
theorem AH{E:Env}(hE:E.F= .not){k:AV→St→ax}{r:ax}(hf:r≠.fail){t el:TypeId}{z:List AV}{bytes:Nat}{l c:AV}{x y:Operand}(ht:P.underlying t=some (.slice el))(hz:lK P el z=true)(dM:fL P el=some z.length)(jN:(P.info? el).map (·.bytes)=some bytes)(T5:0 < bytes)
  (hx:VR κ (s.aa+1) (l.av s.aa) (ρ x))(hy:VR κ (s.aa+1) (c.av s.aa) (ρ y))(hr:ri E s k z bytes l c=r):∃v' s',k v' s'=r∧cW P (.makeSlice t x y) ty ρ κ s w v' s':=by
 unfold ri at hr
 cases hl:eE l with
 | none=>rw[hl] at hr;exact absurd hr.symm hf
 | some m=>
  cases hc:eE c with
  | none=>rw[hl,hc] at hr;exact absurd hr.symm hf
  | some n=>
   rw[hl,hc] at hr
   simp only[hE,a6.not] at hr
   obtain⟨hb,cG⟩:=cB hr hf
   rw[bD] at hb
   have h1:=dL hb.1
   have h2:=dL hb.2
   obtain⟨kl,rfl⟩:=kY hl
   obtain⟨kc,rfl⟩:=kY hc
   obtain⟨v,e,hv,_,i,hi,hiz⟩:=pP hz w
   have axF:i.size=z.length:=by simpa [fL,hi] using dM
   have T6:i.bytes=bytes:=by simpa [hi] using jN
   have aDv:(n:Int)≤9223372036854775807:=by
    have:n * 1≤n * bytes:=Nat.mul_le_mul_left _ T5
    omega
   have hmul:(i.bytes:Int) * (n:Int)≤281474976710656:=by
    have:(i.bytes:Int) * (n:Int)=((n * bytes:Nat):Int):=by rw[T6,Nat.mul_comm];simp
    omega
   have run:=run_make w t el i v ht hi hiz kl kc m n (by omega) (by omega) hmul aDv
   simp only[Int.toNat_natCast,axF] at run
   obtain⟨κ',g1,g2,g3,g4⟩:=hs.Bq (List.replicate n z).flatten (madeCells v.cells (n * z.length)) el (CN z v.cells hv n _ _) (w':=w.alloc (.cells (madeCells v.cells (n * z.length)) el)) rfl rfl rfl rfl
   refine⟨_,_,cG, .slice (some ⟨w.heap.size,0,none⟩) m n,κ',_, .inl (fun _ _ _ _=>?_),g2,g1,?_⟩
   ·simp [execOp,hx.eD,hy.eD,run]
   ·simp only[AV.av,Loc.av]
    rw[←g3]
    exact .ck _ _ _ _ _ _ _ (Nat.lt_succ_self _) g4 h1 (.inl rfl)
omit hs in
theorem rQ{vs:List AV}(h:vs.all AV.dU=true){D:Nat}{xs:List Value}(hv:dS κ D vs xs):∀x∈xs,x.oneCell'=true:=by
 intro x hx
 obtain⟨j,hj⟩:=List.mem_iff_getElem?.1 hx
 have cM:=(bZ.1 hj).1
 have YS:j < vs.length:=by rw[←hv.1];exact cM
 have hc:vs[j]? =some vs[j]:=d8 YS
 exact(hv.2 j _ x hc hj).aif (List.all_eq_true.1 h _ (List.mem_of_getElem? hc))
theorem rp{d i off:Nat}{cs:List AV}{xs:List Value}(hg:s.get (.g d i)=some (.cells cs))(ho:off+xs.length≤cs.length)(h1:∀x∈xs,x.oneCell'=true):
  (storeCells ⟨κ.loc d i,off,none⟩ xs).run P w= .ok () (w.setCells (κ.loc d i) off xs):=by
 obtain⟨⟨C,e,fz,c1,c2,c3,_⟩,c4⟩:=hs.obj d i _ hg
 have hCl:cs.length≤C.size:=by have:=c3.1;simp at this;omega
 have:=run_storeCells_cells (P:=P) (κ.loc d i) off xs 0 w (fun j hj=>by rw[fS c1];simp;omega) (fun j hj=>?_) h1
 ·simpa using this
 ·have hu:=c2 (off+0+j) (by omega)
  simp only[World.frozen?,c1]
  rw[Bool.and_eq_false_iff]
  by_cases l7:fz.1≤off+0+j
  ·right;simp only[decide_eq_false_iff_not];exact fun h=>hu ⟨l7,h⟩
  ·left;simpa using l7
omit hs in
theorem qS{a:Loc}{d i:Nat}(ha:a.av s.aa= .g d i){vs:List AV}{xs:List Value}(hv:dS κ (s.aa+1) vs xs)(h:s.iR a vs=true):dS κ (d+1) vs xs:=by
 unfold St.iR at h
 rcases Bool.or_eq_true _ _ ▸ h with h | h2
 rcases Bool.or_eq_true _ _ ▸ h with h1 | h1
 ·have:d=s.aa:=by
   cases a with
   | l j=>simp [Loc.av] at ha;exact ha.1.symm
   | g d' j=>simp [Loc.av] at ha;simp [St.At] at h1;omega
  subst this
  exact hv
 ·exact hv.bo h1 _ (fun _ _ h=>h)
 ·cases a with
  | l j=>cases h2
  | g e j=>
   simp only[Loc.av,Loc.g.injEq] at ha
   obtain⟨rfl,rfl⟩:=ha
   exact⟨hv.1,fun j c x hc hx=>(hv.2 j c x hc hx).lower (rL h2 hc)⟩
theorem JC{E:Env}(hE:E.F= .not){k:AV→St→ax}{r:ax}(hf:r≠.fail){t:TypeId}{n:Nat}{x y:Operand}{v u:AV}(hn:fL P t=some n)(hx:VR κ (s.aa+1) (v.av s.aa) (ρ x))(hy:VR κ (s.aa+1) u (ρ y))
  (hr:iS E s k n v u=r):∃v' s',k v' s'=r∧cW P (.store t x y) ty ρ κ s w v' s':=by
 cases v <;> simp only[AV.av] at hx <;> simp only[iS] at hr <;> try exact absurd hr.symm hf
 rename_i a off
 obtain⟨hb,cG⟩:=cB hr hf
 rw[bD] at hb
 have hlen:=cQ hb.2
 have JD:=hy.cells hb.1
 unfold lG at cG
 rw[←St.jn] at cG
 cases ha:a.av s.aa with
 | l i=>cases a <;> simp [Loc.av] at ha
 | g d i=>
  rw[ha] at cG hx
  obtain⟨e,hd,hi⟩:=hx.qh
  cases hg:s.get (.g d i) with
  | none=>rw[hg] at cG;exact absurd cG.symm hf
  | some o=>
   rw[hg] at cG
   cases o <;> try exact absurd cG.symm hf
   rename_i cs
   obtain⟨qj,oH⟩:=cB cG hf
   rw[bD,bD] at qj
   have h1:=dL qj.1.1
   simp only[hE,a6.not] at oH
   rw[←St.oF,ha] at oH
   cases dm:s.set (.g d i) (.cells (di cs off u.cells)) with
   | none=>rw[dm] at oH;exact absurd oH.symm hf
   | some s'=>
    rw[dm] at oH
    have nU:(ρ y).cells.toList.length=u.cells.length:=JD.1
    have Mq:=qS ha JD qj.1.2
    obtain⟨g1,g2⟩:=hs.store hg dm Mq h1
    have ko:=rp (P:=P) hs hg (off:=off) (xs:=(ρ y).cells.toList) (by omega) (rQ qj.2 JD)
    have dM:(ρ y).cells.size=n:=by rw[←Array.length_toList,nU,hlen]
    refine⟨_,_,oH,undef,κ,_, .inr ⟨fun _ _ _ _=>?_,rfl⟩,g2,g1, .dead _⟩
    simp [execOp,Instr.storeAt,e,Instr.sureAddr,storeVar,ef hn,dM,ko]
theorem ny{v:AV}{X:Value}{sz:Nat}{es:List AV}(hv:VR κ (s.aa+1) (v.av s.aa) X)(h:dl s v=some (sz,es)):
  ((∃bs a,v= .str bs∧X= .string a∧a.data.toList.map UInt8.toNat=bs∧sz=1∧es=bs.map fun b=>.int .u8 (b:Nat))∨
   (∃A c,X= .slice A es.length c∧(A=none→es=[])∧∀a,A=some a→Reads κ (s.aa+1) w a (es.flatMap AV.cells)))∧
  AV.ba es=true∧∀e,e∈es→e.cells.length=sz:=by
 cases v
 all_goals first | (simp [dl] at h;done) | skip
 case str bs=>
  simp only[dl,bM,Prod.mk.injEq] at h
  obtain⟨rfl,rfl⟩:=h
  obtain⟨a,rfl,ha⟩:=hv.jL
  refine⟨.inl ⟨bs,a,rfl,rfl,ha,rfl,rfl⟩,dX.2 (fun c hc=>?_),fun e he=>?_⟩
  ·obtain⟨b,_,rfl⟩:=List.mem_map.1 hc;rfl
  ·obtain⟨b,_,rfl⟩:=List.mem_map.1 he;rfl
 case sl z l g=>
  have key:(z=sz∧l=es)∧(AV.ba es=true∨∀a,g≠.bJ a):=by
   cases g with
   | bJ a=>
    simp only[dl] at h
    split at h
    ·rename_i hr
     simp only[bM,Prod.mk.injEq] at h
     exact⟨h, .inl (h.2 ▸ hr)⟩
    ·cases h
   | nil=>simp only[dl,bM,Prod.mk.injEq] at h;exact⟨h, .inr fun a e=>by cases e⟩
   | exact=>simp only[dl,bM,Prod.mk.injEq] at h;exact⟨h, .inr fun a e=>by cases e⟩
   | any=>simp only[dl,bM,Prod.mk.injEq] at h;exact⟨h, .inr fun a e=>by cases e⟩
  obtain⟨⟨rfl,rfl⟩,xy⟩:=key
  rcases hv.jF with⟨rfl,_,rfl⟩ | ⟨a,cap,aL,rfl,_,_,_,h4,h5,h6,h7⟩
  ·exact⟨.inr ⟨none,0,rfl,fun _=>rfl,fun a ha=>(by cases ha)⟩,rfl,fun e he=>(by simp at he)⟩
  ·refine⟨.inr ⟨some a,cap,rfl,fun ha=>(by cases ha),fun a' ha=>?_⟩,?_,h4⟩
   rotate_left
   ·rcases xy with hk | hk
    ·exact hk
    ·exact dX.2 (h5.left fun d j e=>by cases g <;> first | exact hk _ rfl | cases e)
   cases ha
   exact⟨aL,fun j hj=>(hs.kU _ _ (h6 j hj)).2,h7⟩
 case ck a off len cap z=>
  simp only[dl] at h
  rw[←St.jn] at h
  cases ha:a.av s.aa with
  | l i=>cases a <;> simp [Loc.av] at ha
  | g d i=>
   rw[ha] at h
   simp only[AV.av,ha] at hv
   obtain⟨rc,rfl,hd,hi,_⟩:=hv.nq
   cases hg:s.get (.g d i) with
   | none=>rw[hg] at h;cases h
   | some o=>
    rw[hg] at h
    cases o <;> first | (simp at h;done) | skip
    rename_i cs
    simp only at h
    split at h
    ·rename_i hc
     simp only[bM,Prod.mk.injEq] at h
     obtain⟨rfl,rfl⟩:=h
     simp only[bD,Bool.not_eq_true'] at hc
     have hz:z≠0:=fun h0=>by rw[h0] at hc;simp at hc
     have hle:=dL hc.1.2
     obtain⟨q1,q2⟩:=nw z hz len (cs.drop off) (by simp;omega)
     refine⟨.inr ⟨some ⟨κ.loc d i,off,none⟩,rc,(by rw[fT]),fun ha=>(by cases ha),fun a' ha=>?_⟩,hc.1.1,q2⟩
     cases ha
     rw[q1]
     obtain⟨aL,r1,r2⟩:=Az (sO hs hg off) (show d+1≤s.aa+1 by omega)
     refine⟨aL,fun j hj=>r1 j (by simp at hj ⊢;omega),fun j c hj=>r2 j c ?_⟩
     rw[List.getElem?_take] at hj
     split at hj
     ·exact hj
     ·cases hj
    ·cases h
end
section
variable{P:Program}{ty:TypeId}{ρ:Operand→Value}{κ:bR}{s:St}{w:World}(hs:dk κ s w)
theorem JE(b:ByteArray)(n:Nat)(κ:bR)(D:Nat):dS κ D (((b.data.toList.map UInt8.toNat).take n).map fun m=>AV.int .u8 (m:Nat)) ((b.extract 0 n).data.map fun c=>Value.int .u8 c.toNat).toList:=by
 have h0:(b.extract 0 n).data.toList=b.data.toList.take n:=by rw[rP];simp
 have hl:b.data.toList.length=b.size:=Array.length_toList
 refine⟨?_,fun j c x hc hx=>?_⟩
 ·rw[Array.toList_map,cw,h0];simp only[cw,List.length_take]
 ·rw[Array.toList_map,h0,List.getElem?_map] at hx
  rw[←List.map_take,List.map_map,List.getElem?_map] at hc
  cases hq:(b.data.toList.take n)[j]? with
  | none=>rw[hq] at hx;cases hx
  | some q=>
   rw[hq] at hx hc
   simp only[e9,bM,Function.comp] at hx hc
   rw[←hx,←hc]
   exact .int _ _
theorem fg{X:Value}{sz:Nat}{es:List AV}{v:AV}(h:(∃bs a,v= .str bs∧X= .string a∧a.data.toList.map UInt8.toNat=bs∧sz=1∧es=bs.map fun b=>.int .u8 (b:Nat))∨
   (∃A c,X= .slice A es.length c∧(A=none→es=[])∧∀a,A=some a→Reads κ (s.aa+1) w a (es.flatMap AV.cells)))(dM:∀e,e∈es→e.cells.length=sz)(n:Nat)(hn:n≤es.length)(w':World)(hw:∀a,w'.cell? a=w.cell? a):
  (Builtin.lenOf X).run P w'= .ok es.length w'∧∃xs:List Value,(Builtin.firstCells sz n X).run P w'= .ok xs.toArray w'∧dS κ (s.aa+1) ((es.take n).flatMap AV.cells) xs:=by
 rcases h with⟨bs,a,_,rfl,hb,rfl,rfl⟩ | ⟨A,c,rfl,h1,h2⟩
 ·have aDw:a.size=bs.length:=by have:=congrArg List.length hb;rw[cw,Array.length_toList] at this;exact this
  simp only[cw] at hn ⊢
  refine⟨by simp [Builtin.lenOf,aDw],((a.extract 0 n).data.map fun c=>Value.int .u8 c.toNat).toList,by simp only[Builtin.firstCells,Array.toArray_toList,Sem.run_pure],?_⟩
  have:=JE a n κ (s.aa+1)
  rw[hb] at this
  have e:(List.map (fun b=>AV.int IntKind.u8 ((b:Nat):Int)) bs).take n=(bs.take n).map fun m=>AV.int .u8 (m:Nat):=by rw[List.map_take]
  rw[e]
  have e2:∀l:List Nat,(l.map fun m=>AV.int .u8 (m:Nat)).flatMap AV.cells=l.map fun m=>AV.int .u8 (m:Nat):=by
   intro l
   induction l with
   | nil=>rfl
   | cons x l ih=>simp [List.flatMap_cons,ih,AV.cells]
  rw[e2]
  exact this
 ·refine⟨by simp [Builtin.lenOf],?_⟩
  cases A with
  | none=>
   have:=h1 rfl
   subst this
   have:n=0:=by simpa using hn
   subst this
   exact⟨[],by simp [Builtin.firstCells], .nil _ _⟩
  | some a=>
   have hr:=h2 a rfl
   have nY:=eU es sz dM
   have jm:Reads κ (s.aa+1) w' a (es.flatMap AV.cells):=by
    obtain⟨aL,r1,r2⟩:=hr
    exact⟨aL,fun j hj=>by rw[hw];exact r1 j hj,r2⟩
   have hle:n * sz≤(es.flatMap AV.cells).length:=by rw[nY];exact Nat.mul_le_mul_right _ hn
   obtain⟨xs,e,hx⟩:=Bs (P:=P) jm hle
   refine⟨xs,by simp only[Builtin.firstCells];exact e,?_⟩
   have:(es.flatMap AV.cells).take (n * sz)=(es.take n).flatMap AV.cells:=by
    have h3:es.flatMap AV.cells=(es.take n).flatMap AV.cells ++ (es.drop n).flatMap AV.cells:=by
     rw[←List.flatMap_append,List.take_append_drop]
    have h4:((es.take n).flatMap AV.cells).length=n * sz:=by
     rw[eU _ sz (fun e he=>dM e (List.mem_of_mem_take he)),List.length_take,Nat.min_eq_left hn]
    rw[h3,←h4,List.take_left]
   rw[←this]
   exact hx
theorem T7(Bw:Nat):∀(r c:Nat),Builtin.growBy Bw r c≤max c (Bw+(Bw+768) / 4):=by
 intro r
 induction r with
 | zero=>intro c;simp only[Builtin.growBy];omega
 | succ r ih=>
  intro c
  simp only[Builtin.growBy]
  split
  ·omega
  ·have:=ih (c+(c+768) / 4)
   omega
theorem nextslicecap_le{Bw pj:Nat}(h:pj < Bw):Builtin.nextslicecap Bw pj≤2 * Bw+400:=by
 unfold Builtin.nextslicecap
 split
 ·omega
 ·split
  ·omega
  ·have:=T7 Bw 4 pj
   omega
structure rq (P:Program) (t t2 el:TypeId) (sz bytes:Nat) (z:Value):Prop where
 ht:P.underlying t=some (.slice el)
 rT:(∃e',P.underlying t2=some (.slice e'))∨P.underlying t2=some .string
 info:∃i,P.info? el=some i∧i.size=sz∧i.bytes=bytes∧i.zero=some z
 zsz:z.cells.size=sz
 b0:0 < bytes
 b1:bytes≤1048576
theorem rq.size{t t2 el:TypeId}{sz bytes:Nat}{z:Value}(h:rq P t t2 el sz bytes z):fL P el=some sz:=by
 obtain⟨i,h1,h2,_⟩:=h.info
 simp [fL,h1,h2]
theorem run_append_fits{t t2 el:TypeId}{sz bytes:Nat}{z:Value}(h:rq P t t2 el sz bytes z){base:Option Addr}{fM kZ n:Nat}{X:Value}{xs:List Value}(hl:(Builtin.lenOf X).run P w= .ok n w)(hc:(Builtin.firstCells sz n X).run P w= .ok xs.toArray w)(hn:fM+n≤kZ)
  {w':World}(fD:match base with
   | some a=>(storeCells (a.add (fM * sz)) xs).run P w= .ok () w'
   | none=>w'=w):(Builtin.append_ #[t,t2] ty #[.slice base fM kZ,X]).run P w= .ok (.slice base (fM+n) kZ) w':=by
 cases base with
 | none=>
  subst fD
  rcases h.rT with⟨e',hd⟩ | hd <;> simp [Builtin.append_,run_underlying h.ht,run_underlying hd,ef h.size,hl,hc,hn]
 | some a=>
  simp only at fD
  rcases h.rT with⟨e',hd⟩ | hd <;> simp [Builtin.append_,run_underlying h.ht,run_underlying hd,ef h.size,hl,hc,hn,fD]
theorem kI{t t2 el:TypeId}{sz bytes:Nat}{z:Value}(h:rq P t t2 el sz bytes z){base:Option Addr}{fM kZ n:Nat}{X:Value}{os xs:List Value}(hl:(Builtin.lenOf X).run P w= .ok n w)
  (hc:(Builtin.firstCells sz n X).run P w.drew= .ok xs.toArray w.drew)(ho:(Builtin.firstCells sz fM (.slice base fM kZ)).run P w.drew= .ok os.toArray w.drew)
  (nU:xs.length=n * sz)(xz:os.length=fM * sz)(hn:kZ < fM+n)(hb:(fM+n) * bytes≤1099511627776):
  ∃cap C,fM+n≤cap∧C.size=cap * sz∧(∀j,j < (fM+n) * sz→C[j]? =(os ++ xs)[j]?)∧
   (Builtin.append_ #[t,t2] ty #[.slice base fM kZ,X]).run P w= .ok (.slice (some ⟨w.heap.size,0,none⟩) (fM+n) cap) (w.drew.alloc (.cells C el)):=by
 obtain⟨i,hi,axF,T6,hiz⟩:=h.info
 have aF5:(fM+n) * 1≤(fM+n) * bytes:=Nat.mul_le_mul_left _ h.b0
 have aDx:¬(fM+n≤kZ):=by omega
 have aF6:Builtin.nextslicecap (fM+n) kZ * bytes≤281474976710656:=by
  have h1:=nextslicecap_le hn
  have h2:Builtin.nextslicecap (fM+n) kZ * bytes≤(2 * (fM+n)+400) * bytes:=Nat.mul_le_mul_right _ h1
  have h3:(2 * (fM+n)+400) * bytes=2 * ((fM+n) * bytes)+400 * bytes:=by rw[Nat.add_mul,Nat.mul_assoc]
  have h4:=h.b1
  omega
 let cap:=(Question.appendCap (fM+n) kZ el).cut (w.tape w.drawn (.appendCap (fM+n) kZ el))
 have Bx:fM+n≤cap:=by simp only[cap,Question.cut];omega
 let C:Array Value:=os.toArray ++ xs.toArray ++ Builtin.zeroCells z.cells (cap - (fM+n))
 have hCs:C.size=cap * sz:=by
  have e1:(fM+n) * sz+(cap - (fM+n)) * sz=cap * sz:=by rw[←Nat.add_mul];congr 1;omega
  have e2:fM * sz+n * sz=(fM+n) * sz:=by rw[Nat.add_mul]
  simp only[C,Array.size_append,List.size_toArray,nU,xz,Builtin.zeroCells,Array.size_map,Array.size_range,h.zsz]
  omega
 refine⟨cap,C,Bx,hCs,fun j hj=>?_,?_⟩
 ·have e2:fM * sz+n * sz=(fM+n) * sz:=by rw[Nat.add_mul]
  simp only[C]
  rw[Array.getElem?_append_left (by simp only[Array.size_append,List.size_toArray,nU,xz];omega)]
  simp
 ·have h63:¬(9223372036854775807 < ((fM:Int)+(n:Int))):=by omega
  have h48:¬(281474976710656 < Builtin.nextslicecap (fM+n) kZ * i.bytes):=by rw[T6];omega
  have hq:(Question.appendCap (fM+n) kZ el).forced=false:=rfl
  have ax6:¬(fM+n≤kZ):=aDx
  rcases h.rT with⟨e',hd⟩ | hd <;> simp [Builtin.append_,run_underlying h.ht,run_underlying hd,ef h.size,typeInfo,hi,hl,ax6,h63,h48,hq,hc,ho,zeroValue,hiz,newRow,C,cap]
end
section
variable{P:Program}{ty:TypeId}{ρ:Operand→Value}{κ:bR}{s:St}{w:World}(hs:dk κ s w)
theorem jr{t t2:TypeId}{x y:Operand}{z:Value}{w':World}(h:(Builtin.append_ #[t,t2] ty #[ρ x,ρ y]).run P w= .ok z w')(dst:Option Tmp)(pos:String)(after:Array Edge)(guard:Option (Nat×Bool)):
  (execOp ρ ⟨dst, .call {callee:=.builtin .append,args:= #[x,y],argTypes:= #[t,t2]},ty,pos,after,guard⟩).run P w= .ok (.value z) w':=by
 simp [execOp,resolve,invoke,builtin,h]
theorem VR.JF{κ':bR}{D d i n sz cap b:Nat}{es:List AV}{xs:List Value}(hd:d < D)(hi:i < κ'.n d)(ht:κ'.tk d i es.length=some (⟨b,0,none⟩,cap,sz))(hn:es.length≤cap)(dM:∀e,e∈es→e.cells.length=sz)(hr:∀e,e∈es→e.low d=true)
  (hx:dS κ' D (es.flatMap AV.cells) xs)(hF:∀j,j < (es.flatMap AV.cells).length→κ'.F ⟨b,j,none⟩=xs[j]?)(hl:n=es.length):VR κ' D (.sl sz es (.bJ (.g d i))) (.slice (some ⟨b,0,none⟩) n cap):=by
 subst hl
 refine .sl sz es _ _ _ (fun j=>xs.getD j undef) ⟨hd,hi,ht⟩ hn (fun _=>rfl) dM (.inr ⟨d,i,rfl,hr⟩) (fun j hj=>?_) (fun j c hc=>?_)
 ·rw[f7 rfl]
  simp only[Nat.zero_add]
  rw[hF j hj]
  have:j < xs.length:=by rw[hx.1];exact hj
  simp [List.getD,this]
 ·obtain⟨y,hy,hv⟩:=hx.get hc
  have:xs.getD j undef=y:=by simp [List.getD,hy]
  rw[this]
  exact hv
include hs
def Form(κ:bR)(s:St)(w:World)(v:AV)(X:Value)(sz:Nat)(es:List AV):Prop:=
 (∃bs a,v= .str bs∧X= .string a∧a.data.toList.map UInt8.toNat=bs∧sz=1∧es=bs.map fun b=>.int .u8 (b:Nat))∨
   (∃A c,X= .slice A es.length c∧(A=none→es=[])∧∀a,A=some a→Reads κ (s.aa+1) w a (es.flatMap AV.cells))
theorem xA{t t2 el:TypeId}{sz bytes:Nat}{z:Value}(h:rq P t t2 el sz bytes z){x y:Operand}{es new:List AV}{base:Option Addr}{IB:Nat}{Y:AV}(hX:ρ x= .slice base es.length IB)(iq:Form κ s w Y (ρ y) sz new)(iL:∀e,e∈new→e.cells.length=sz)
  (nM:(∃A c,ρ x= .slice A es.length c∧(A=none→es=[])∧∀a,A=some a→Reads κ (s.aa+1) w a (es.flatMap AV.cells)))(dM:∀e,e∈es→e.cells.length=sz)(Bx:IB < es.length+new.length)(hb:(es.length+new.length) * bytes≤1099511627776){bl l:Loc}{s':St}(jN:s.gK bl (.tok (es.length+new.length))=some (l,s'))
  (hr:∀d i,l.av s.aa= .g d i→∀e,e∈es ++ new→e.low d=true):
  cW P (.call {callee:=.builtin .append,args:= #[x,y],argTypes:= #[t,t2]}) ty ρ κ s w (.sl sz (es ++ new) (.bJ l)) s':=by
 obtain⟨dd,ii,hl,DP⟩:=jX.by jN
 obtain⟨hlen,xs,hc,gY⟩:=fg (P:=P) iq iL new.length (Nat.le_refl _) w.drew (fun _=>rfl)
 have wD:=(fg (P:=P) iq iL new.length (Nat.le_refl _) w (fun _=>rfl)).1
 obtain⟨_,os,ho,vP⟩:=fg (P:=P) (X:=ρ x) (v:=.dead) (.inr nM) dM es.length (Nat.le_refl _) w.drew (fun _=>rfl)
 simp only[List.take_length] at gY vP
 have nU:xs.length=new.length * sz:=by rw[gY.1,eU new sz iL]
 have xz:os.length=es.length * sz:=by rw[vP.1,eU es sz dM]
 rw[hX] at ho
 obtain⟨cap,C,q1,q2,q3,q4⟩:=kI (ty:=ty) h (base:=base) (fM:=es.length) (kZ:=IB) wD hc ho nU xz Bx hb
 obtain⟨κ',g1,g2,g3,g4,g5⟩:=hs.YP (w':=w.drew.alloc (.cells C el)) C el (es.length+new.length) sz cap DP q2 q1 rfl rfl rfl rfl
 refine⟨_,κ',_, .inl (jr (by rw[hX];exact q4)),g2,g1,?_⟩
 simp only[AV.av,Gr.av,hl]
 have qk:∀e,e∈es ++ new→e.cells.length=sz:=fun e he=>by
  rcases List.mem_append.1 he with he | he
  ·exact dM e he
  ·exact iL e he
 refine VR.JF (Nat.lt_succ_of_le DP.le) g3 (by rw[dp];exact g4) (by rw[dp];exact q1) qk (hr dd ii hl) (xs:=os ++ xs) (by rw[List.flatMap_append];exact(vP.append gY).mono g2.k) (fun j hj=>?_) (by rw[dp])
 rw[eU _ sz qk,dp] at hj
 rw[g5 j hj,q3 j hj]
theorem By{t t2 el:TypeId}{sz bytes:Nat}{z:Value}(h:rq P t t2 el sz bytes z){x y:Operand}{es new:List AV}{base:Option Addr}{IB:Nat}{Y:AV}(hX:ρ x= .slice base es.length IB)(hY:VR κ (s.aa+1) (Y.av s.aa) (ρ y))(mH:dl s Y=some (sz,new))
  (nM:(∃A c,ρ x= .slice A es.length c∧(A=none→es=[])∧∀a,A=some a→Reads κ (s.aa+1) w a (es.flatMap AV.cells)))(dM:∀e,e∈es→e.cells.length=sz)(hr:∀e,e∈es→e.bo=true)(Bx:IB < es.length+new.length)(hb:(es.length+new.length) * bytes≤1099511627776){bl l:Loc}{s':St}(jN:s.gK bl (.tok (es.length+new.length))=some (l,s')):
  cW P (.call {callee:=.builtin .append,args:= #[x,y],argTypes:= #[t,t2]}) ty ρ κ s w (.sl sz (es ++ new) (.bJ l)) s':=by
 obtain⟨iq,T8,iL⟩:=ny hs hY mH
 refine xA hs h hX iq iL nM dM Bx hb jN fun d i _ e he=>AV.pi _ _ ?_
 rcases List.mem_append.1 he with he | he
 ·exact hr e he
 ·exact dX.1 T8 e he
theorem Bz{t t2 el:TypeId}{q bytes:Nat}{z:Value}(h:rq P t t2 el q bytes z){x y:Operand}{es new:List AV}{Y:AV}(iq:Form κ s w Y (ρ y) q new)(iL:∀e,e∈new→e.cells.length=q)(kJ:0 < new.length){a:Loc}{s':St}(hX:VR κ (s.aa+1) (.sl q es (.bJ (a.av s.aa))) (ρ x))
  (rU:s.get a=some (.tok es.length))(tH:(new.flatMap AV.cells).all AV.dU=true)(dm:s.set a (.tok (es.length+new.length))=some s')(v5:Av s a new=true)(BA:(es.length+new.length) * bytes≤1099511627776):
  cW P (.call {callee:=.builtin .append,args:= #[x,y],argTypes:= #[t,t2]}) ty ρ κ s w (.sl q (es ++ new) (.bJ a)) s':=by
 rw[←St.jn] at rU
 rw[←St.oF] at dm
 rcases hX.jF with⟨_,hg,_⟩ | ⟨A,cap,aL,e,hg,hn,hsp,h4,h5,h6,h7⟩
 ·cases hg
 cases ha:a.av s.aa with
 | l i=>cases a <;> simp [Loc.av] at ha
 | g d i=>
  rw[ha] at rU dm hg h5
  obtain⟨hd,hi,tF⟩:=hg
  have ax7:∀e,e∈new→e.low d=true:=by
   cases a with
   | l j=>
    simp only[Loc.av,Loc.g.injEq] at ha
    exact nS.1 (ha.1 ▸ v5)
   | g d' j=>
    simp only[Loc.av,Loc.g.injEq] at ha
    exact nS.1 (ha.1 ▸ v5)
  have aqb:∀e,e∈es→e.low d=true:=by
   rcases h5 with h5 | ⟨d',i',e',h5⟩
   ·exact fun e he=>AV.pi _ _ (h5 e he)
   ·cases e';exact h5
  obtain⟨b,aid,sz',t1,t2',⟨C0,e0,fz0,t3,t4,t5⟩,t6,t7⟩:=hs.obj d i _ rU
  rw[tF] at t1
  simp only[bM,Prod.mk.injEq] at t1
  obtain⟨rfl,rfl,rfl⟩:=t1
  have qk:∀e,e∈es ++ new→e.cells.length=q:=fun e he=>by
   rcases List.mem_append.1 he with he | he
   ·exact h4 e he
   ·exact iL e he
  have aim:∀e,e∈es ++ new→e.low d=true:=fun e he=>by
   rcases List.mem_append.1 he with he | he
   ·exact aqb e he
   ·exact ax7 e he
  have ax8:Reads κ (s.aa+1) w ⟨b,0,none⟩ (es.flatMap AV.cells):=⟨aL,fun j hj=>(hs.kU _ _ (h6 j hj)).2,h7⟩
  have nY:=eU es q h4
  by_cases BB:es.length+new.length≤cap
  ·
   obtain⟨hlen,xs,hc,gY⟩:=fg (P:=P) iq iL new.length (Nat.le_refl _) w (fun _=>rfl)
   simp only[List.take_length] at gY
   have nU:xs.length=new.length * q:=by rw[gY.1,eU new q iL]
   have axG:(es.length+new.length) * q≤C0.size:=by rw[t4];exact Nat.mul_le_mul_right _ BB
   rw[Nat.add_mul] at axG
   have h1:=rQ tH gY
   have fD:=run_storeCells_cells (P:=P) b (es.length * q) xs 0 w (fun j hj=>by rw[fS t3];simp;omega) (fun j hj=>by
    have hu:=t5 (es.length * q+0+j) (by omega)
    simp only[World.frozen?,t3]
    rw[Bool.and_eq_false_iff]
    by_cases l7:fz0.1≤es.length * q+0+j
    ·right;simp only[decide_eq_false_iff_not];exact fun h=>hu ⟨l7,h⟩
    ·left;simpa using l7) h1
   have ko:=run_append_fits (ty:=ty) h (base:=some ⟨b,0,none⟩) (fM:=es.length) (kZ:=cap) hlen hc BB (w':=w.setCells b (es.length * q) xs) (by
    have Mr:(⟨b,0,none⟩:Addr).add (es.length * q)=⟨b,es.length * q,none⟩:=by rw[f7 rfl];simp
    simp only[Mr]
    simpa using fD)
   obtain⟨κ',g1,g2,g3,g4⟩:=hs.aib rU tF dm (by omega) BB xs (by rw[nU];congr 1;omega)
   refine⟨_,κ',_, .inl (jr (by rw[e];exact ko)),g2,g1,?_⟩
   simp only[AV.av,Gr.av,ha]
   have hold:dS κ (s.aa+1) (es.flatMap AV.cells) ((List.range (es.length * q)).map aL):=by
    refine⟨by simp [nY],fun j c x hc hx=>?_⟩
    have hj:j < es.length * q:=by rw[←nY];exact(bZ.1 hc).1
    have:(List.range (es.length * q))[j]? =some j:=by simp [hj]
    rw[List.getElem?_map,this] at hx
    simp only[e9,bM] at hx
    exact hx ▸ h7 j c hc
   refine VR.JF hd (Nat.lt_of_lt_of_le hi (g2.k.n d hd)) (by rw[dp];exact g3) (by rw[dp];exact BB) qk aim (xs:=(List.range (es.length * q)).map aL ++ xs) (by rw[List.flatMap_append];exact(hold.append gY).mono g2.k) (fun j hj=>?_) (by rw[dp])
   rw[eU _ q qk,dp,Nat.add_mul] at hj
   by_cases Ml:j < es.length * q
   ·rw[eZ (by simpa using Ml)]
    have h8:=g2.k.F _ _ (h6 j (by rw[nY];exact Ml))
    rw[f7 rfl] at h8
    simp only[Nat.zero_add] at h8
    rw[h8]
    simp [Ml]
   ·rw[List.getElem?_append_right (by simp;omega)]
    obtain⟨m,rfl⟩:∃m,j=es.length * q+m:=⟨j - es.length * q,by omega⟩
    have hm:m < xs.length:=by omega
    rw[g4 m xs[m] (d8 hm)]
    simp [hm]
  ·
   obtain⟨hlen,xs,hc,gY⟩:=fg (P:=P) iq iL new.length (Nat.le_refl _) w.drew (fun _=>rfl)
   have wD:=(fg (P:=P) iq iL new.length (Nat.le_refl _) w (fun _=>rfl)).1
   obtain⟨_,os,ho,vP⟩:=fg (P:=P) (X:=ρ x) (v:=.dead) (.inr ⟨some ⟨b,0,none⟩,cap,e,fun ha=>(by cases ha),fun a' ha=>(by cases ha;exact ax8)⟩) h4 es.length (Nat.le_refl _) w.drew (fun _=>rfl)
   simp only[List.take_length] at gY vP
   have nU:xs.length=new.length * q:=by rw[gY.1,eU new q iL]
   have xz:os.length=es.length * q:=by rw[vP.1,nY]
   rw[e] at ho
   obtain⟨IC,C,q1,q2,q3,q4⟩:=kI (ty:=ty) h (base:=some ⟨b,0,none⟩) (fM:=es.length) (kZ:=cap) wD hc ho nU xz (by omega) BA
   obtain⟨κ',g1,g2,g3,g4⟩:=hs.aie (w':=w.drew.alloc (.cells C el)) rU dm (by omega) C el IC q q2 q1 rfl rfl rfl rfl
   refine⟨_,κ',_, .inl (jr (by rw[e];exact q4)),g2,g1,?_⟩
   simp only[AV.av,Gr.av,ha]
   refine VR.JF hd (Nat.lt_of_lt_of_le hi (g2.k.n d hd)) (by rw[dp];exact g3) (by rw[dp];exact q1) qk aim (xs:=os ++ xs) (by rw[List.flatMap_append];exact(vP.append gY).mono g2.k) (fun j hj=>?_) (by rw[dp])
   rw[eU _ q qk,dp] at hj
   rw[g4 j hj,q3 j hj]
theorem wa{E:Env}(hE:E.F= .not){k:AV→St→ax}{r:ax}(hf:r≠.fail){t t2 el:TypeId}{sz bytes:Nat}{z:Value}(h:rq P t t2 el sz bytes z){x y:Operand}{X Y:AV}
  (hX:VR κ (s.aa+1) (X.av s.aa) (ρ x))(hY:VR κ (s.aa+1) (Y.av s.aa) (ρ y)){bl:Loc}(hr:fC E s k sz bytes bl X Y=r):∃v' s',k v' s'=r∧cW P (.call {callee:=.builtin .append,args:= #[x,y],argTypes:= #[t,t2]}) ty ρ κ s w v' s':=by
 unfold fC at hr
 cases mH:dl s Y with
 | none=>rw[mH] at hr;exact absurd hr.symm hf
 | some p=>
  obtain⟨zz,new⟩:=p
  rw[mH] at hr
  obtain⟨iq,T8,iL⟩:=ny hs hY mH
  cases X <;> simp only[AV.av] at hX <;> simp only[hE,a6.not] at hr <;> try exact absurd hr.symm hf
  case sl q es g=>
   obtain⟨hb,cG⟩:=cB hr hf
   clear hr
   rw[bD,bD] at hb
   have T9:zz=sz:=cQ hb.1.1
   have Ms:q=sz:=cQ hb.1.2
   have BA:=dL hb.2
   subst T9
   subst Ms
   cases new with
   | nil=>
    simp only at cG
    refine⟨_,_,cG,?_⟩
    obtain⟨hlen,xs,hc,gY⟩:=fg (P:=P) iq iL 0 (Nat.le_refl _) w (fun _=>rfl)
    have rN:xs=[]:=List.eq_nil_of_length_eq_zero (by rw[gY.1];rfl)
    subst rN
    have:∃A cap,ρ x= .slice A es.length cap∧es.length≤cap:=by
     rcases hX.jF with⟨rfl,_,e⟩ | ⟨a,cap,_,e,_,hn,_⟩
     ·exact⟨none,0,e,Nat.le_refl _⟩
     ·exact⟨some a,cap,e,hn⟩
    obtain⟨A,cap,e,hn⟩:=this
    have ko:=run_append_fits (ty:=ty) h (base:=A) (fM:=es.length) (kZ:=cap) hlen hc (by simpa using hn) (w':=w) (by cases A with
     | none=>rfl
     | some a=>simp [storeCells])
    refine bA hs _ (jr (by rw[e];exact ko)) ?_
    simp only[AV.av,eh,Nat.add_zero]
    rw[←e]
    exact hX
   | cons c0 cs0=>
    simp only at cG
    generalize ic:c0 :: cs0=new at *
    have kJ:0 < new.length:=by rw[←ic];simp
    cases g with
    | any=>exact absurd cG.symm hf
    | nil=>
     simp only at cG
     cases jN:s.gK bl (.tok (es.length+new.length)) with
     | none=>rw[jN] at cG;exact absurd cG.symm hf
     | some p=>
     obtain⟨l,s₁⟩:=p
     rw[jN] at cG
     refine⟨_,_,cG,?_⟩
     rcases hX.jF with⟨rfl,_,e⟩ | ⟨a,cap,_,e,hg,_⟩
     ·exact By hs h e hY mH ⟨none,0,e,fun _=>rfl,fun a ha=>(by cases ha)⟩ (fun e he=>by simp at he) (fun e he=>by simp at he) (by simpa using kJ) BA jN
     ·simp [Gr.av,kg] at hg
    | exact=>
     simp only at cG
     cases jN:s.gK bl (.tok (es.length+new.length)) with
     | none=>rw[jN] at cG;exact absurd cG.symm hf
     | some p=>
     obtain⟨l,s₁⟩:=p
     rw[jN] at cG
     refine⟨_,_,cG,?_⟩
     rcases hX.jF with⟨_,hg,_⟩ | ⟨a,cap,aL,e,hg,hn,hsp,h4,h5,h6,h7⟩
     ·simp [Gr.av] at hg
     ·simp only[Gr.av,kg] at hg
      subst hg
      exact By hs h e hY mH ⟨some a,_,e,fun ha=>(by cases ha),fun a' ha=>(by cases ha;exact⟨aL,fun j hj=>(hs.kU _ _ (h6 j hj)).2,h7⟩)⟩ h4 (h5.left fun d j e=>(by cases e)) (by omega) BA jN
    | bJ a=>
     simp only at cG
     ·rw[←St.jn] at cG
      cases ha:a.av s.aa with
      | l i=>cases a <;> simp [Loc.av] at ha
      | g d i=>
       rw[ha] at cG
       cases rU:s.get (.g d i) with
       | none=>rw[rU] at cG;exact absurd cG.symm hf
       | some o=>
        rw[rU] at cG
        cases o <;> try exact absurd cG.symm hf
        rename_i n
        obtain⟨Mt,oH⟩:=cB cG hf
        rw[bD] at Mt
        have CO:n=es.length:=cQ Mt.1
        subst CO
        rw[←St.oF,ha] at oH
        cases dm:s.set (.g d i) (.tok (es.length+new.length)) with
        | none=>rw[dm] at oH;exact absurd oH.symm hf
        | some s'=>
         rw[dm] at oH
         refine⟨_,_,oH,?_⟩
         have aDz:s.get a=some (.tok es.length):=by rw[←St.jn,ha];exact rU
         have D7:s.set a (.tok (es.length+new.length))=some s':=by rw[←St.oF,ha];exact dm
         refine Bz hs h iq iL kJ hX aDz Mt.2 D7 ?_ BA
         unfold Av
         cases a <;> exact AV.kA _ _ T8
  case ck a off len cap q=>
   rw[←St.jn] at hr
   cases ha:a.av s.aa with
   | l i=>cases a <;> simp [Loc.av] at ha
   | g d i=>
    rw[ha] at hr hX
    obtain⟨rc,e,hd,hi,hlr,D8⟩:=hX.nq
    cases hg:s.get (.g d i) with
    | none=>rw[hg] at hr;exact absurd hr.symm hf
    | some o=>
     rw[hg] at hr
     cases o <;> try exact absurd hr.symm hf
     rename_i cs
     obtain⟨hb,cG⟩:=cB hr hf
     simp only[bD] at hb
     obtain⟨⟨⟨⟨⟨HI,qj⟩,Ua⟩,hb4⟩,hb5⟩,hb6⟩:=hb
     have T9:zz=sz:=cQ HI
     have Ms:q=sz:=cQ qj
     subst T9
     subst Ms
     have h3:=dL Ua
     have h4:=dL hb4
     rw[←St.oF,ha] at cG
     have nY:=eU new q iL
     cases dm:s.set (.g d i) (.cells (di cs (off+len * q) (new.flatMap AV.cells))) with
     | none=>rw[dm] at cG;exact absurd cG.symm hf
     | some s'=>
      rw[dm] at cG
      refine⟨_,_,cG,?_⟩
      obtain⟨hlen,xs,hc,gY⟩:=fg (P:=P) iq iL new.length (Nat.le_refl _) w (fun _=>rfl)
      simp only[List.take_length] at gY
      have hmul:off+(len+new.length) * q=off+len * q+new.length * q:=by rw[Nat.add_mul];omega
      have nU:xs.length=new.length * q:=by rw[gY.1,nY]
      have jM:AV.ba (new.flatMap AV.cells)=true:=dX.2 (fun c hc=>by
       obtain⟨e',D9,Ax⟩:=List.mem_flatMap.1 hc
       exact jK (dX.1 T8 e' D9) Ax)
      have Mq:=qS ha gY (by simp [St.iR,jM])
      obtain⟨g1,g2⟩:=hs.store hg dm Mq (by rw[nY];omega)
      have fD:=rp (P:=P) hs hg (off:=off+len * q) (xs:=xs) (by omega) (rQ hb6 gY)
      have aDB:rc=cap:=by
       rcases D8 with h | ⟨h5,h6,_⟩
       ·exact h
       ·omega
      subst aDB
      have ko:=run_append_fits (ty:=ty) h (base:=some ⟨κ.loc d i,off,none⟩) (fM:=len) (kZ:=rc) hlen hc h3 (w':=w.setCells (κ.loc d i) (off+len * q) xs) (by
       have Mr:(⟨κ.loc d i,off,none⟩:Addr).add (len * q)=⟨κ.loc d i,off+len * q,none⟩:=by rw[f7 rfl]
       simp only[Mr]
       exact fD)
      refine⟨_,κ,_, .inl (jr (by rw[e];exact ko)),g2,g1,?_⟩
      simp only[AV.av,ha]
      exact .ck d i off _ rc rc q hd hi h3 (.inl rfl)
theorem Ea{E:Env}(hE:E.F= .not){k:AV→St→ax}{r:ax}(hf:r≠.fail){t t2 el:TypeId}{sz bytes:Nat}{z:Value}(h:rq P t t2 el sz bytes z){x y:Operand}{X Y:AV}
  (hX:VR κ (s.aa+1) (X.av s.aa) (ρ x))(hY:VR κ (s.aa+1) (Y.av s.aa) (ρ y)){bl:Loc}(hr:mR E s k sz bytes bl X Y=r):∃v' s',k v' s'=r∧cW P (.call {callee:=.builtin .append,args:= #[x,y],argTypes:= #[t,t2]}) ty ρ κ s w v' s':=by
 unfold mR at hr
 cases Y <;> simp only[AV.av] at hY <;> simp only[hE,a6.not] at hr <;> try exact absurd hr.symm hf
 rename_i zz new gy
 cases X <;> simp only[AV.av] at hX <;> try exact absurd hr.symm hf
 rename_i q es g
 obtain⟨hb,cG⟩:=cB hr hf
 clear hr
 rw[bD,bD] at hb
 have T9:zz=sz:=cQ hb.1.1
 have Ms:q=sz:=cQ hb.1.2
 have BA:=dL hb.2
 subst T9
 subst Ms
 have AI:Form κ s w .dead (ρ y) q new∧∀e,e∈new→e.cells.length=q:=by
  rcases hY.jF with⟨rfl,_,e⟩ | ⟨a,cap,aL,e,_,_,_,h4,_,h6,h7⟩
  ·exact⟨.inr ⟨none,0,e,fun _=>rfl,fun a ha=>(by cases ha)⟩,fun e he=>(by simp at he)⟩
  ·exact⟨.inr ⟨some a,cap,e,fun ha=>(by cases ha),fun a' ha=>(by cases ha;exact⟨aL,fun j hj=>(hs.kU _ _ (h6 j hj)).2,h7⟩)⟩,h4⟩
 obtain⟨iq,iL⟩:=AI
 cases new with
 | nil=>exact absurd cG.symm hf
 | cons c0 cs0=>
  simp only at cG
  generalize ic:c0 :: cs0=new at *
  have kJ:0 < new.length:=by rw[←ic];simp
  cases g with
  | any=>exact absurd cG.symm hf
  | exact=>exact absurd cG.symm hf
  | nil=>
   simp only at cG
   obtain⟨v5,oH⟩:=cB cG hf
   cases jN:s.gK bl (.tok (es.length+new.length)) with
   | none=>rw[jN] at oH;exact absurd oH.symm hf
   | some p=>
   obtain⟨l,s₁⟩:=p
   rw[jN] at oH
   refine⟨_,_,oH,?_⟩
   rcases hX.jF with⟨rfl,_,e⟩ | ⟨a,cap,_,e,hg,_⟩
   ·refine xA hs h e iq iL ⟨none,0,e,fun _=>rfl,fun a ha=>(by cases ha)⟩ (fun e he=>by simp at he) (by simpa using kJ) BA jN fun d i hl e he=>?_
    simp only[List.nil_append] at he
    have hd:Av s bl new=true→∀e,e∈new→e.low d=true:=by
     intro v5
     cases bl with
     | l j=>
      simp only[St.gK,bM,Prod.mk.injEq] at jN
      obtain⟨rfl,_⟩:=jN
      simp only[Loc.av,Loc.g.injEq] at hl
      exact nS.1 (hl.1 ▸ v5)
     | g d' j=>
      simp only[St.gK] at jN
      split at jN
      ·rename_i hdd
       simp only[bM,Prod.mk.injEq] at jN
       obtain⟨rfl,_⟩:=jN
       simp only[Loc.av,Loc.g.injEq] at hl
       have:d'=d:=by omega
       exact nS.1 (this ▸ v5)
      ·split at jN
       ·split at jN
        ·simp only[bM,Prod.mk.injEq] at jN
         obtain⟨rfl,_⟩:=jN
         simp only[Loc.av,Loc.g.injEq] at hl
         exact nS.1 (hl.1 ▸ v5)
        ·cases jN
       ·cases jN
    exact hd v5 e he
   ·simp [Gr.av,kg] at hg
  | bJ a=>
   simp only at cG
   cases rU:s.get a with
   | none=>rw[rU] at cG;exact absurd cG.symm hf
   | some o=>
    rw[rU] at cG
    cases o <;> try exact absurd cG.symm hf
    rename_i n
    obtain⟨Mt,oH⟩:=cB cG hf
    rw[bD,bD] at Mt
    have CO:n=es.length:=cQ Mt.1.1
    subst CO
    cases dm:s.set a (.tok (es.length+new.length)) with
    | none=>rw[dm] at oH;exact absurd oH.symm hf
    | some s'=>
     rw[dm] at oH
     exact⟨_,_,oH,Bz hs h iq iL kJ hX rU Mt.1.2 dm Mt.2 BA⟩
theorem wE{G:Nat→AV}{fr:Nat→AV}{a:Act}(bS:FR κ s fr a)(hG:nV κ G){t el:TypeId}{sz:Nat}{z:List AV}{ps:List bG}{qs:List Operand}(ht:P.underlying t=some (.slice el))(dM:fL P el=some sz)(hz:lK P el z=true)(hzl:z.length=sz)
  (f8:¬(qs.length * sz > 2 ^ 24))(ct:dj ps qs=true){es:List AV}(nM:ps.map (fun x=>(aM G fr x).av s.aa)=es)(hr:AV.nN s.aa es=true)(hv:∀e,e∈es→e.fF=true∧e.cells.length=sz):
  cW P (.buildSlice t qs.length (qs.zipIdx.map fun p=>(p.2,p.1)).toArray) ty a.eval κ s w (.sl sz es (.bJ (.l s.own.length))) (s.new (.tok es.length)):=by
 obtain⟨v,e,h1,_,_⟩:=pP hz w
 have D5:v.cells.size=sz:=by rw[←Array.length_toList,(h1 κ 0).1,hzl]
 have hlen:es.length=qs.length:=by
  have:∀(ps:List bG) (qs:List Operand),dj ps qs=true→ps.length=qs.length:=by
   intro ps
   induction ps with
   | nil=>intro qs h;cases qs <;> simp [dj] at h ⊢
   | cons p ps ih=>intro qs h;cases qs with
    | nil=>simp [dj] at h
    | cons q qs=>simp only[dj,bD] at h;simp [ih qs h.2]
  simp [←nM,this ps qs ct]
 obtain⟨xs,e',gY⟩:=tU bS hG sz ps qs 0 es [] ((Array.range (qs.length * sz)).map (v.cells[· % v.cells.size]!)).toList ct nM.symm hv (by simp) (by simp)
 have ko:∀dst pos after guard,(execOp a.eval ⟨dst, .buildSlice t qs.length (qs.zipIdx.map fun p=>(p.2,p.1)).toArray,ty,pos,after,guard⟩).run P w= .ok (.value (.slice (some ⟨w.heap.size,0,none⟩) qs.length qs.length)) (w.alloc (.cells xs.toArray el)):=by
  intro dst pos after guard
  simp only[List.nil_append,Array.toArray_toList] at e'
  have hrb:=tz (parts:=((qs.zipIdx.map fun p=>(p.2,p.1)).toArray.map fun p=>(p.1,a.eval p.2))) ht dM e f8 (xs:=xs.toArray) (by
   rw[Array.toList_map,List.map_map]
   exact e')
  have hx:∀(o:Oper),o.op= .buildSlice t qs.length (qs.zipIdx.map fun p=>(p.2,p.1)).toArray→execOp a.eval o=(do pure (.value (←Instr.buildSlice t qs.length ((qs.zipIdx.map fun p=>(p.2,p.1)).toArray.map fun p=>(p.1,a.eval p.2)))):Sem Next):=by
   intro o ho
   unfold execOp
   rw[ho]
  rw[hx _ rfl,Sem.run_bind,hrb]
  rfl
 have qk:∀e,e∈es→e.cells.length=sz:=fun e he=>(hv e he).2
 have nU:xs.length=es.length * sz:=by rw[gY.1,eU _ sz qk]
 obtain⟨κ',g1,g2,g3,g4,g5⟩:=hs.YP (w':=w.alloc (.cells xs.toArray el)) xs.toArray el es.length sz es.length (jX.new s _) (by simpa using nU) (Nat.le_refl _) rfl rfl rfl rfl
 refine⟨_,κ',_, .inl ko,g2,g1,?_⟩
 simp only[AV.av,Gr.av,Loc.av]
 rw[←hlen]
 refine VR.JF (Nat.lt_succ_self _) g3 g4 (Nat.le_refl _) qk (nS.1 hr) (xs:=xs) (gY.mono g2.k) (fun j hj=>?_) rfl
 rw[eU _ sz qk] at hj
 rw[g5 j hj]
 simp
end
section
variable{P:Program}{ty:TypeId}{ρ:Operand→Value}{κ:bR}{s:St}{w:World}(hs:dk κ s w)
include hs
theorem Mu{E:Env}(hE:E.F= .not){k:AV→St→ax}{r:ax}(hf:r≠.fail){t t2 el:TypeId}{sz:Nat}(ht:P.underlying t=some (.slice el))(hz:fL P el=some sz){x y:Operand}{X Y:AV}(hq:∀a off len cap q,X= .ck a off len cap q→q=sz)
  (hX:VR κ (s.aa+1) (X.av s.aa) (ρ x))(hY:VR κ (s.aa+1) (Y.av s.aa) (ρ y))(hr:copyV E s k X Y=r):∃v' s',k v' s'=r∧cW P (.call {callee:=.builtin .copy,args:= #[x,y],argTypes:= #[t,t2]}) ty ρ κ s w v' s':=by
 cases X <;> simp only[AV.av] at hX <;> simp only[copyV] at hr <;> try exact absurd hr.symm hf
 rename_i a off len cap q
 obtain rfl:=hq _ _ _ _ _ rfl
 cases mH:dl s Y with
 | none=>rw[mH] at hr;exact absurd hr.symm hf
 | some p=>
  obtain⟨zz,es⟩:=p
  rw[mH] at hr
  obtain⟨iq,T8,iL⟩:=ny hs hY mH
  simp only at hr
  rw[←St.jn] at hr
  cases ha:a.av s.aa with
  | l i=>cases a <;> simp [Loc.av] at ha
  | g d i=>
   rw[ha] at hr hX
   obtain⟨rc,e,hd,hi,_⟩:=hX.nq
   cases hg:s.get (.g d i) with
   | none=>rw[hg] at hr;exact absurd hr.symm hf
   | some o=>
    rw[hg] at hr
    cases o <;> try exact absurd hr.symm hf
    rename_i cs
    simp only[hE,a6.not] at hr
    obtain⟨hb,cG⟩:=cB hr hf
    simp only[bD] at hb
    obtain⟨⟨HI,qj⟩,Ua⟩:=hb
    have T9:zz=q:=cQ HI
    subst T9
    have h2:=dL qj
    rw[←St.oF,ha] at cG
    obtain⟨hlen,xs,hc,gY⟩:=fg (P:=P) iq iL (min es.length len) (Nat.min_le_left _ _) w (fun _=>rfl)
    have nY:((es.take (min es.length len)).flatMap AV.cells).length=min es.length len * zz:=by
     rw[eU _ zz (fun e he=>iL e (List.mem_of_mem_take he)),List.length_take]
     congr 1
     omega
    have hmul:min es.length len * zz≤len * zz:=Nat.mul_le_mul_right _ (Nat.min_le_right _ _)
    have jM:AV.ba ((es.take (min es.length len)).flatMap AV.cells)=true:=dX.2 (fun c hc=>by
     obtain⟨e',D9,Ax⟩:=List.mem_flatMap.1 hc
     exact jK (dX.1 T8 e' (List.mem_of_mem_take D9)) Ax)
    cases dm:s.set (.g d i) (.cells (di cs off ((es.take (min es.length len)).flatMap AV.cells))) with
    | none=>rw[dm] at cG;exact absurd cG.symm hf
    | some s'=>
     rw[dm] at cG
     refine⟨_,_,cG,?_⟩
     have nU:xs.length=min es.length len * zz:=by rw[gY.1,nY]
     have Mq:=qS ha gY (by simp [St.iR,jM])
     obtain⟨g1,g2⟩:=hs.store hg dm Mq (by rw[nY];omega)
     have fD:=rp (P:=P) hs hg (off:=off) (xs:=xs) (by omega) (rQ Ua gY)
     have aIM:Nat.min es.length len=min es.length len:=rfl
     refine⟨.int .i64 (min es.length len:Nat),κ,_, .inl (fun _ _ _ _=>?_),g2,g1, .int _ _⟩
     simp only[execOp,resolve,invoke,builtin,List.map_toArray,List.map_cons,List.map_nil,Sem.run_bind,Sem.run_pure,Result.andThen_ok]
     have:(Builtin.copy_ #[t,t2] ty #[ρ x,ρ y]).run P w= .ok (goInt (min es.length len:Nat)) (w.setCells (κ.loc d i) off xs):=by
      simp [Builtin.copy_,run_underlying ht,e,hlen,ef hz,hc,fD]
     simp [this,goInt]
theorem xB{E:Env}(hE:E.F= .not){k:AV→St→ax}{r:ax}(hf:r≠.fail){o:Op}{x:Operand}(ho:∀dst pos after guard,(execOp ρ ⟨dst,o,ty,pos,after,guard⟩).run P w= .ok (.value (ρ x)) w){v:AV}
  (hx:VR κ (s.aa+1) (v.av s.aa) (ρ x))(hr:qQ E s k v=r):∃v' s',k v' s'=r∧cW P o ty ρ κ s w v' s':=by
 cases v <;> simp only[qQ] at hr <;> try exact absurd hr.symm hf
 rename_i a off len cap sz
 cases a with
 | g d i=>exact absurd hr.symm hf
 | l i=>
  simp only[AV.av,Loc.av] at hx
  obtain⟨rc,e,hd,hi,CL,D8⟩:=hx.nq
  have kh:s.own[i]? =s.get (.g s.aa i):=by simp [St.get]
  simp only at hr
  rw[kh] at hr
  cases hg:s.get (.g s.aa i) with
  | none=>rw[hg] at hr;exact absurd hr.symm hf
  | some ob=>
   rw[hg] at hr
   cases ob <;> try exact absurd hr.symm hf
   rename_i cs
   simp only[hE,a6.not] at hr
   obtain⟨hb,cG⟩:=cB hr hf
   simp only[bD,Bool.not_eq_true'] at hb
   have hz:sz≠0:=fun h0=>by rw[h0] at hb;simp at hb
   have hle:=dL hb.1.2
   obtain⟨C,el,fz,c1,c2,c3,c4⟩:=hs.DO (s':={s with own:=s.own.set i .gone}) hg (by simp [St.set])
   refine⟨_,_,cG,ρ x,_,_, .inl ho,c4,c3,?_⟩
   rw[e]
   simp only[AV.av]
   have JG:(if len=cap then Gr.exact else Gr.any).av s.aa=(if len=cap then Gr.exact else Gr.any):=by split <;> rfl
   rw[JG]
   obtain⟨q1,q2⟩:=nw sz hz len (cs.drop off) (by simp;omega)
   have hl:cs.length≤C.size:=by have:=c2.1;simp at this;omega
   have jM:len=cap→rc=cap:=fun h=>by rcases D8 with h1 | ⟨h1,h2,_⟩ <;> omega
   have key:VR (κ.freeze (κ.loc s.aa i) 0 C) (s.aa+1) (.sl sz (chunk sz len (cs.drop off)) (if len=cap then Gr.exact else Gr.any)) (.slice (some ⟨κ.loc s.aa i,off,none⟩) (chunk sz len (cs.drop off)).length rc):=by
    refine .sl sz _ _ _ _ (fun j=>C.getD (off+j) undef) ?_ (by rw[fT];exact CL) (fun _=>rfl) q2 (.inl fun e he=>dX.1 hb.1.1 e he) (fun j hj=>?_) (fun j c hc=>?_)
    ·by_cases h:len=cap
     ·simp [h,kg,fT,jM h]
     ·simp [h,kg]
    ·rw[q1] at hj
     simp at hj
     have cM:off+j < C.size:=by omega
     rw[f7 rfl]
     show(κ.freeze (κ.loc s.aa i) 0 C).F ⟨κ.loc s.aa i,off+j,none⟩=_
     rw[sK (Nat.zero_le _) cM]
     simp [Array.getD,cM]
    ·rw[q1,List.getElem?_take] at hc
     split at hc
     ·rw[List.getElem?_drop] at hc
      obtain⟨y,hy,hv⟩:=c2.get hc
      have cM:off+j < cs.length:=(bZ.1 hc).1
      have:C.getD (off+j) undef=y:=by
       rw[List.getElem?_take,if_pos cM] at hy
       have D4:C[off+j]? =some y:=by simpa using hy
       simp [Array.getD_eq_getD_getElem?,D4]
      rw[this]
      exact hv.mono c4.k
     ·cases hc
   rw[fT] at key
   exact key
theorem xC{E:Env}(hE:E.F= .not){k:AV→St→ax}{r:ax}(hf:r≠.fail){src dst el:TypeId}{x:Operand}{v:AV}(kX:P.underlying src=some .string)(pa:P.underlying dst=some (.slice el))(mH:P.underlying el=some (.int .u8))
  (hx:VR κ (s.aa+1) (v.av s.aa) (ρ x))(hr:iE E s k v=r):∃v',k v' s=r∧cW P (.convert src dst x) ty ρ κ s w v' s:=by
 cases v <;> simp only[AV.av] at hx <;> simp only[iE,hE,a6.not] at hr <;> try exact absurd hr.symm hf
 rename_i bs
 refine⟨_,hr,?_⟩
 obtain⟨a,ex,ha⟩:=hx.jL
 have dM:a.size=bs.length:=by have:=congrArg List.length ha;rw[cw,Array.length_toList] at this;exact this
 let cap:=grownCap w a.size 0 el
 let C:Array Value:=bytesRow a cap
 have Bx:a.size≤cap:=by simp only[cap,grownCap,Question.cut];omega
 have hCs:C.size=cap:=by
  simp only[C,bytesRow,Array.size_append,Array.size_map,Array.size_replicate]
  have:a.data.size=a.size:=rfl
  omega
 have e:=run_bytes_of_string (P:=P) w src dst el a kX pa mH
 obtain⟨g1,g2⟩:=hs.xn (w':=w.drew.alloc (.cells C el (C.size,C.size+1))) C el (C.size,C.size+1) rfl rfl rfl rfl
 refine⟨.slice (some ⟨w.heap.size,0,none⟩) a.size cap,_,_, .inl (fun _ _ _ _=>?_),g2,g1,?_⟩
 ·simp only[execOp,ex]
  simp [e,C,cap]
 ·simp only[AV.av,Gr.av]
  have e2:(bs.map fun b=>AV.int .u8 (b:Nat)).flatMap AV.cells=bs.map fun b=>AV.int .u8 (b:Nat):=by
   clear hr dM ha hx
   induction bs with
   | nil=>rfl
   | cons x l ih=>simp [List.flatMap_cons,ih,AV.cells]
  have HJ:(bs.map fun b=>AV.int .u8 (b:Nat)).length=a.size:=by rw[cw,dM]
  rw[←HJ]
  refine .sl 1 _ .any _ _ (fun j=>C.getD j undef) trivial (by rw[HJ];exact Bx) (fun _=>rfl) (fun e he=>?_) (.inl fun e he=>?_) (fun j hj=>?_) (fun j c hc=>?_)
  ·obtain⟨b,_,rfl⟩:=List.mem_map.1 he;rfl
  ·obtain⟨b,_,rfl⟩:=List.mem_map.1 he;rfl
  ·rw[e2,HJ] at hj
   rw[f7 rfl]
   simp only[Nat.zero_add]
   rw[sK (Nat.zero_le _) (by omega)]
   simp [Array.getD,show j < C.size by omega]
  ·rw[e2,List.getElem?_map] at hc
   cases hb:bs[j]? with
   | none=>rw[hb] at hc;cases hc
   | some b=>
    rw[hb] at hc
    simp only[e9,bM] at hc
    subst hc
    rw[←ha,List.getElem?_map] at hb
    cases hq:a.data.toList[j]? with
    | none=>rw[hq] at hb;cases hb
    | some q=>
     rw[hq] at hb
     simp only[e9,bM] at hb
     have hj:j < a.data.size:=by have:=(bZ.1 hq).1;simpa using this
     have:C[j]? =some (.int .u8 q.toNat):=by
      have hq':a.data[j]? =some q:=by simpa using hq
      show(a.data.map (fun b=>Value.int .u8 b.toNat) ++ Array.replicate (cap - a.size) (.int .u8 0))[j]? =_
      rw[Array.getElem?_append_left (by rw[Array.size_map];exact hj),Array.getElem?_map,hq']
      rfl
     simp only[Array.getD_eq_getD_getElem?,this,Option.getD_some,hb]
     exact .int _ _
end
theorem wb:∀(es:List AV) (bs:List Nat),mQ es=some bs→∃ns:List Int,es=ns.map (AV.int .u8)∧bs=ns.map Int.toNat∧∀n,n∈ns→n.toNat < 256
 | [],bs,h=>by
  simp only[mQ,bM] at h
  subst h
  exact⟨[],rfl,rfl,fun _ hn=>by cases hn⟩
 | e :: es,bs,h=>by
  unfold mQ at h
  split at h
  ·rename_i Mv
   simp at Mv
  ·rename_i n CK Mv
   simp only[List.cons.injEq] at Mv
   obtain⟨rfl,rfl⟩:=Mv
   split at h
   ·rename_i cM
    cases hb:mQ es with
    | none=>rw[hb] at h;cases h
    | some l=>
     rw[hb] at h
     simp only[e9,bM] at h
     subst h
     obtain⟨ns,h1,h2,h3⟩:=wb es l hb
     exact⟨n :: ns,by rw[h1];rfl,by rw[h2];rfl,fun m hm=>by
      rcases List.mem_cons.1 hm with rfl | hm
      ·exact cM
      ·exact h3 m hm⟩
   ·cases h
  ·cases h
theorem foldl_push:∀(ns:List Int) (s:ByteArray),(ns.foldl (fun r n=>r.push (UInt8.ofNat n.toNat)) s).data.toList=s.data.toList ++ ns.map fun n=>UInt8.ofNat n.toNat
 | [],s=>by simp
 | n :: ns,s=>by
  simp only[List.foldl_cons]
  rw[foldl_push ns]
  simp [ByteArray.push]
section
variable{P:Program}{ty:TypeId}{ρ:Operand→Value}{κ:bR}{s:St}{w:World}(hs:dk κ s w)
include hs
theorem xD{E:Env}(hE:E.F= .not){k:AV→St→ax}{r:ax}(hf:r≠.fail){src dst el:TypeId}{x:Operand}{v:AV}(kX:P.underlying src=some (.slice el))(mH:P.underlying el=some (.int .u8))(pa:P.underlying dst=some .string)
  (hx:VR κ (s.aa+1) (v.av s.aa) (ρ x))(hr:jk E s k v=r):∃v',k v' s=r∧cW P (.convert src dst x) ty ρ κ s w v' s:=by
 have cK:∀bs,v≠.str bs:=fun bs h=>by subst h;exact absurd hr.symm hf
 have jm:(match dl s v with
  | some (_,es)=>oV E s k ((mQ es).map .str)
  | none=>.fail)=r:=by
  unfold jk at hr
  split at hr
  ·exact absurd hr.symm hf
  ·exact hr
 cases YT:dl s v with
 | none=>rw[YT] at jm;exact absurd jm.symm hf
 | some p=>
  obtain⟨z,es⟩:=p
  rw[YT] at jm
  simp only at jm
  cases hb:mQ es with
  | none=>rw[hb] at jm;exact absurd jm.symm hf
  | some bs=>
   rw[hb] at jm
   simp only[e9,oV,hE,a6.not] at jm
   refine⟨_,jm,?_⟩
   obtain⟨ns,h1,h2,h3⟩:=wb es bs hb
   obtain⟨iq,_,_⟩:=ny hs hx YT
   rcases iq with⟨bs',a,rfl,_⟩ | ⟨A,c,hX,hA0,AD⟩
   ·exact absurd rfl (cK bs')
   have nY:es.flatMap AV.cells=ns.map (AV.int .u8):=by
    rw[h1]
    clear h1 h2 h3 hb YT AD hA0 hX
    induction ns with
    | nil=>rfl
    | cons n ns ih=>simp [List.flatMap_cons,ih,AV.cells]
   have hlen:es.length=ns.length:=by rw[h1,cw]
   have Mw:(ns.map fun n=>UInt8.ofNat n.toNat).map UInt8.toNat=bs:=by
    rw[h2,List.map_map]
    refine List.map_congr_left (fun n hn=>?_)
    simp only[Function.comp,UInt8.toNat_ofNat']
    exact Nat.mod_eq_of_lt (h3 n hn)
   cases A with
   | none=>
    have:es=[]:=hA0 rfl
    have Mx:ns=[]:=List.eq_nil_of_length_eq_zero (by rw[←hlen,this];rfl)
    subst Mx
    refine bA hs (.string .empty) (fun _ _ _ _=>?_) ?_
    ·simp only[execOp,hX]
     have e1:=run_convert_bytes_string (P:=P) w src dst el none es.length c kX mH pa
     have e2:(Conv.bytesToString (.slice none es.length c)).run P w= .ok (.string .empty) w:=by simp [Conv.bytesToString]
     rw[e2] at e1
     simp [e1]
    ·exact .str _ _ (by rw[←Mw];rfl)
   | some a=>
    obtain⟨aL,r1,r2⟩:=AD a rfl
    have k7:∀j v,(ns.map (Value.int .u8))[j]? =some v→w.cell? (a.add j)=some v:=fun j v hj=>by
     rw[List.getElem?_map] at hj
     cases hq:ns[j]? with
     | none=>rw[hq] at hj;cases hj
     | some n=>
      rw[hq] at hj
      simp only[e9,bM] at hj
      have Md:=(bZ.1 hq).1
      rw[r1 j (by rw[nY,cw];exact Md)]
      have:=r2 j (.int .u8 n) (by rw[nY,List.getElem?_map,hq];rfl)
      rw[this.eD,←hj]
    have hl:=run_loadCells_list (P:=P) w a (ns.map (Value.int .u8)) k7
    rw[cw,←hlen] at hl
    refine bA hs _ (fun _ _ _ _=>?_) (.str _ (ns.foldl (fun r n=>r.push (UInt8.ofNat n.toNat)) ByteArray.empty) ?_)
    ·simp only[execOp,hX]
     have e1:=run_convert_bytes_string (P:=P) w src dst el (some a) es.length c kX mH pa
     rw[run_bytesToString w a es.length c ns hl] at e1
     simp [e1]
    ·rw[foldl_push]
     rw[List.map_append,Mw]
     rfl
end
def nO:KD→TypeDesc→Bool
 | .int k, .int k'=>decide (k=k')
 | .str, .string=>true
 | .bool, .bool=>true
 | _,_=>false
theorem VR.My{κ:bR}{D:Nat}{v:AV}{x:Value}(h:VR κ D v x){d:Nat}:v.av d=v:=by
 cases h <;> try rfl
 rename_i sz es g a cap aL hg h1 h2 h3 h4 h5 h6
 cases g <;> try rfl
 rename_i l
 cases l with
 | l i=>exact absurd hg (by simp [kg])
 | g d i=>rfl
theorem YU{κ:bR}{D:Nat}{kd:KD}{d:TypeDesc}{x:AV}{X:Value}(hd:nO kd d=true)(hk:isKey kd x=true)(hx:VR κ D x X):MapKept.IsKey d X:=by
 cases kd <;> cases d <;> simp [nO] at hd <;> cases x <;> simp [isKey] at hk
 ·subst hd;subst hk;rw[hx.eD];rfl
 ·obtain⟨s,rfl,_⟩:=hx.jL;trivial
 ·rw[hx.iO];trivial
theorem Eb{κ:bR}{D:Nat}{kd:KD}{d:TypeDesc}{x y:AV}{X Y:Value}{b:Bool}(hd:nO kd d=true)(hk:isKey kd x=true)(hx:VR κ D x X)(hy:VR κ D y Y)(h:tN x y=some b):Instr.sameNow d X Y=some b∧(b=true→X=Y):=by
 unfold tN at h
 split at h
 ·rename_i k a k' a'
  split at h
  ·rename_i Ub
   subst Ub
   simp only[bM] at h
   rw[hx.eD,hy.eD]
   cases kd <;> simp [isKey] at hk
   cases d <;> simp [nO] at hd
   refine⟨by simp [Instr.sameNow,←h],fun hb=>?_⟩
   subst hb
   simp at h
   rw[h]
  ·cases h
 ·rename_i a a'
  simp only[bM] at h
  obtain⟨s,rfl,hs⟩:=hx.jL
  obtain⟨s',rfl,CP⟩:=hy.jL
  cases kd <;> simp [isKey] at hk
  cases d <;> simp [nO] at hd
  have key:s=s'↔a=a':=by
   rw[←hs,←CP]
   constructor
   ·rintro rfl;rfl
   ·intro e
    have:=(List.map_inj_right (f:=UInt8.toNat) (fun a b h=>UInt8.toNat_inj.1 h)).1 e
    cases s;cases s'
    simp at this
    rw[this]
  refine⟨?_,fun hb=>?_⟩
  ·simp only[Instr.sameNow,bM]
   rw[←h,Bool.eq_iff_iff,MapKept.bytes_beq,key]
   simp
  ·subst hb
   simp at h
   rw[key.2 h]
 ·simp only[bM] at h
  rw[hx.iO,hy.iO]
  cases kd <;> simp [isKey] at hk
  cases d <;> simp [nO] at hd
  refine⟨by simp [Instr.sameNow,←h],fun hb=>?_⟩
  subst hb
  simp at h
  rw[h]
 ·cases h
theorem qb.CY{κ:bR}{D:Nat}{p:AV×AV}{es:List (AV×AV)}{l:List MapEntry}(h:qb κ D (p :: es) l):∃e l',l=e :: l'∧VR κ D p.1 e.key∧VR κ D p.2 e.val∧qb κ D es l':=by
 cases l with
 | nil=>exact absurd h.1 (by simp)
 | cons e l'=>
  refine⟨e,l',rfl,(h.2 0 p e rfl rfl).1,(h.2 0 p e rfl rfl).2,by have:=h.1;simpa using this,fun j q f hq hf=>h.2 (j+1) q f (by simpa using hq) (by simpa using hf)⟩
theorem tV{κ:bR}{D:Nat}{kd:KD}{d:TypeDesc}{x:AV}{X:Value}(hd:nO kd d=true)(hk:isKey kd x=true)(hx:VR κ D x X):∀(es:List (AV×AV)) (l:List MapEntry) (i:Nat) (r:Option AV),qb κ D es l→findKey x es=some r→
  (r=none∧Instr.findNow d X l i=some none)∨∃v j e,r=some v∧Instr.findNow d X l i=some (some (i+j,e.val))∧l[j]? =some e∧e.key=X∧VR κ D v e.val
 | [],l,i,r,hm,h=>by
  have:l=[]:=List.eq_nil_of_length_eq_zero hm.1
  subst this
  simp only[findKey,bM] at h
  exact .inl ⟨h.symm,rfl⟩
 | (y,v) :: es,l,i,r,hm,h=>by
  obtain⟨e,l',rfl,hy,hv,Hq⟩:=hm.CY
  simp only[findKey] at h
  cases hb:tN x y with
  | none=>rw[hb] at h;cases h
  | some b=>
   rw[hb] at h
   obtain⟨h1,h2⟩:=Eb hd hk hx hy hb
   cases b with
   | true=>
    simp only[bM] at h
    exact .inr ⟨v,0,e,h.symm,by simp [Instr.findNow,h1],rfl,(h2 rfl).symm,hv⟩
   | false=>
    simp only at h
    rcases tV hd hk hx es l' (i+1) r Hq h with⟨e1,e2⟩ | ⟨v',j,e',e1,e2,e3,e4,e5⟩
    ·exact .inl ⟨e1,by simp [Instr.findNow,h1,e2]⟩
    ·refine .inr ⟨v',j+1,e',e1,?_,by simpa using e3,e4,e5⟩
     simp [Instr.findNow,h1,e2]
     omega
theorem wc{κ:bR}{D:Nat}{kd:KD}{d:TypeDesc}{x v:AV}{X V:Value}(hd:nO kd d=true)(hk:isKey kd x=true)(hx:VR κ D x X)(hv:VR κ D v V):∀(es:List (AV×AV)) (l:List MapEntry) (i:Nat) (CK:List (AV×AV)),qb κ D es l→putKey x v es=some CK→
  (Instr.findNow d X l i=some none∧∀clock,qb κ D CK (l ++ [{key:=X,val:=V,born:=clock}]))∨∃j e,Instr.findNow d X l i=some (some (i+j,e.val))∧l[j]? =some e∧e.key=X∧qb κ D CK (l.set j {e with key:=X,val:=V})
 | [],l,i,CK,hm,h=>by
  have:l=[]:=List.eq_nil_of_length_eq_zero hm.1
  subst this
  simp only[putKey,bM] at h
  subst h
  refine .inl ⟨rfl,fun clock=>⟨rfl,fun j p e hp he=>?_⟩⟩
  cases j with
  | zero=>simp at hp he;subst hp;subst he;exact⟨hx,hv⟩
  | succ j=>simp at hp
 | (y,u) :: es,l,i,CK,hm,h=>by
  obtain⟨e,l',rfl,hy,hu,Hq⟩:=hm.CY
  simp only[putKey] at h
  cases hb:tN x y with
  | none=>rw[hb] at h;cases h
  | some b=>
   rw[hb] at h
   obtain⟨h1,h2⟩:=Eb hd hk hx hy hb
   cases b with
   | true=>
    simp only[bM] at h
    subst h
    refine .inr ⟨0,e,by simp [Instr.findNow,h1],rfl,(h2 rfl).symm,by have:=hm.1;simpa using this,fun j p q hp hq=>?_⟩
    cases j with
    | zero=>
     simp at hp hq
     subst hp
     subst hq
     exact⟨by rw[h2 rfl];exact hy,hv⟩
    | succ j=>exact Hq.2 j p q (by simpa using hp) (by simpa using hq)
   | false=>
    simp only at h
    cases hp:putKey x v es with
    | none=>rw[hp] at h;cases h
    | some es₁=>
     rw[hp] at h
     simp only[e9,bM] at h
     subst h
     have cons:∀{l₁},qb κ D es₁ l₁→qb κ D ((y,u) :: es₁) (e :: l₁):=fun hm₁=>by
      refine⟨by simp [hm₁.1],fun j p q hp hq=>?_⟩
      cases j with
      | zero=>simp at hp hq;subst hp;subst hq;exact⟨hy,hu⟩
      | succ j=>exact hm₁.2 j p q (by simpa using hp) (by simpa using hq)
     rcases wc hd hk hx hv es l' (i+1) es₁ Hq hp with⟨e1,e2⟩ | ⟨j,e',e1,e2,e3,e4⟩
     ·exact .inl ⟨by simp [Instr.findNow,h1,e1],fun clock=>by simpa using cons (e2 clock)⟩
     ·refine .inr ⟨j+1,e',?_,by simpa using e2,e3,by simpa using cons e4⟩
      simp [Instr.findNow,h1,e1]
      omega
section
variable{P:Program}{ty:TypeId}{ρ:Operand→Value}{κ:bR}{s:St}{w:World}(hs:dk κ s w)
include hs
theorem Ec{E:Env}(hE:E.F= .not){k:AV→St→ax}{r:ax}(hf:r≠.fail){t:TypeId}{b:Option Loc}(hr:mV E s k b=r):∃v' s',k v' s'=r∧cW P (.makeMap t none) ty ρ κ s w v' s':=by
 unfold mV at hr
 cases b with
 | none=>exact absurd hr.symm hf
 | some b=>
  simp only at hr
  cases jN:s.gK b (.map []) with
  | none=>rw[jN] at hr;exact absurd hr.symm hf
  | some p=>
   obtain⟨l,s'⟩:=p
   rw[jN] at hr
   simp only[hE,a6.not] at hr
   obtain⟨dd,ii,hl,DP⟩:=jX.by jN
   obtain⟨κ',g1,g2,g3,g4⟩:=hs.ap5 (w':=w.alloc (.map #[] 0)) DP rfl rfl rfl rfl
   refine⟨_,_,hr, .map (some w.heap.size),κ',w.alloc (.map #[] 0), .inl (fun dst pos after guard=>?_),g2,g1,?_⟩
   ·simp [execOp,Instr.makeMap,Result.andThen]
   ·simp only[AV.av,hl]
    rw[←g3]
    exact .map dd ii (Nat.lt_succ_of_le DP.le) g4
theorem HK{E:Env}(hE:E.F= .not){k:AV→St→ax}{r:ax}(hf:r≠.fail){o:Op}{t kt et:TypeId}{d:TypeDesc}{kd:KD}(ht:P.underlying t=some (.map kt et))(Ed:P.underlying kt=some d)(hd:nO kd d=true){m x v:AV}{M X V:Value}
  (hm:VR κ (s.aa+1) (m.av s.aa) M)(hx:VR κ (s.aa+1) x X)(hv:VR κ (s.aa+1) v V)(ho:∀dst pos after guard,execOp ρ ⟨dst,o,ty,pos,after,guard⟩=(do Instr.mapUpdate t M X V;pure .skip:Sem Next))(hr:mh E s k kd m x v=r):
  ∃v' s',k v' s'=r∧cW P o ty ρ κ s w v' s':=by
 cases m <;> simp only[mh] at hr <;> try exact absurd hr.symm hf
 rename_i a
 simp only[AV.av] at hm
 rw[←St.jn] at hr
 cases ha:a.av s.aa with
 | l i=>cases a <;> simp [Loc.av] at ha
 | g e i=>
  rw[ha] at hr hm
  have hM:M= .map (some (κ.loc e i))∧e < s.aa+1∧i < κ.n e:=by cases hm;exact⟨rfl,by assumption,by assumption⟩
  obtain⟨rfl,he,hi⟩:=hM
  cases hg:s.get (.g e i) with
  | none=>rw[hg] at hr;exact absurd hr.symm hf
  | some ob=>
   rw[hg] at hr
   cases ob <;> try exact absurd hr.symm hf
   rename_i es
   simp only[hE,a6.not] at hr
   obtain⟨hb,cG⟩:=cB hr hf
   simp only[bD] at hb
   cases hp:putKey x v es with
   | none=>rw[hp] at cG;exact absurd cG.symm hf
   | some CK=>
    rw[hp] at cG
    simp only at cG
    rw[←St.oF,ha] at cG
    cases dm:s.set (.g e i) (.map CK) with
    | none=>rw[dm] at cG;exact absurd cG.symm hf
    | some s'=>
     rw[dm] at cG
     obtain⟨iJ,clock,h1,h2⟩:=hs.obj e i _ hg
     have hxv:=qS ha (dS.cons hx (dS.cons hv (dS.nil _ _))) hb.2
     have nW:=hxv.2 0 x X rfl rfl
     have xr:=hxv.2 1 v V rfl rfl
     have xy:=YU hd hb.1.1 nW
     rcases wc hd hb.1.1 nW xr es iJ.toList 0 CK h2 hp with⟨e1,e2⟩ | ⟨j,en,e1,e2,e3,e4⟩
     ·obtain⟨g1,g2⟩:=hs.YO (iJ:=iJ.push {key:=X,val:=V,born:=clock}) (clock:=clock+1) hg dm (by simpa using e2 clock)
      refine⟨_,_,cG,undef,κ,_, .inr ⟨fun dst pos after guard=>?_,rfl⟩,g2,g1, .dead _⟩
      rw[ho]
      simp [Instr.mapUpdate,run_underlying ht,MapKept.run_getObj_map h1,MapKept.run_checkKey Ed xy,MapKept.run_findKey Ed e1,MapKept.run_setObj_map _ h1,Result.andThen]
     ·have hj:iJ[j]? =some en:=by simpa using e2
      obtain⟨g1,g2⟩:=hs.YO (iJ:=iJ.modify j fun e=>{e with key:=X,val:=V}) (clock:=clock) hg dm (by
       have:(iJ.modify j fun e=>{e with key:=X,val:=V}).toList=iJ.toList.set j {en with key:=X,val:=V}:=by
        apply List.ext_getElem?
        intro q
        simp only[Array.getElem?_toList,Array.getElem?_modify,List.getElem?_set]
        by_cases hq:j=q
        ·subst hq
         have oT:j < iJ.toList.length:=(bZ.1 e2).1
         rw[if_pos rfl,if_pos rfl,if_pos oT,hj]
         rfl
        ·simp [hq]
       rw[this]
       exact e4)
      refine⟨_,_,cG,undef,κ,_, .inr ⟨fun dst pos after guard=>?_,rfl⟩,g2,g1, .dead _⟩
      rw[ho]
      simp only[Nat.zero_add] at e1
      have e5:(iJ[j]?.map MapEntry.key).getD X=X:=by rw[hj];exact e3
      simp [Instr.mapUpdate,run_underlying ht,MapKept.run_getObj_map h1,MapKept.run_checkKey Ed xy,MapKept.run_findKey Ed e1,MapKept.run_setObj_map _ h1,e5,MapKept.run_keyThatStays xy,Result.andThen]
theorem HL{E:Env}(hE:E.F= .not){k:AV→St→ax}{r:ax}(hf:r≠.fail){t kt et:TypeId}{x y:Operand}{d:TypeDesc}{kd:KD}{ok:Bool}{zero:AV}{i:TypeInfo}{Z:Value}(ht:P.underlying t=some (.map kt et))(Ed:P.underlying kt=some d)(hd:nO kd d=true)
  (hi:P.info? et=some i)(hiz:i.zero=some Z)(hz:iF zero Z=true){m u:AV}
  (hm:VR κ (s.aa+1) (m.av s.aa) (ρ x))(hx:VR κ (s.aa+1) u (ρ y))(hr:mi E s k kd zero ok m u=r):∃v',k v' s=r∧cW P (.lookup t x y ok) ty ρ κ s w v' s:=by
 unfold mi at hr
 obtain⟨hb,cG⟩:=cB hr hf
 clear hr
 have xy:=YU hd hb hx
 have hzr:(zeroValue et).run P w= .ok Z w:=by simp [zeroValue,typeInfo,hi,hiz]
 cases nM:entriesOf s m with
 | none=>rw[nM] at cG;exact absurd cG.symm hf
 | some es=>
  rw[nM] at cG
  simp only[hE,a6.not] at cG
  have aDE:∃l:Array MapEntry,qb κ (s.aa+1) es l.toList∧((ρ x= .map none∧l= #[])∨∃q clock,ρ x= .map (some q)∧w.heap[q]? =some (.map l clock)):=by
   cases m <;> simp only[entriesOf] at nM <;> try cases nM
   ·rename_i a
    simp only[AV.av] at hm
    rw[←St.jn] at nM
    cases ha:a.av s.aa with
    | l j=>cases a <;> simp [Loc.av] at ha
    | g e j=>
     rw[ha] at nM hm
     have hM:ρ x= .map (some (κ.loc e j))∧e < s.aa+1:=by
      generalize ρ x=q at hm
      cases hm;exact⟨rfl,by assumption⟩
     cases hg:s.get (.g e j) with
     | none=>rw[hg] at nM;cases nM
     | some ob=>
      rw[hg] at nM
      cases ob <;> simp only[bM] at nM <;> try cases nM
      obtain⟨iJ,clock,h1,h2⟩:=hs.obj e j _ hg
      refine⟨iJ,⟨h2.1,fun q p en hp Ee=>⟨((h2.2 q p en hp Ee).1).up (by have:=hM.2;omega),((h2.2 q p en hp Ee).2).up (by have:=hM.2;omega)⟩⟩,?_⟩
      exact .inr ⟨_,clock,hM.1,h1⟩
   ·have hM:ρ x= .map none:=by
     simp only[AV.av] at hm
     generalize ρ x=q at hm
     cases hm;rfl
    exact⟨#[],⟨rfl,fun q p en hp=>by simp at hp⟩, .inl ⟨hM,rfl⟩⟩
  obtain⟨l,hl,ko⟩:=aDE
  have hex:∀(a:Option (Nat×Value)) (V:Value),Instr.findNow d (ρ y) l.toList 0=some a→V=(match a with | some (_,v)=>v | none=>Z)→∀dst pos after guard,(execOp ρ ⟨dst, .lookup t x y ok,ty,pos,after,guard⟩).run P w= .ok (.value (if ok then .tuple #[V, .bool a.isSome] else V)) w:=by
   intro a V ha hV dst pos after guard
   have e1:(Instr.lookup t (ρ x) (ρ y) ok).run P w= .ok (if ok then .tuple #[V, .bool a.isSome] else V) w:=by
    rcases ko with⟨e,rfl⟩ | ⟨q,clock,e,h1⟩
    ·cases a with
     | none=>simp [Instr.lookup,run_underlying ht,e,MapKept.run_checkKey Ed xy,MapKept.run_findKey Ed ha,hzr,hV,Result.andThen]
     | some p=>simp [Instr.findNow] at ha
    ·cases a with
     | none=>simp [Instr.lookup,run_underlying ht,e,MapKept.run_getObj_map h1,MapKept.run_checkKey Ed xy,MapKept.run_findKey Ed ha,hzr,hV,Result.andThen]
     | some p=>simp [Instr.lookup,run_underlying ht,e,MapKept.run_getObj_map h1,MapKept.run_checkKey Ed xy,MapKept.run_findKey Ed ha,hV,Result.andThen]
   simp only[execOp,Sem.run_bind,e1,Result.andThen]
   rfl
  cases hfk:findKey u es with
  | none=>rw[hfk] at cG;exact absurd cG.symm hf
  | some fo=>
   rw[hfk] at cG
   obtain⟨hz1,hz2⟩:=sM zero Z hz
   rcases tV hd hb hx es l.toList 0 fo hl hfk with⟨rfl,e2⟩ | ⟨v,j,e,rfl,e2,e3,e4,e5⟩
   ·simp only at cG
    refine⟨_,cG,bA hs _ (hex none Z e2 rfl) ?_⟩
    cases ok with
    | true=>
     have:dS κ (s.aa+1) [zero, .bool false] [Z, .bool false]:=.cons (hz1 _ _) (.cons (.bool _) (.nil _ _))
     exact .cS _ _ this.1 this.2
    | false=>
     simp only[cond_false,co,↓reduceIte]
     rw[(hz1 κ (s.aa+1)).My]
     exact hz1 _ _
   ·simp only at cG
    refine⟨_,cG,bA hs _ (hex _ e.val e2 rfl) ?_⟩
    cases ok with
    | true=>
     have:dS κ (s.aa+1) [v, .bool true] [e.val, .bool true]:=.cons e5 (.cons (.bool _) (.nil _ _))
     exact .cS _ _ this.1 this.2
    | false=>
     simp only[cond_false,co,↓reduceIte]
     rw[e5.My]
     exact e5
end
structure TT where
 dt:Nat→Option TypeDesc
 info:Nat→Option (Nat×Nat×Value)
 az:Nat→List AV
 eqs:Nat→Bool
structure TT.OK (T:TT) (P:Program):Prop where
 dt:∀t d,T.dt t=some d→P.underlying t=some d
 info:∀t n b z,T.info t=some (n,b,z)→∃i,P.info? t=some i∧i.size=n∧i.bytes=b∧i.zero=some z
 eqs:∀t,T.eqs t=true→P.stoodInHeld t=false∧P.eqGuardType P.depth t=false
def k8(T:TT):Nat→List KD→List Field→Bool
 | _,[],[]=>true
 | j,k :: ks,f :: fs=>Nat.beq f.offset j && decide (f.name≠ "_") && (match T.dt f.type with
   | some d=>nO k d
   | none=>false) && k8 T (j+1) ks fs
 | _,_,_=>false
def axH(T:TT)(e:EK)(t:Nat)(d:TypeDesc):Bool:=
 match e,d with
 | .agg ks, .struct fs=>T.eqs t && k8 T 0 ks fs.toList
 | _,_=>false
def TT.size(T:TT)(t:Nat):Option Nat:=(T.info t).map (·.1)
def TT.bytes(T:TT)(t:Nat):Option Nat:=(T.info t).map (·.2.1)
def TT.zero(T:TT)(t:Nat)(z:List AV):Bool:=
 match T.info t with
 | some (_,_,v)=>qR z v.cells.toList
 | none=>false
def TT.load(T:TT)(t:Nat)(n:Option Nat):Bool:=
 match T.dt t with
 | some d=>match n with
  | none=>YQ d == false
  | some n=>YQ d == true && T.size t == some n
 | none=>false
section
variable{P:Program}{T:TT}(hT:T.OK P)
include hT
theorem TT.OK.size{t n:Nat}(h:T.size t=some n):fL P t=some n:=by
 unfold TT.size at h
 cases hi:T.info t with
 | none=>rw[hi] at h;cases h
 | some p=>
  obtain⟨n',b,z⟩:=p
  rw[hi] at h
  simp only[e9,bM] at h
  obtain⟨i,h1,h2,_⟩:=hT.info _ _ _ _ hi
  simp [fL,h1,h2,h]
theorem TT.OK.bytes{t n:Nat}(h:T.bytes t=some n):(P.info? t).map (·.bytes)=some n:=by
 unfold TT.bytes at h
 cases hi:T.info t with
 | none=>rw[hi] at h;cases h
 | some p=>
  obtain⟨n',b,z⟩:=p
  rw[hi] at h
  simp only[e9,bM] at h
  obtain⟨i,h1,_,h2,_⟩:=hT.info _ _ _ _ hi
  simp [h1,h2,h]
theorem TT.OK.zero{t:Nat}{z:List AV}(h:T.zero t z=true):lK P t z=true:=by
 unfold TT.zero at h
 cases hi:T.info t with
 | none=>rw[hi] at h;cases h
 | some p=>
  obtain⟨n',b,v⟩:=p
  rw[hi] at h
  obtain⟨i,h1,_,_,h2⟩:=hT.info _ _ _ _ hi
  simp only[lK,h1,jc,h2]
  exact h
theorem TT.OK.load{t:Nat}{n:Option Nat}(h:T.load t n=true):mD P t n=true:=by
 unfold TT.load at h
 cases hd:T.dt t with
 | none=>rw[hd] at h;cases h
 | some d=>
  rw[hd] at h
  have:=hT.dt _ _ hd
  cases n with
  | none=>simp only at h;simp [mD,qi,this];simpa using h
  | some n=>
   simp only[bD] at h
   have h2:=hT.size (by simpa using h.2:T.size t=some n)
   simp [mD,qi,this,h2]
   simpa using h.1
end
def nZ:Nat→List bG→List (Nat×Operand)→Bool
 | _,[],[]=>true
 | i,x :: xs,(j,y) :: ys=>Nat.beq i j && cg x y && nZ (i+1) xs ys
 | _,_,_=>false
theorem oU:∀(i:Nat) (xs:List bG) (ys:List (Nat×Operand)),nZ i xs ys=true→∃qs:List Operand,ys=(qs.zipIdx i).map (fun p=>(p.2,p.1))∧dj xs qs=true
 | _,[],[],_=>⟨[],rfl,rfl⟩
 | _,[],_ :: _,h=>by simp [nZ] at h
 | _,_ :: _,[],h=>by simp [nZ] at h
 | i,x :: xs,(j,y) :: ys,h=>by
  simp only[nZ,bD] at h
  obtain⟨qs,h1,h2⟩:=oU (i+1) xs ys h.2
  have kE:=cQ h.1.1
  subst kE
  exact⟨y :: qs,by simp [h1],by simp [dj,h.1.2,h2]⟩
def pQ(T:TT):List Field→Option (List (Nat×Nat))
 | []=>some []
 | f :: fs=>(T.size f.type).bind fun n=>(pQ T fs).map fun l=>(f.offset,n) :: l
theorem tA{P:Program}{T:TT}(hT:T.OK P):∀(fs:List Field) (l:List (Nat×Nat)),pQ T fs=some l→(fs.mapM fun f=>(fL P f.type).map fun n=>(f.offset,n))=some l
 | [],l,h=>by simp only[pQ,bM] at h;subst h;rfl
 | f :: fs,l,h=>by
  simp only[pQ] at h
  cases hn:T.size f.type with
  | none=>rw[hn] at h;cases h
  | some n=>
   rw[hn] at h
   cases hl:pQ T fs with
   | none=>rw[hl] at h;cases h
   | some l'=>
    rw[hl] at h
    simp only[jc,e9,bM] at h
    subst h
    rw[List.mapM_cons]
    simp [hT.size hn,tA hT fs l' hl]
def ID(a b:BinOp):Bool:=decide (a=b)
def eN(T:TT)(ao:ib)(op:Op):Bool:=
 match ao with
 | .move x | .tM x=>
  match op with
  | .move y | .assign y=>cg x y
  | _=>false
 | .pick c a b=>
  match op with
  | .pick c' a' b'=>cg c c' && cg a a' && cg b b'
  | _=>false
 | .alloc z=>
  match op with
  | .alloc t=>T.zero t z
  | _=>false
 | .dO x | .jE x=>
  match op with
  | .box _ y=>cg x y
  | _=>false
 | .build z ps=>
  match op with
  | .build t qs=>
   match T.dt t with
   | some (.struct fs)=>
    match pQ T fs.toList with
    | some pl=>T.zero t z && nu (pl.toArray[·]?) ps qs.toList
    | none=>false
   | some (.array _ el)=>
    match T.size el with
    | some sz=>T.zero t z && nu (fun i=>some (i * sz,sz)) ps qs.toList
    | none=>false
   | _=>false
  | _=>false
 | .buildSlice sz ps=>
  match op with
  | .buildSlice t len qs=>
   match T.dt t with
   | some (.slice el)=>
    T.size el == some sz && T.zero el (T.az el) && Nat.beq (T.az el).length sz && Nat.beq len ps.length && Nat.ble (len * sz) 16777216 && nZ 0 ps qs.toList
   | _=>false
  | _=>false
 | .load n x=>
  match op with
  | .load t y=>T.load t n && cg x y
  | _=>false
 | .store n x v=>
  match op with
  | .store t y u=>T.size t == some n && cg x y && cg v u
  | _=>false
 | .nilCheck x=>
  match op with
  | .nilCheck y=>cg x y
  | _=>false
 | .bin o x y=>
  match op with
  | .binOp o' _ x' y' _=>ID o o' && cg x x' && cg y y'
  | _=>false
 | .eq neg e x y=>
  match op with
  | .binOp o t x' y' _=>
   match T.dt t with
   | some d=>ID o (if neg then .neq else .eql) && (v3 e d || axH T e t d) && cg x x' && cg y y'
   | none=>false
  | _=>false
 | .un o x=>
  match op with
  | .unOp o' _ y=>decide (o=o') && cg x y
  | _=>false
 | .oE k x=>
  match op with
  | .convert src dst y=>
   match T.dt src,T.dt dst with
   | some _,some (.int k')=>decide (k=k') && cg x y
   | _,_=>false
  | _=>false
 | .sG x=>
  match op with
  | .convert src dst y=>
   match T.dt src,T.dt dst with
   | some _,some .string=>cg x y
   | _,_=>false
  | _=>false
 | .f6 x=>
  match op with
  | .convert src dst y=>
   match T.dt src,T.dt dst with
   | some (.slice el),some .string=>
    match T.dt el with
    | some (.int .u8)=>cg x y
    | _=>false
   | _,_=>false
  | _=>false
 | .ji x=>
  match op with
  | .convert src dst y=>
   match T.dt src,T.dt dst with
   | some .string,some (.slice el)=>
    match T.dt el with
    | some (.int .u8)=>cg x y
    | _=>false
   | _,_=>false
  | _=>false
 | .dD t x=>
  match op with
  | .makeInterface t' y=>
   match T.dt t with
   | some (.interface _)=>false
   | some _=>Nat.beq t t' && cg x y
   | none=>false
  | _=>false
 | .i5 f ez=>
  match op with
  | .makeFunc (.func f') first aiq=>Nat.beq f f' && Nat.beq first.size 0 && dj ez aiq.toList
  | _=>false
 | .makeSlice z bytes l c=>
  match op with
  | .makeSlice t l' c'=>
   match T.dt t with
   | some (.slice el)=>T.zero el z && T.size el == some z.length && T.bytes el == some bytes && Nat.blt 0 bytes && cg l l' && cg c c'
   | _=>false
  | _=>false
 | .gu x lo hi=>
  match op with
  | .slice t y lo' xE none=>
   match T.dt t with
   | some .string=>cg x y && ft lo lo' && ft hi xE
   | _=>false
  | _=>false
 | .slice sz x lo hi mx=>
  match op with
  | .slice t y lo' xE mx'=>
   match T.dt t with
   | some (.slice el)=>T.size el == some sz && cg x y && ft lo lo' && ft hi xE && ft mx mx' && (!mx.isSome || hi.isSome)
   | _=>false
  | _=>false
 | .kG sz len x lo hi mx=>
  match op with
  | .slice t y lo' xE mx'=>
   match T.dt t with
   | some (.array n el)=>Nat.beq n len && T.size el == some sz && cg x y && ft lo lo' && ft hi xE && ft mx mx' && (!mx.isSome || hi.isSome)
   | _=>false
  | _=>false
 | .mc sz bytes _ x y=>
  match op with
  | .call {callee:=.builtin .append,args:=⟨[x',y']⟩,argTypes:=⟨[t,t2]⟩}=>
   match T.dt t with
   | some (.slice el)=>
    match T.info el with
    | some (n,b,z)=>
     (match T.dt t2 with
      | some (.slice _) | some .string=>true
      | _=>false) && Nat.beq n sz && Nat.beq b bytes && Nat.beq z.cells.size sz && Nat.blt 0 bytes && Nat.ble bytes 1048576 && cg x x' && cg y y'
    | none=>false
   | _=>false
  | _=>false
 | .nf sz bytes _ x y=>
  match op with
  | .call {callee:=.builtin .append,args:=⟨[x',y']⟩,argTypes:=⟨[t,t2]⟩}=>
   match T.dt t with
   | some (.slice el)=>
    match T.info el with
    | some (n,b,z)=>
     (match T.dt t2 with
      | some (.slice _) | some .string=>true
      | _=>false) && Nat.beq n sz && Nat.beq b bytes && Nat.beq z.cells.size sz && Nat.blt 0 bytes && Nat.ble bytes 1048576 && cg x x' && cg y y'
    | none=>false
   | _=>false
  | _=>false
 | .kP sz bytes x y=>
  match op with
  | .call {callee:=.builtin .append,args:=⟨[x',y']⟩,argTypes:=⟨[t,t2]⟩}=>
   match T.dt t with
   | some (.slice el)=>
    match T.info el with
    | some (n,b,z)=>
     (match T.dt t2 with
      | some (.slice _) | some .string=>true
      | _=>false) && Nat.beq n sz && Nat.beq b bytes && Nat.beq z.cells.size sz && Nat.blt 0 bytes && Nat.ble bytes 1048576 && cg x x' && cg y y'
    | none=>false
   | _=>false
  | _=>false
 | .iD sz ps=>
  match op with
  | .buildSlice t len qs=>
   match T.dt t with
   | some (.slice el)=>
    T.size el == some sz && T.zero el (T.az el) && Nat.beq (T.az el).length sz && Nat.beq len ps.length && Nat.ble (len * sz) 16777216 && nZ 0 ps qs.toList
   | _=>false
  | _=>false
 | .fieldAddr off x=>
  match op with
  | .fieldAddr t y i=>
   match T.dt t with
   | some (.struct fs)=>
    match fs[i]? with
    | some f=>
     match T.size f.type with
     | some n=>Nat.beq f.offset off && Nat.blt 0 n && cg x y
     | none=>false
    | none=>false
   | _=>false
  | _=>false
 | .field off n x=>
  match op with
  | .field t y i=>
   match T.dt t with
   | some (.struct fs)=>
    match fs[i]? with
    | some f=>Nat.beq f.offset off && T.load f.type n && cg x y
    | none=>false
   | _=>false
  | _=>false
 | .gh sz x i=>
  match op with
  | .indexAddr t y j=>
   match T.dt t with
   | some (.slice el)=>T.size el == some sz && cg x y && cg i j
   | _=>false
  | _=>false
 | .gz sz len x i=>
  match op with
  | .indexAddr t y j=>
   match T.dt t with
   | some (.array n el)=>Nat.beq n len && T.size el == some sz && cg x y && cg i j
   | _=>false
  | _=>false
 | .cO x i=>
  match op with
  | .index t y j=>
   match T.dt t with
   | some .string=>cg x y && cg i j
   | _=>false
  | _=>false
 | .sH sz len n x i=>
  match op with
  | .index t y j=>
   match T.dt t with
   | some (.array m el)=>Nat.beq m len && T.size el == some sz && T.load el n && cg x y && cg i j
   | _=>false
  | _=>false
 | .extract x i=>
  match op with
  | .extract y j=>Nat.beq i j && cg x y
  | _=>false
 | .call f xs | .jI f xs=>
  match op with
  | .call c=>
   match c.callee with
   | .value (.func f')=>Nat.beq f f' && dj xs c.args.toList
   | _=>false
  | _=>false
 | .cV f xs | .pc f xs=>
  match op with
  | .call c=>
   match c.callee with
   | .value g=>cg f g && dj xs c.args.toList
   | _=>false
  | _=>false
 | .len b x=>
  match op with
  | .call {callee:=.builtin .len,args:=⟨[y]⟩,argTypes:=⟨[t]⟩}=>
   match T.dt t with
   | some .string=>b && cg x y
   | some (.slice _)=> !b && cg x y
   | _=>false
  | _=>false
 | .append sz bytes _ x y=>
  match op with
  | .call {callee:=.builtin .append,args:=⟨[x',y']⟩,argTypes:=⟨[t,t2]⟩}=>
   match T.dt t with
   | some (.slice el)=>
    match T.info el with
    | some (n,b,z)=>
     (match T.dt t2 with
      | some (.slice _) | some .string=>true
      | _=>false) && Nat.beq n sz && Nat.beq b bytes && Nat.beq z.cells.size sz && Nat.blt 0 bytes && Nat.ble bytes 1048576 && cg x x' && cg y y'
    | none=>false
   | _=>false
  | _=>false
 | .copy sz x y=>
  match op with
  | .call {callee:=.builtin .copy,args:=⟨[x',y']⟩,argTypes:=⟨[t,_]⟩}=>
   match T.dt t with
   | some (.slice el)=>T.size el == some sz && cg x x' && cg y y'
   | _=>false
  | _=>false
 | .min xs=>
  match op with
  | .call c=>
   match c.callee with
   | .builtin .min=>dj xs c.args.toList
   | _=>false
  | _=>false
 | .max xs=>
  match op with
  | .call c=>
   match c.callee with
   | .builtin .max=>dj xs c.args.toList
   | _=>false
  | _=>false
 | .makeMap _=>
  match op with
  | .makeMap _ none=>true
  | _=>false
 | .mB kd m x v=>
  match op with
  | .mapUpdate t m' x' v' | .insert t m' x' v'=>
   match T.dt t with
   | some (.map kt _)=>
    match T.dt kt with
    | some d=>nO kd d && cg m m' && cg x x' && cg v v'
    | none=>false
   | _=>false
  | _=>false
 | .lookup kd z ok m x=>
  match op with
  | .lookup t m' x' ok'=>
   match T.dt t with
   | some (.map kt et)=>
    match T.dt kt,T.info et with
    | some d,some (_,_,Z)=>nO kd d && iF z Z && (ok == ok') && cg m m' && cg x x'
    | _,_=>false
   | _=>false
  | _=>false
 | .kO _ f xs=>
  match op with
  | .call c=>
   match c.callee with
   | .value (.func f')=>Nat.beq f f' && dj xs c.args.toList
   | _=>false
  | _=>false
 | .lF _ f xs=>
  match op with
  | .call c=>
   match c.callee with
   | .value g=>cg f g && dj xs c.args.toList
   | _=>false
  | _=>false
 | .w7 neg x=>
  match op with
  | .binOp o t x' (.const .nilIface) _=>
   match T.dt t with
   | some (.interface _)=>ID o (if neg then .neq else .eql) && cg x x'
   | _=>false
  | _=>false
 | .no=>true
theorem VR.qT{κ:bR}{D:Nat}{v:AV}{x:Value}(h:VR κ D v x)(d:Nat):v.av d=v:=by
 cases h <;> try rfl
 rename_i sz es g a cap aL hg h1 h2 h3 h4 h5 h6
 cases g <;> try rfl
 rename_i l
 cases l with
 | l i=>exact absurd hg (by simp [kg])
 | g d i=>rfl
theorem IE{P:Program}{w:World}{κ:bR}{D:Nat}(f:AV→AV→Option AV)(g:Value→Value→Sem Value)
  (hfg:∀x y z X Y,f x y=some z→VR κ D x X→VR κ D y Y→∃Z,(g X Y).run P w= .ok Z w∧VR κ D z Z):∀(ys:List AV) (Ys:List Value) (x v:AV) (X:Value),DF f x ys=some v→VR κ D x X→dS κ D ys Ys→
   ∃V,(Ys.foldlM g X).run P w= .ok V w∧VR κ D v V
 | [],Ys,x,v,X,h,hx,Mz=>by
  simp only[DF,bM] at h
  have:Ys=[]:=List.eq_nil_of_length_eq_zero Mz.1
  subst this
  subst h
  exact⟨X,by simp,hx⟩
 | y :: ys,Ys,x,v,X,h,hx,Mz=>by
  cases Ys with
  | nil=>exact absurd Mz.1 (by simp)
  | cons Y Ys=>
   simp only[DF] at h
   cases hz:f x y with
   | none=>rw[hz] at h;cases h
   | some z=>
    rw[hz] at h
    simp only[jc] at h
    obtain⟨Z,h1,h2⟩:=hfg x y z X Y hz hx (Mz.2 0 y Y rfl rfl)
    obtain⟨V,h3,h4⟩:=IE f g hfg ys Ys z v Z h h2 ⟨by have:=Mz.1;simpa using this,fun j c y hc hy=>Mz.2 (j+1) c y (by simpa using hc) (by simpa using hy)⟩
    exact⟨V,by simp [List.foldlM_cons,h1,h3],h4⟩
section
variable{P:Program}{ty:TypeId}{κ:bR}{s:St}{w:World}
theorem agD(x y z:AV)(X Y:Value)(h:min2 x y=some z)(hx:VR κ (s.aa+1) x X)(hy:VR κ (s.aa+1) y Y):∃Z,(Builtin.min2 X Y).run P w= .ok Z w∧VR κ (s.aa+1) z Z:=by
 cases x <;> cases y <;> simp [min2] at h
 subst h
 rw[hx.eD,hy.eD]
 exact⟨_,by simp only[Builtin.min2];rfl, .int _ _⟩
theorem agE(x y z:AV)(X Y:Value)(h:max2 x y=some z)(hx:VR κ (s.aa+1) x X)(hy:VR κ (s.aa+1) y Y):∃Z,(Builtin.max2 X Y).run P w= .ok Z w∧VR κ (s.aa+1) z Z:=by
 cases x <;> cases y <;> simp [max2] at h
 subst h
 rw[hx.eD,hy.eD]
 exact⟨_,by simp only[Builtin.max2];rfl, .int _ _⟩
theorem k9{fr:Nat→AV}{a:Act}{G:Nat→AV}(hf:FR κ s fr a)(hG:nV κ G):∀(xs:List bG) (ys:List Operand),dj xs ys=true→dS κ (s.aa+1) (xs.map fun x=>(aM G fr x).av s.aa) (ys.map a.eval)
 | [],[],_=>.nil _ _
 | [],_ :: _,h=>by simp [dj] at h
 | _ :: _,[],h=>by simp [dj] at h
 | x :: xs,y :: ys,h=>by
  simp only[dj,bD] at h
  exact .cons (bH hf hG h.1) (k9 hf hG xs ys h.2)
def qm(κ:bR)(s:St)(w:World)(v:AV)(s':St)(x:Value)(w':World):Prop:=∃κ',iA κ s w κ' s' w'∧dk κ' s' w'∧VR κ' (s.aa+1) (v.av s.aa) x
def tB(P:Program)(o:Op)(ty:TypeId)(ρ:Operand→Value)(κ:bR)(s:St)(w:World)(v:AV)(s':St):Prop:=
 cW P o ty ρ κ s w v s'∨∃f xs,(∀dst pos after guard,(execOp ρ ⟨dst,o,ty,pos,after,guard⟩).run P w= .ok (.enter f xs) w)∧Calls P f xs w fun e w'=>∃x,e= .returned x∧qm κ s w v s' x w'
structure sP (P:Program) (E:Env):Prop where
 loop:∃n,∀step aK fr s k,E.loop step aK fr s k=cY step aK n fr s k
 rV:∀f args s v s',E.call f args s≠.panic v s'
 ok:∀f args s v s' κ w xs,E.call f args s= .ok v s'→dk κ s w→nV κ E.aP→dS κ (s.aa+1) args xs→
  (∃x w',(callFunc f xs.toArray).run P w= .ok (.value x) w'∧qm κ s w v s' x w')∨
  ((callFunc f xs.toArray).run P w= .ok (.enter f xs.toArray) w∧Calls P f xs.toArray w fun e w'=>∃x,e= .returned x∧qm κ s w v s' x w')
theorem HM{E:Env}(hC:sP P E)(hs:dk κ s w)(hG:nV κ E.aP){f:Nat}{args:List AV}{v:AV}{s':St}{xs:List Value}{o:Op}{ρ:Operand→Value}(h:E.call f args s= .ok v s')(hx:dS κ (s.aa+1) args xs)
  (ho:∀dst pos after guard,execOp ρ ⟨dst,o,ty,pos,after,guard⟩=callFunc f xs.toArray):tB P o ty ρ κ s w v s':=by
 rcases hC.ok f args s v s' κ w xs h hs hG hx with⟨x,w',h1,κ',h2,h3,h4⟩ | ⟨h1,h2⟩
 ·exact .inl ⟨x,κ',w', .inl (fun dst pos after guard=>by rw[ho];exact h1),h2,h3,h4⟩
 ·exact .inr ⟨f,xs.toArray,fun dst pos after guard=>by rw[ho];exact h1,h2⟩
theorem qm.pure(hs:dk κ s w){v:AV}{mo:St}{x:Value}{w':World}(h:qm {κ with n:=fun _=>0} {own:=[],up:=[],ro:=[]} w v mo x w')(hv:v.bo=true):qm κ s w v s x w':=by
 obtain⟨κ',h1,h2,h3⟩:=h
 have tR:∀b,¬Live {κ with n:=fun _=>0} {own:=[],up:=[],ro:=[]} b:=fun b ⟨d,i,o,hg,_⟩=>by simp [St.get] at hg
 have hk:jd κ {κ with F:=κ'.F} (s.aa+1):=⟨fun a v h=>h1.k.F a v h,fun _ _=>Nat.le_refl _,fun _ _ _ _=>rfl,fun _ _ _ _ _ _ h=>h⟩
 refine⟨{κ with F:=κ'.F},⟨hk,rfl,h1.size,h1.os,h1.tape,h1.output,fun b hb _=>h1.chg b hb (tR b),fun b hb hl=>?_,fun a ha=>?_⟩,?_,?_⟩
 ·obtain⟨d,i,o,hg,gl⟩:=hl
  exact⟨d,i,o,hg,gl⟩
 ·rcases h1.TS a ha with q | q | q
  ·exact .inl q
  ·exact .inr (.inl q)
  ·exact absurd q (tR _)
 ·refine hs.world hk rfl rfl (fun a v h=>h2.kU a v h) (fun b hb=>⟨h1.chg b (hs.mj hb) (tR b),fun o=>?_⟩)
  show κ'.F ⟨b,o,none⟩=κ.F ⟨b,o,none⟩
  cases hq:κ.F ⟨b,o,none⟩ with
  | some v=>exact h1.k.F _ _ hq
  | none=>
   cases hq':κ'.F ⟨b,o,none⟩ with
   | none=>rfl
   | some v=>
    rcases h1.TS ⟨b,o,none⟩ (by rw[hq'];simp) with q | q | q
    ·exact absurd hq q
    ·exact absurd (hs.mj hb) (Nat.not_lt.2 q)
    ·exact absurd q (tR _)
 ·have Ef:VR κ' (({own:=[],up:=[],ro:=[]}:St).aa+1) v x:=by rw[lJ hv] at h3;exact h3
  rw[lJ hv]
  exact Ef.bo hv _ (fun _ _ h=>h)
theorem Eg{E:Env}(hC:sP P E)(hs:dk κ s w)(hG:nV κ E.aP){f:Nat}{args:List AV}{v:AV}{mo:St}{xs:List Value}{o:Op}{ρ:Operand→Value}(h:E.call f args {own:=[],up:=[],ro:=[]}= .ok v mo)(hv:v.bo=true)(hx:dS κ (s.aa+1) args xs)(hr:AV.ba args=true)
  (ho:∀dst pos after guard,execOp ρ ⟨dst,o,ty,pos,after,guard⟩=callFunc f xs.toArray):tB P o ty ρ κ s w v s:=by
 have nW:dS {κ with n:=fun _=>0} (({own:=[],up:=[],ro:=[]}:St).aa+1) args xs:=⟨hx.1,fun j c x hc rN=>(hx.2 j c x hc rN).bo (kz hr hc) _ (fun _ _ h=>h)⟩
 have hG':nV {κ with n:=fun _=>0} E.aP:=fun n=>⟨(hG n).1.bo (hG n).2 _ (fun _ _ h=>h),(hG n).2⟩
 rcases hC.ok f args _ v mo _ w xs h hs.empty hG' nW with⟨x,w',h1,h2⟩ | ⟨h1,h2⟩
 ·obtain⟨κ',q1,q2,q3⟩:=h2.pure hs hv
  exact .inl ⟨x,κ',w', .inl (fun dst pos after guard=>by rw[ho];exact h1),q1,q2,q3⟩
 ·exact .inr ⟨f,xs.toArray,fun dst pos after guard=>by rw[ho];exact h1,h2.mono fun e w' ⟨x,he,hA⟩=>⟨x,he,hA.pure hs hv⟩⟩
theorem n3{ρ:Operand→Value}{c:Call}{f:Nat}{xs:Array Value}(hc:∃y,c.callee= .value y∧ρ y= .func (.func f) #[] xs):∀dst pos after guard,execOp ρ ⟨dst, .call c,ty,pos,after,guard⟩=callFunc f (c.args.toList.map ρ ++ xs.toList).toArray:=by
 intro dst pos after guard
 obtain⟨y,hy,e⟩:=hc
 have h1:resolve ρ c ty=(Pure.pure {target:=.fn (.func f) xs,args:= #[] ++ c.args.map ρ}:Sem Deferred):=by
  simp only[resolve,hy,e,Deferred.ofValue]
 have h2:(#[] ++ c.args.map ρ) ++ xs=(c.args.toList.map ρ ++ xs.toList).toArray:=by
  apply Array.ext'
  simp
 show(do let d←resolve ρ c ty;invoke d.target d.args)=_
 rw[h1]
 show invoke (.fn (.func f) xs) (#[] ++ c.args.map ρ)=_
 simp only[invoke,h2]
end
theorem dk.Uc{κ κ':bR}{s:St}{w:World}(hs:dk κ s w)(o:bg)(hk:jd κ κ' (s.aa+1))(hn:∀d,κ'.n d=if d=s.aa then κ.n d+1 else κ.n d)(tF:∀d i m,i < κ.n d→κ'.tk d i m=κ.tk d i m)(hF:κ'.F=κ.F)
  (DL:OR κ' s.aa s.own.length w o)(hb:∀b,bU κ' s.aa s.own.length o=some b→¬Live κ s b):dk κ' (s.new o) w:=by
 have ic:=jX.new s o
 have key:∀d i o,s.get (.g d i)=some o→OR κ' d i w o∧bU κ' d i o=bU κ d i o:=fun d i o h=>
  (hs.obj d i o h).aK (hs.xk h) (hk.low (by have:=St.kV h;omega)) (fun m=>tF d i m (hs.xk h)) (fun b gl=>⟨rfl,fun x=>by rw[hF]⟩)
 refine⟨fun a v h=>hs.kU a v (hF ▸ h),fun d l h=>?_,fun d i o' h=>?_,fun d i o₁ d' i' o₂ b h h' e e'=>?_⟩
 ·rw[ic.fr] at h
  rw[hn]
  split at h
  ·rename_i hd
   cases hf:s.fr d with
   | none=>rw[hf] at h;cases h
   | some l'=>
    rw[hf] at h
    simp only[e9,bM] at h
    rw[←h,if_pos hd,←hs.len d l' hf]
    simp
  ·rename_i hd
   rw[if_neg hd]
   exact hs.len d l h
 ·rw[ic.get] at h
  split at h
  ·rename_i hc
   obtain⟨rfl,rfl⟩:=hc
   simp only[bM] at h
   exact h ▸ DL
  ·exact(key d i o' h).1
 ·rw[ic.get] at h h'
  split at h
  ·rename_i hc
   obtain⟨rfl,rfl⟩:=hc
   simp only[bM] at h
   subst h
   split at h'
   ·rename_i nT
    exact⟨nT.1.symm,nT.2.symm⟩
   ·rw[(key d' i' o₂ h').2] at e'
    exact absurd ⟨d',i',o₂,h',e'⟩ (hb b e)
  ·split at h'
   ·rename_i nT
    obtain⟨rfl,rfl⟩:=nT
    simp only[bM] at h'
    subst h'
    rw[(key d i o₁ h).2] at e
    exact absurd ⟨d,i,o₁,h,e⟩ (hb b e')
   ·rw[(key d i o₁ h).2] at e
    rw[(key d' i' o₂ h').2] at e'
    exact hs.inj d i o₁ d' i' o₂ b h h' e e'
theorem dk.MA{κ:bR}{s:St}{w:World}(hs:dk κ s w){i:Nat}{o:bg}(hg:s.own[i]? =some o):dk κ {s with own:=s.own.set i .gone} w∧iA κ s w κ {s with own:=s.own.set i .gone} w:=by
 have qg:s.get (.g s.aa i)=some o:=by simp [St.get,hg]
 exact hs.setObj qg (o':=.gone) (by simp [St.set]) (.refl _ _) rfl (fun _ _ _ _=>rfl) (fun a v h=>hs.kU a v h) (fun b hb cK=>⟨rfl,fun _=>rfl⟩) (Nat.le_refl _) rfl rfl rfl trivial (fun b hb=>by simp [bU] at hb)
def bR.row(κ:bR)(D I b n cap sz:Nat):bR:=
 {κ with n:=fun d=>if d=D then κ.n d+1 else κ.n d,loc:=fun d i=>if d=D∧i=I then b else κ.loc d i,tk:=fun d i m=>if d=D∧i=I then(if m=n then some (⟨b,0,none⟩,cap,sz) else none) else κ.tk d i m}
theorem jd.row{κ:bR}{D I b n cap sz:Nat}(hI:I=κ.n D)(E:Nat):jd κ (κ.row D I b n cap sz) E:=by
 have cK:∀d i,i < κ.n d→¬(d=D∧i=I):=by
  rintro d i hi ⟨rfl,rfl⟩
  omega
 refine⟨fun _ _ h=>h,fun d _=>?_,fun d i _ hi=>?_,fun d i n x _ hi h=>?_⟩
 ·simp only[bR.row];split <;> omega
 ·simp only[bR.row];rw[if_neg (cK d i hi)]
 ·simp only[bR.row];rw[if_neg (cK d i hi)];exact h
theorem dk.newRow{κ:bR}{s:St}{w w':World}(hs:dk κ s w)(cs:List AV)(xs:List Value)(C:Array Value)(e:TypeId)(n sz cap:Nat)(hx:dS κ (s.aa+1) cs xs)(hC:C.size=cap * sz)(hle:cs.length≤C.size)(hj:∀j,j < cs.length→C[j]? =xs[j]?)
  (hw:w'.heap=w.heap.push (.cells C e (0,0)))(ho:w'.os=w.os)(ht:w'.tape=w.tape)(hu:w'.output=w.output):
  dk (κ.row s.aa s.own.length w.heap.size n cap sz) (s.new (.cells cs)) w'∧iA κ s w (κ.row s.aa s.own.length w.heap.size n cap sz) (s.new (.cells cs)) w':=by
 have kH:s.own.length=κ.n s.aa:=hs.len s.aa s.own (by simp [St.fr])
 have hk:jd κ (κ.row s.aa s.own.length w.heap.size n cap sz) (s.aa+1):=jd.row kH _
 have ic:w'.heap[w.heap.size]? =some (.cells C e (0,0)):=by rw[hw];simp
 have Ud:C.toList.take cs.length=xs:=by
  apply List.ext_getElem?
  intro j
  rw[List.getElem?_take]
  split
  ·rename_i oT
   rw[←hj j oT];simp
  ·rw[List.getElem?_eq_none (by rw[hx.1];omega)]
 exact hs.newObj (w':=w') (.cells cs) hk (jX.new s _) (fun d=>rfl) (fun d i m hi=>if_neg (by rintro ⟨rfl,rfl⟩;omega)) (.inl rfl) (fun b hb=>by rw[hw,Array.getElem?_push];simp [Nat.ne_of_lt hb]) (by rw[hw];simp) ho ht hu
  ⟨⟨C,e,(0,0),by simp [bR.row,ic],fun j _=>by simp,by rw[Ud];exact hx.mono hk,fun m b c z h=>by
   simp only[bR.row,and_self,if_true] at h
   split at h
   ·simp only[bM,Prod.mk.injEq] at h
    obtain⟨_,rfl,rfl⟩:=h
    omega
   ·cases h⟩,fun o=>hs.ww (by simp [bR.row])⟩ (fun b hb=>by simp [bU,bR.row] at hb;omega)
theorem dk.rename{κ:bR}{s:St}{w:World}(hs:dk κ s w){i n m cap sz:Nat}{cs:List AV}(hg:s.own[i]? =some (.cells cs))(tF:κ.tk s.aa i m=some (⟨κ.loc s.aa i,0,none⟩,cap,sz)):
  dk (κ.row s.aa s.own.length (κ.loc s.aa i) n cap sz) {s with own:=s.own.set i .gone ++ [.cells cs]} w∧iA κ s w (κ.row s.aa s.own.length (κ.loc s.aa i) n cap sz) {s with own:=s.own.set i .gone ++ [.cells cs]} w:=by
 have kH:s.own.length=κ.n s.aa:=hs.len s.aa s.own (by simp [St.fr])
 have hk:jd κ (κ.row s.aa s.own.length (κ.loc s.aa i) n cap sz) (s.aa+1):=jd.row kH _
 have hi:i < s.own.length:=(bZ.1 hg).1
 have qg:s.get (.g s.aa i)=some (.cells cs):=by simp [St.get,hg]
 obtain⟨h1,h2⟩:=hs.MA hg
 obtain⟨⟨C,e,fz,c1,c2,c3,c5⟩,c4⟩:=hs.obj _ _ _ qg
 have YV:(κ.row s.aa s.own.length (κ.loc s.aa i) n cap sz).loc s.aa s.own.length=κ.loc s.aa i:=by simp [bR.row]
 have DL:OR (κ.row s.aa s.own.length (κ.loc s.aa i) n cap sz) s.aa s.own.length w (.cells cs):=by
  refine⟨⟨C,e,fz,by rw[YV];exact c1,c2,c3.mono hk,fun m' b c z h=>?_⟩,fun o=>by rw[YV];exact c4 o⟩
  simp only[bR.row,and_self,if_true] at h
  split at h
  ·simp only[bM,Prod.mk.injEq] at h
   obtain⟨_,rfl,rfl⟩:=h
   exact c5 m _ _ _ tF
  ·cases h
 have key:=h1.Uc (κ':=κ.row s.aa s.own.length (κ.loc s.aa i) n cap sz) (.cells cs) hk (fun d=>rfl) (fun d i' m' xE=>if_neg (by rintro ⟨h3,h4⟩;have Ef:d=s.aa:=h3;subst Ef;have h4':i'=s.own.length:=h4;omega)) rfl (by
   show OR _ s.aa (s.own.set i .gone).length w _
   rw[List.length_set];exact DL) (fun b hb=>by
   have gl:b=κ.loc s.aa i:=by
    have:bU (κ.row s.aa s.own.length (κ.loc s.aa i) n cap sz) s.aa (s.own.set i .gone).length (.cells cs)=some b:=hb
    rw[List.length_set] at this
    simp only[bU,YV,bM] at this
    exact this.symm
   subst gl
   rintro ⟨d',i',o',h3,h4⟩
   have dm:=St.DN (s:=s) (s':={s with own:=s.own.set i .gone}) (d:=s.aa) (i:=i) (o:=.gone) (by simp [St.set]) qg d' i'
   rw[dm] at h3
   split at h3
   ·simp only[bM] at h3
    subst h3
    simp [bU] at h4
   ·rename_i cK
    obtain⟨h5,h6⟩:=hs.inj d' i' o' s.aa i _ _ h3 qg h4 rfl
    exact cK ⟨h5,h6⟩)
 refine⟨key,⟨hk,rfl,Nat.le_refl _,rfl,rfl,rfl,fun _ _ _=>rfl,fun b hb hl=>?_,fun a ha=>.inl ha⟩⟩
 obtain⟨d',i',o',h3,h4⟩:=hl
 have xw:=(jX.new {s with own:=s.own.set i .gone} (.cells cs)).get d' i'
 have Ef:(({s with own:=s.own.set i .gone}:St).new (.cells cs)).get (.g d' i')=some o':=h3
 rw[xw] at Ef
 split at Ef
 ·rename_i hc
  simp only[bM] at Ef
  subst Ef
  obtain⟨h5,h6⟩:=hc
  have h6':i'=s.own.length:=by rw[h6];simp
  have h5':d'=s.aa:=h5
  subst h6' h5'
  simp only[bU,YV,bM] at h4
  exact⟨s.aa,i,_,qg,by simp [bU,h4]⟩
 ·rename_i hc
  have cM:=h1.xk Ef
  have hd':=St.kV Ef
  have qj:bU κ d' i' o'=some b:=by
   have cK:¬(d'=s.aa∧i'=s.own.length):=by
    rintro ⟨h7,h8⟩;subst h7;omega
   cases o' with
   | cells nX=>simp only[bU,bR.row,if_neg cK] at h4 ⊢;exact h4
   | map es=>simp only[bU,bR.row,if_neg cK] at h4 ⊢;exact h4
   | tok k=>simp only[bU,bR.row,if_neg cK] at h4 ⊢;exact h4
   | gone=>simp [bU] at h4
  exact h2.live b hb ⟨d',i',o',Ef,qj⟩
section
variable{P:Program}{ty:TypeId}{ρ:Operand→Value}{κ:bR}{s:St}{w:World}(hs:dk κ s w)
include hs
theorem Eh{E:Env}(hE:E.F= .not){k:AV→St→ax}{r:ax}(hf:r≠.fail){t t2 el:TypeId}{sz bytes:Nat}{z:Value}(h:rq P t t2 el sz bytes z){x y:Operand}{X Y:AV}
  (hX:VR κ (s.aa+1) (X.av s.aa) (ρ x))(hY:VR κ (s.aa+1) (Y.av s.aa) (ρ y))(hr:mS E s k sz bytes X Y=r):∃v' s',k v' s'=r∧cW P (.call {callee:=.builtin .append,args:= #[x,y],argTypes:= #[t,t2]}) ty ρ κ s w v' s':=by
 unfold mS at hr
 cases mH:dl s Y with
 | none=>rw[mH] at hr;exact absurd hr.symm hf
 | some p=>
  obtain⟨zz,new⟩:=p
  rw[mH] at hr
  obtain⟨iq,T8,iL⟩:=ny hs hY mH
  cases new with
  | nil=>exact absurd hr.symm hf
  | cons c0 aDG=>
   simp only[hE,a6.not] at hr
   generalize ic:c0 :: aDG=new at *
   have kJ:0 < new.length:=by rw[←ic];simp
   have kH:s.own.length=κ.n s.aa:=hs.len s.aa s.own (by simp [St.fr])
   split at hr
   ·
    rename_i sz'
    obtain⟨hb,cG⟩:=cB hr hf
    simp only[bD] at hb
    obtain⟨⟨⟨HI,qj⟩,Ua⟩,hb4⟩:=hb
    have e1:=cQ HI
    have e2:=(cQ qj).symm
    subst e1
    subst e2
    have h3:=dL Ua
    simp only[AV.av] at hX
    have eX:ρ x= .slice none 0 0:=by
     rcases hX.jF with⟨_,_,e⟩ | ⟨A,cap,aL,e,hg,_⟩
     ·exact e
     ·cases hg
    obtain⟨hlen,xs,hc,gY⟩:=fg (P:=P) iq iL new.length (Nat.le_refl _) w.drew (fun _=>rfl)
    have wD:=(fg (P:=P) iq iL new.length (Nat.le_refl _) w (fun _=>rfl)).1
    simp only[List.take_length] at gY
    have nY:=eU new zz iL
    have nU:xs.length=new.length * zz:=by rw[gY.1,nY]
    have ho:(Builtin.firstCells zz 0 (.slice none 0 0)).run P w.drew= .ok (#[]:Array Value) w.drew:=by
     obtain⟨_,os,ho,vP⟩:=fg (P:=P) (s:=s) (κ:=κ) (w:=w) (X:=Value.slice none 0 0) (v:=.dead) (sz:=zz) (es:=[]) (.inr ⟨none,0,rfl,fun _=>rfl,fun a ha=>(by cases ha)⟩) (fun e he=>(by cases he)) 0 (Nat.le_refl _) w.drew (fun _=>rfl)
     have:os=[]:=List.eq_nil_of_length_eq_zero (by simpa using vP.1)
     rw[this] at ho
     exact ho
    obtain⟨cap,C,q1,q2,q3,q4⟩:=kI (ty:=ty) h (base:=none) (fM:=0) (kZ:=0) (os:=[]) wD hc ho nU (by simp) (by omega) (by rw[Nat.zero_add];exact h3)
    simp only[Nat.zero_add,List.nil_append] at q1 q3 q4
    obtain⟨g1,g2⟩:=hs.newRow (w':=w.drew.alloc (.cells C el)) (new.flatMap AV.cells) xs C el new.length zz cap gY q2 (by rw[nY,q2];exact Nat.mul_le_mul_right _ q1) (fun j hj=>q3 j (by rw[←nY];exact hj)) rfl rfl rfl rfl
    refine⟨_,_,cG,_,_,_, .inl (jr (by rw[eX];exact q4)),g2,g1,?_⟩
    simp only[AV.av,Loc.av]
    have hl:(κ.row s.aa s.own.length w.heap.size new.length cap zz).loc s.aa s.own.length=w.heap.size:=by simp [bR.row]
    have key:=VR.ck (κ:=κ.row s.aa s.own.length w.heap.size new.length cap zz) (D:=s.aa+1) s.aa s.own.length 0 new.length 0 cap zz (Nat.lt_succ_self _) (by simp [bR.row,kH]) q1 (.inr ⟨rfl,kJ,rfl,by rw[hl];simp [bR.row]⟩)
    rw[hl] at key
    exact key
   ·
    rename_i i len sz'
    split at hr
    rotate_left
    ·exact absurd hr.symm hf
    rename_i cs MB
    obtain⟨hb,cG⟩:=cB hr hf
    simp only[bD,Bool.not_eq_true'] at hb
    obtain⟨⟨⟨⟨⟨⟨HI,qj⟩,Ua⟩,hb4⟩,hb5⟩,hb6⟩,hb7⟩:=hb
    have e1:=cQ HI
    have e2:=(cQ qj).symm
    subst e1
    subst e2
    have tH:=cQ Ua
    have hl0:len≠0:=fun h0=>by rw[h0] at hb4;cases hb4
    have h5:=dL hb5
    simp only[AV.av,Loc.av] at hX
    have hg:s.get (.g s.aa i)=some (.cells cs):=by simp [St.get,MB]
    obtain⟨rc,eX,hd,hi,hlr,D8⟩:=hX.nq
    obtain⟨_,_,_,tF⟩:(0:Nat)=0∧0 < len∧(0:Nat)=0∧κ.tk s.aa i len=some (⟨κ.loc s.aa i,0,none⟩,rc,zz):=by
     rcases D8 with h1 | h1
     ·omega
     ·exact h1
    obtain⟨⟨C0,e0,fz0,c1,c2,c3,c5⟩,c4⟩:=hs.obj _ _ _ hg
    have hC0:=c5 len _ _ _ tF
    have nY:=eU new zz iL
    have ais:i < s.own.length:=(bZ.1 MB).1
    have hmul:(len+new.length) * zz=len * zz+new.length * zz:=Nat.add_mul _ _ _
    have AD:=sO hs hg 0
    rw[bW] at AD
    by_cases BB:len+new.length≤rc
    ·
     obtain⟨hlen,xs,hc,gY⟩:=fg (P:=P) iq iL new.length (Nat.le_refl _) w (fun _=>rfl)
     simp only[List.take_length] at gY
     have nU:xs.length=new.length * zz:=by rw[gY.1,nY]
     have axG:(len+new.length) * zz≤C0.size:=Nat.le_trans (Nat.mul_le_mul_right _ BB) hC0
     have h1:=rQ hb6 gY
     have fD:=run_storeCells_cells (P:=P) (κ.loc s.aa i) (len * zz) xs 0 w (fun j hj=>by rw[fS c1];simp;omega) (fun j hj=>by
      have hu:=c2 (len * zz+0+j) (by omega)
      simp only[World.frozen?,c1]
      rw[Bool.and_eq_false_iff]
      by_cases l7:fz0.1≤len * zz+0+j
      ·right;simp only[decide_eq_false_iff_not];exact fun h=>hu ⟨l7,h⟩
      ·left;simpa using l7) h1
     have ko:=run_append_fits (ty:=ty) h (base:=some ⟨κ.loc s.aa i,0,none⟩) (fM:=len) (kZ:=rc) hlen hc BB (w':=w.setCells (κ.loc s.aa i) (len * zz) xs) (by
      have Mr:(⟨κ.loc s.aa i,0,none⟩:Addr).add (len * zz)=⟨κ.loc s.aa i,len * zz,none⟩:=by rw[f7 rfl];simp
      simp only[Mr]
      simpa using fD)
     have kW:=qd xs w (κ.loc s.aa i) (len * zz) C0 e0 fz0 c1 (by omega)
     obtain⟨r1,r2,r3⟩:=qf xs w (κ.loc s.aa i) (len * zz)
     have CL:cs.length≤C0.size:=by have:=c3.1;simp at this;omega
     have aDI:(di C0.toList (len * zz) xs).take (cs ++ new.flatMap AV.cells).length=C0.toList.take cs.length ++ xs:=by
      rw[dp,nY,tH,←nU]
      apply List.ext_getElem?
      intro j
      rw[List.getElem?_take]
      by_cases hj:j < len * zz
      ·rw[if_pos (by omega),iK _ _ _ (by simp;omega),if_neg (by omega),eZ (by simp;omega),List.getElem?_take,if_pos (by omega)]
      ·rw[List.getElem?_append_right (by simp;omega)]
       have HJ:(C0.toList.take (len * zz)).length=len * zz:=by simp;omega
       rw[HJ]
       by_cases AG:j < len * zz+xs.length
       ·rw[if_pos AG,iK _ _ _ (by simp;omega),if_pos (by omega)]
       ·rw[if_neg AG,List.getElem?_eq_none (by omega)]
     let s1:St:={s with own:=s.own.set i (.cells (cs ++ new.flatMap AV.cells))}
     have hA:dk κ s1 (w.setCells (κ.loc s.aa i) (len * zz) xs)∧iA κ s w κ s1 (w.setCells (κ.loc s.aa i) (len * zz) xs):=by
      refine hs.setObj hg (o':=.cells (cs ++ new.flatMap AV.cells)) (by simp [St.set,s1]) (.refl _ _) rfl (fun _ _ _ _=>rfl) (fun a v h=>?_) (fun b _ hb=>⟨?_,fun _=>rfl⟩) (by rw[qe];exact Nat.le_refl _) r1 r2 r3 ⟨⟨(di C0.toList (len * zz) xs).toArray,e0,fz0,by rw[kW];simp,by simpa [gA] using c2,?_,fun m b cap sz hm=>by simpa [gA] using c5 m b cap sz hm⟩,c4⟩ (fun b hb=>.inl hb)
      ·obtain⟨h5,h6⟩:=hs.kU a v h
       refine⟨h5,?_⟩
       rw[gX (w:=w) ?_]
       ·exact h6
       ·rw[kW,if_neg]
        intro e1
        have haa:a=⟨κ.loc s.aa i,a.off,none⟩:=by cases a;simp_all
        rw[haa,c4] at h
        cases h
      ·rw[kW,if_neg (fun e1=>hb (by simp [bU,e1]))]
      ·show dS κ _ _ ((di C0.toList (len * zz) xs).take _)
       rw[aDI]
       exact c3.append gY
     have aDJ:s1.own[i]? =some (.cells (cs ++ new.flatMap AV.cells)):=by simp [s1,ais]
     obtain⟨g1,g2⟩:=hA.1.rename (n:=len+new.length) aDJ tF
     have hs2:({s1 with own:=s1.own.set i .gone ++ [.cells (cs ++ new.flatMap AV.cells)]}:St)= {s with own:=s.own.set i .gone ++ [.cells (cs ++ new.flatMap AV.cells)]}:=by
      simp [s1]
     rw[hs2] at g1 g2
     refine⟨_,_,cG,_,_,_, .inl (jr (by rw[eX];exact ko)),hA.2.trans g2,g1,?_⟩
     simp only[AV.av,Loc.av]
     have nr:s1.own.length=s.own.length:=by simp [s1]
     have hl:(κ.row s1.aa s1.own.length (κ.loc s1.aa i) (len+new.length) rc zz).loc s.aa s.own.length=κ.loc s.aa i:=by
      rw[nr]
      show(if s.aa=s.aa∧s.own.length=s.own.length then κ.loc s.aa i else κ.loc s.aa s.own.length)=_
      simp
     have key:=VR.ck (κ:=κ.row s1.aa s1.own.length (κ.loc s1.aa i) (len+new.length) rc zz) (D:=s.aa+1) s.aa s.own.length 0 (len+new.length) 0 rc zz (Nat.lt_succ_self _) (by
      rw[nr];show s.own.length < if s.aa=s.aa then κ.n s.aa+1 else κ.n s.aa
      rw[if_pos rfl];omega) BB (.inr ⟨rfl,by omega,rfl,by
      rw[hl,nr]
      show(if s.aa=s.aa∧s.own.length=s.own.length then(if len+new.length=len+new.length then some ((⟨κ.loc s.aa i,0,none⟩:Addr),rc,zz) else none) else κ.tk s.aa s.own.length (len+new.length))=_
      simp⟩)
     rw[hl] at key
     exact key
    ·
     obtain⟨hlen,xs,hc,gY⟩:=fg (P:=P) iq iL new.length (Nat.le_refl _) w.drew (fun _=>rfl)
     have wD:=(fg (P:=P) iq iL new.length (Nat.le_refl _) w (fun _=>rfl)).1
     simp only[List.take_length] at gY
     have nU:xs.length=new.length * zz:=by rw[gY.1,nY]
     have hz0:zz≠0:=fun h0=>by rw[h0] at hb7;cases hb7
     obtain⟨ch1,ch2⟩:=nw zz hz0 len cs (by omega)
     obtain⟨_,os,ho,vP⟩:=fg (P:=P) (s:=s) (κ:=κ) (w:=w) (X:=Value.slice (some ⟨κ.loc s.aa i,0,none⟩) len rc) (v:=.dead) (sz:=zz) (es:=chunk zz len cs) (.inr ⟨some ⟨κ.loc s.aa i,0,none⟩,rc,by rw[fT],fun ha=>(by cases ha),fun a' ha=>(by cases ha;rw[ch1,List.take_of_length_le (by omega)];exact AD)⟩) ch2 len (by rw[fT];exact Nat.le_refl _) w.drew (fun _=>rfl)
     rw[show(chunk zz len cs).take len=chunk zz len cs from List.take_of_length_le (by rw[fT];exact Nat.le_refl _),ch1,List.take_of_length_le (by omega)] at vP
     have xz:os.length=len * zz:=by rw[vP.1,tH]
     obtain⟨IC,C,q1,q2,q3,q4⟩:=kI (ty:=ty) h (base:=some ⟨κ.loc s.aa i,0,none⟩) (fM:=len) (kZ:=rc) wD hc ho nU xz (by omega) h5
     obtain⟨g1,g2⟩:=hs.newRow (w':=w.drew.alloc (.cells C el)) (cs ++ new.flatMap AV.cells) (os ++ xs) C el (len+new.length) zz IC (vP.append gY) q2 (by rw[dp,nY,tH,q2,←Nat.add_mul];exact Nat.mul_le_mul_right _ q1) (fun j hj=>q3 j (by rw[dp,nY,tH] at hj;omega)) rfl rfl rfl rfl
     have sR:(s.new (.cells (cs ++ new.flatMap AV.cells))).own[i]? =some (.cells cs):=by
      simp only[St.new];rw[eZ ais];exact MB
     obtain⟨g3,g4⟩:=g1.MA sR
     have hs2:({s.new (.cells (cs ++ new.flatMap AV.cells)) with own:=(s.new (.cells (cs ++ new.flatMap AV.cells))).own.set i .gone}:St)= {s with own:=s.own.set i .gone ++ [.cells (cs ++ new.flatMap AV.cells)]}:=by
      simp only[St.new]
      congr 1
      exact List.set_append_left _ _ ais
     rw[hs2] at g3 g4
     refine⟨_,_,cG,_,_,_, .inl (jr (by rw[eX];exact q4)),g2.trans g4,g3,?_⟩
     simp only[AV.av,Loc.av]
     have hl:(κ.row s.aa s.own.length w.heap.size (len+new.length) IC zz).loc s.aa s.own.length=w.heap.size:=by simp [bR.row]
     have key:=VR.ck (κ:=κ.row s.aa s.own.length w.heap.size (len+new.length) IC zz) (D:=s.aa+1) s.aa s.own.length 0 (len+new.length) 0 IC zz (Nat.lt_succ_self _) (by simp [bR.row,kH]) q1 (.inr ⟨rfl,by omega,rfl,by rw[hl];simp [bR.row]⟩)
     rw[hl] at key
     exact key
   ·exact absurd hr.symm hf
end
section
variable{P:Program}{ty:TypeId}{ρ:Operand→Value}{κ:bR}{s:St}{w:World}
theorem HN{T:TT}(hT:T.OK P){D:Nat}:∀(fs:List Field) (ks:List KD) (j:Nat) (cs ds:List AV) (xs ys:List Value) (b:Bool),k8 T j ks fs=true→gW ks (cs.drop j)=true→gW ks (ds.drop j)=true→dS κ D cs xs→dS κ D ds ys→ke (cs.drop j) (ds.drop j)=some b→
  ∀d,(Op.eqFields (d+1) xs.toArray ys.toArray fs).run P w= .ok b w:=by
 intro fs
 induction fs with
 | nil=>
  intro ks j cs ds xs ys b h1 h2 h3 hx hy h d
  cases ks with
  | cons k ks=>simp [k8] at h1
  | nil=>
   cases hc:cs.drop j with
   | cons c nX=>rw[hc] at h2;simp [gW] at h2
   | nil=>
    cases hd:ds.drop j with
    | cons c nX=>rw[hd] at h3;simp [gW] at h3
    | nil=>
     rw[hc,hd] at h
     simp only[ke,bM] at h
     subst h
     simp [Op.eqFields]
 | cons f fs ih=>
  intro ks j cs ds xs ys b h1 h2 h3 hx hy h d
  cases ks with
  | nil=>simp [k8] at h1
  | cons k ks=>
   simp only[k8,bD,jV] at h1
   obtain⟨⟨⟨e1,hn⟩,ht⟩,hr⟩:=h1
   have ej:=cQ e1
   cases hc:cs.drop j with
   | nil=>rw[hc] at h2;cases k <;> simp [gW] at h2
   | cons c nX=>
    cases hd:ds.drop j with
    | nil=>rw[hd] at h3;cases k <;> simp [gW] at h3
    | cons c' ds'=>
     have Ue:cs.drop (j+1)=nX:=by rw[←List.drop_drop,hc];rfl
     have hd1:ds.drop (j+1)=ds':=by rw[←List.drop_drop,hd];rfl
     have pn:cs[j]? =some c:=by have:=congrArg (fun l:List AV=>l[0]?) hc;simpa using this
     have hdj:ds[j]? =some c':=by have:=congrArg (fun l:List AV=>l[0]?) hd;simpa using this
     obtain⟨x,hx1,hx2⟩:=hx.get pn
     obtain⟨y,hy1,vQ⟩:=hy.get hdj
     rw[hc] at h2
     rw[hd] at h3
     rw[hc,hd] at h
     cases hu:T.dt f.type with
     | none=>rw[hu] at ht;cases ht
     | some dsc=>
      rw[hu] at ht
      have YW:=hT.dt _ _ hu
      have axI:qi P f.type=some false:=by
       cases k <;> cases dsc <;> simp [nO] at ht <;> simp [qi,YW,YQ]
      have p1:(part f.type xs.toArray f.offset).run P w= .ok x w:=by rw[ej];simp [part,mX axI,hx1]
      have p2:(part f.type ys.toArray f.offset).run P w= .ok y w:=by rw[ej];simp [part,mX axI,hy1]
      have key:∀(e:Bool),(Op.equalIn (d+1) f.type x y).run P w= .ok e w→∀b',ke nX ds'=some b'→b=(e && b')→gW ks nX=true→gW ks ds'=true→(Op.eqFields (d+1) xs.toArray ys.toArray (f :: fs)).run P w= .ok b w:=by
       intro e he b' gl JH k1 k2
       simp only[Op.eqFields,hn,ne_eq,not_false_eq_true,↓reduceIte,Sem.run_bind,p1,p2,Result.andThen_ok,he]
       cases e with
       | false=>simp [JH]
       | true=>
        simp only[Bool.not_true,co,↓reduceIte]
        rw[JH,Bool.true_and]
        exact ih ks (j+1) cs ds xs ys b' hr (by rw[Ue];exact k1) (by rw[hd1];exact k2) hx hy (by rw[Ue,hd1];exact gl) d
      cases k with
      | int kk=>
       cases c <;> simp [gW] at h2
       cases c' <;> simp [gW] at h3
       rename_i k1 a k2 a'
       obtain⟨rfl,h2⟩:=h2
       obtain⟨rfl,h3⟩:=h3
       cases dsc <;> simp [nO] at ht
       simp only[ke,↓reduceIte] at h
       obtain⟨b',gl,JH⟩:=Option.map_eq_some_iff.1 h
       rw[hx2.eD,vQ.eD] at key
       exact key _ (run_equalIn_int w d f.type _ _ a a' YW) b' gl JH.symm h2 h3
      | str=>
       cases c <;> simp [gW] at h2
       cases c' <;> simp [gW] at h3
       rename_i a a'
       cases dsc <;> simp [nO] at ht
       simp only[ke] at h
       obtain⟨b',gl,JH⟩:=Option.map_eq_some_iff.1 h
       obtain⟨z,rfl,hz⟩:=hx2.jL
       obtain⟨z',rfl,hz'⟩:=vQ.jL
       have T3:(a == a')=(z.toList == z'.toList):=by
        rw[←hz,←hz',ByteArray.toList_eq,ByteArray.toList_eq]
        rw[Bool.eq_iff_iff]
        simp only[beq_iff_eq]
        constructor
        ·intro e
         exact(List.map_inj_right (f:=UInt8.toNat) (fun a b h=>UInt8.toNat_inj.1 h)).1 e
        ·intro e;rw[e]
       rw[T3] at JH
       exact key _ (run_equalIn_string w d f.type z z' YW) b' gl JH.symm h2 h3
      | bool=>
       cases c <;> simp [gW] at h2
       cases c' <;> simp [gW] at h3
       rename_i a a'
       cases dsc <;> simp [nO] at ht
       simp only[ke] at h
       obtain⟨b',gl,JH⟩:=Option.map_eq_some_iff.1 h
       rw[hx2.iO,vQ.iO] at key
       exact key _ (run_equalIn_bool' w d f.type a a' YW) b' gl JH.symm h2 h3
theorem JI{T:TT}(hT:T.OK P)(hs:dk κ s w){ks:List KD}{b neg:Bool}{v u:AV}{t yt:TypeId}{x y:Operand}{fs:Array Field}{op:BinOp}(Mm:op=if neg then .neq else .eql)(ht:P.underlying t=some (.struct fs))(he:T.eqs t=true)(hf:k8 T 0 ks fs.toList=true)
  (hx:VR κ (s.aa+1) (v.av s.aa) (ρ x))(hy:VR κ (s.aa+1) (u.av s.aa) (ρ y))(h:tE (.agg ks) v u=some b):cW P (.binOp op t x y yt) ty ρ κ s w (.bool (bif neg then !b else b)) s:=by
 obtain⟨h1,h2⟩:=hT.eqs t he
 have hfo:P.fieldsOf t=fs:=by simp [Program.fieldsOf,ht]
 rw[←Mo (d:=s.aa)] at h
 generalize xr:v.av s.aa=v' at *
 generalize hu':u.av s.aa=u' at *
 simp only[tE] at h
 split at h
 ·rename_i cs ds
  cases hb:gW ks cs && gW ks ds with
  | false=>rw[hb] at h;cases h
  | true=>
   rw[hb] at h
   rw[bD] at hb
   obtain⟨xs,ex,gY⟩:=hx.tS
   obtain⟨ys,ey,Mz⟩:=hy.tS
   have run:=HN (w:=w) hT fs.toList ks 0 cs ds xs ys b hf (by simpa using hb.1) (by simpa using hb.2) gY Mz (by simpa using h) 9998
   have e1:=run_equalIn_agg (P:=P) w 9999 t xs.toArray ys.toArray (by rw[hfo];exact ht) h1
   rw[hfo,run] at e1
   have g:=fun op=>run_eqGuard_agg (P:=P) w op t x y xs.toArray ys.toArray h2
   refine bA hs _ (fun dst pos after guard=>?_) (.bool _)
   subst Mm
   cases neg
   ·have b1:=run_eql_struct (P:=P) w t xs.toArray ys.toArray
    rw[e1] at b1
    simp only[execOp,co,↓reduceIte,ex,ey,Sem.run_bind,g,Result.andThen_ok,b1,Sem.run_pure,cond_false]
   ·have b1:=run_neq_struct (P:=P) w t xs.toArray ys.toArray
    rw[e1] at b1
    simp only[execOp,↓reduceIte,ex,ey,Sem.run_bind,g,Result.andThen_ok,b1,Sem.run_pure,cond_true]
 ·cases h
end
section
variable{P:Program}{T:TT}(hT:T.OK P){ty:TypeId}{κ:bR}{s:St}{w:World}(hs:dk κ s w){E:Env}(hE:E.F= .not)(hC:sP P E){fr:Nat→AV}{a:Act}(bS:FR κ s fr a)(hG:nV κ E.aP){k kp:AV→St→ax}{r:ax}(hf:r≠.fail)
include hs hE bS hG hf
theorem sS{v:Option AV}(h:oV E s k v=r):∃v',v=some v'∧k v' s=r:=by
 cases v with
 | none=>exact absurd h.symm hf
 | some v'=>simp only[oV,hE,a6.not] at h;exact⟨v',rfl,h⟩
theorem Uf{o:BinOp}{x y:bG}{x' y':Operand}{t yt:TypeId}(hx:cg x x'=true)(hy:cg y y'=true)(hr:oV E s k (au o (aM E.aP fr x) (aM E.aP fr y))=r):∃v s',k v s'=r∧tB P (.binOp o t x' y' yt) ty a.eval κ s w v s':=by
 obtain⟨v,hv,hk⟩:=sS hs hE bS hG hf hr
 refine⟨v,s,hk, .inl ?_⟩
 have h1:=bH bS hG hx
 have h2:=bH bS hG hy
 generalize aM E.aP fr x=X at h1 hv
 generalize aM E.aP fr y=Y at h2 hv
 unfold au at hv
 split at hv
 ·exact xt hs h1.eD h2.eD (.inl rfl) hv
 ·exact xt hs h1.eD h2.eD (.inr rfl) hv
 ·rename_i k1 a1 k2 a2 _ _
  split at hv
  ·rename_i aDN
   subst aDN
   exact DW hs h1.eD h2.eD hv
  ·cases hv
 ·exact DX hs h1 h2 hv
 ·cases hv
theorem agF{o:UnOp}{x:bG}{x':Operand}{t:TypeId}(hx:cg x x'=true)(hr:oV E s k (kL o (aM E.aP fr x))=r):∃v s',k v s'=r∧tB P (.unOp o t x') ty a.eval κ s w v s':=by
 obtain⟨v,hv,hk⟩:=sS hs hE bS hG hf hr
 refine⟨v,s,hk, .inl ?_⟩
 have h1:=bH bS hG hx
 generalize aM E.aP fr x=X at h1 hv
 unfold kL at hv
 split at hv
 ·simp only[bM] at hv;subst hv;exact Hu hs h1.eD
 ·simp only[bM] at hv;subst hv;exact Hv hs h1.eD
 ·simp only[bM] at hv;subst hv;exact Hw hs h1.iO
 ·cases hv
theorem BC{f:AV→AV→Option AV}{g:Value→Value→Sem Value}(hfg:∀x y z X Y,f x y=some z→VR κ (s.aa+1) x X→VR κ (s.aa+1) y Y→∃Z,(g X Y).run P w= .ok Z w∧VR κ (s.aa+1) z Z){xs:List bG}{ys:List Operand}(gY:dj xs ys=true)
  {o:Op}(ho:∀x rest,ys.map a.eval=x :: rest→∀dst pos after guard,execOp a.eval ⟨dst,o,ty,pos,after,guard⟩=(do pure (.value (←rest.foldlM g x)):Sem Next))
  (hr:oh E s k f (xs.map fun x=>(aM E.aP fr x).av s.aa)=r):∃v s',k v s'=r∧tB P o ty a.eval κ s w v s':=by
 have hv:=k9 bS hG xs ys gY
 cases hX:xs.map (fun x=>(aM E.aP fr x).av s.aa) with
 | nil=>rw[hX] at hr;exact absurd hr.symm hf
 | cons x l=>
  rw[hX] at hr hv
  cases hY:ys.map a.eval with
  | nil=>rw[hY] at hv;exact absurd hv.1 (by simp)
  | cons Y L=>
   rw[hY] at hv
   simp only[oh] at hr
   obtain⟨v,h1,hk⟩:=sS hs hE bS hG hf hr
   obtain⟨V,h2,h3⟩:=IE f g hfg l L x v Y h1 (hv.2 0 x Y rfl rfl) ⟨by have:=hv.1;simpa using this,fun j c y hc hy=>hv.2 (j+1) c y (by simpa using hc) (by simpa using hy)⟩
   refine⟨v,s,hk, .inl (bA hs V (fun dst pos after guard=>?_) (by rw[h3.qT];exact h3))⟩
   rw[ho Y L hY]
   simp [h2]
theorem gv{o:Op}{ρ:Operand→Value}{v:AV}{s':St}(hk:k v s'=r)(h:cW P o ty ρ κ s w v s'):∃v s',k v s'=r∧tB P o ty ρ κ s w v s':=⟨v,s',hk, .inl h⟩
theorem po{o:Op}{ρ:Operand→Value}(h:∃v,k v s=r∧cW P o ty ρ κ s w v s):∃v s',k v s'=r∧tB P o ty ρ κ s w v s':=by
 obtain⟨v,h1,h2⟩:=h
 exact⟨v,s,h1, .inl h2⟩
theorem AJ{o:Op}{ρ:Operand→Value}(h:∃v s',k v s'=r∧cW P o ty ρ κ s w v s'):∃v s',k v s'=r∧tB P o ty ρ κ s w v s':=by
 obtain⟨v,s',h1,h2⟩:=h
 exact⟨v,s',h1, .inl h2⟩
include hC in
theorem pr{f:Nat}{args:List AV}{xs:List Value}{o:Op}{ρ:Operand→Value}(hx:dS κ (s.aa+1) args xs)(ho:∀dst pos after guard,execOp ρ ⟨dst,o,ty,pos,after,guard⟩=callFunc f xs.toArray)(hr:cV E s k kp f args=r):∃v s',k v s'=r∧tB P o ty ρ κ s w v s':=by
 unfold cV at hr
 cases hc:E.call f args s with
 | fail=>rw[hc] at hr;exact absurd hr.symm hf
 | panic v s'=>exact absurd hc (hC.rV _ _ _ _ _)
 | ok v s'=>
  rw[hc] at hr
  obtain⟨_,cG⟩:=cB hr hf
  exact⟨v,s',cG,HM hC hs hG hc hx ho⟩
include hC in
theorem we{f:Nat}{args:List AV}{xs:List Value}{o:Op}{ρ:Operand→Value}(hx:dS κ (s.aa+1) args xs)(ho:∀dst pos after guard,execOp ρ ⟨dst,o,ty,pos,after,guard⟩=callFunc f xs.toArray)(hr:i9 E s k f args=r):∃v s',k v s'=r∧tB P o ty ρ κ s w v s':=by
 unfold i9 at hr
 obtain⟨hb,cG⟩:=cB hr hf
 cases hc:E.call f args {own:=[],up:=[],ro:=[]} with
 | fail=>rw[hc] at cG;exact absurd cG.symm hf
 | panic v s'=>exact absurd hc (hC.rV _ _ _ _ _)
 | ok v s'=>
  rw[hc] at cG
  obtain⟨qj,oH⟩:=cB cG hf
  exact⟨v,s,oH,Eg hC hs hG hc qj hx hb ho⟩
include hT hC in
theorem MC{ao:ib}{op:Op}(h:eN T ao op=true)(hr:bp E fr s k kp ao=r):∃v s',k v s'=r∧tB P op ty a.eval κ s w v s':=by
 have hF:E.F= .not:=hE
 cases ao with
 | move x=>
  simp only[bp,hE,a6.not] at hr
  simp only[eN] at h
  split at h
  ·exact gv hs hE bS hG hf hr (Me hs (bH bS hG h))
  ·exact gv hs hE bS hG hf hr (Ht hs (bH bS hG h))
  ·cases h
 | tM x=>
  simp only[bp] at hr
  simp only[eN] at h
  split at h
  ·exact AJ hs hE bS hG hf (xB hs hE hf (fun _ _ _ _=>by simp [execOp]) (bH bS hG h) hr)
  ·exact AJ hs hE bS hG hf (xB hs hE hf (fun _ _ _ _=>by simp [execOp]) (bH bS hG h) hr)
  ·cases h
 | pick c x y=>
  simp only[bp] at hr
  simp only[eN] at h
  split at h
  ·simp only[bD] at h
   have hc:=bH bS hG h.1.1
   generalize aM E.aP fr c=X at hc hr
   cases X <;> simp only[tP,hE,a6.not] at hr <;> try exact absurd hr.symm hf
   exact gv hs hE bS hG hf hr (Mf hs hc.iO (bH bS hG h.1.2) (bH bS hG h.2))
  ·cases h
 | alloc z=>
  simp only[bp,hE,a6.not] at hr
  simp only[eN] at h
  split at h
  ·exact gv hs hE bS hG hf hr (JA hs (hT.zero h))
  ·cases h
 | dO x=>
  simp only[bp,hE,a6.not] at hr
  simp only[eN] at h
  obtain⟨hb,cG⟩:=cB hr hf
  split at h
  ·exact gv hs hE bS hG hf cG (JB hs (bH bS hG h) hb)
  ·cases h
 | jE x=>
  simp only[bp,hE,a6.not] at hr
  simp only[eN] at h
  obtain⟨hb,cG⟩:=cB hr hf
  split at h
  ·exact gv hs hE bS hG hf cG (HF hs (bH bS hG h) hb)
  ·cases h
 | build z ps=>
  simp only[bp] at hr
  simp only[eN] at h
  obtain⟨v,h1,hk⟩:=sS hs hE bS hG hf hr
  cases hfp:fc E.aP s.aa fr z ps with
  | none=>rw[hfp] at h1;cases h1
  | some cs=>
   rw[hfp] at h1
   simp only[e9,bM] at h1
   subst h1
   split at h
   ·rename_i t qs
    split at h
    ·rename_i fs ht
     split at h
     ·rename_i pl tG
      simp only[bD] at h
      have:=vO (ty:=ty) hs bS hG (hT.dt _ _ ht) (hT.zero h.1) (pl:=pl.toArray) (by simpa using tA hT _ _ tG) h.2 hfp
      exact gv hs hE bS hG hf hk (by simpa using this)
     ·cases h
    ·rename_i n el ht
     split at h
     ·rename_i sz dM
      simp only[bD] at h
      have:=wC (ty:=ty) hs bS hG (hT.dt _ _ ht) (hT.size dM) (hT.zero h.1) h.2 hfp
      exact gv hs hE bS hG hf hk (by simpa using this)
     ·cases h
    ·cases h
   ·cases h
 | buildSlice sz ps=>
  simp only[bp,jl,hE,a6.not] at hr
  simp only[eN] at h
  obtain⟨hb,cG⟩:=cB hr hf
  split at h
  ·rename_i t len qs
   split at h
   ·rename_i el ht
    simp only[bD,beq_iff_eq] at h
    obtain⟨⟨⟨⟨⟨h1,h2⟩,h3⟩,h4⟩,h5⟩,h6⟩:=h
    obtain⟨ys,e,ct⟩:=oU 0 ps qs.toList h6
    have hlen:ps.length=ys.length:=by
     have:∀(ps:List bG) (qs:List Operand),dj ps qs=true→ps.length=qs.length:=by
      intro ps
      induction ps with
      | nil=>intro qs h;cases qs <;> simp [dj] at h ⊢
      | cons p ps ih=>intro qs h;cases qs with
       | nil=>simp [dj] at h
       | cons q qs=>simp only[dj,bD] at h;simp [ih qs h.2]
     exact this ps ys ct
    have hl:len=ys.length:=by rw[←hlen];exact cQ h4
    simp only[bD,List.all_eq_true] at hb
    have h5':=dL h5
    have:=xx (ty:=ty) hs bS hG (hT.dt _ _ ht) (hT.size h1) (hT.zero h2) (cQ h3) (by rw[←hl];omega) ct hb.1 (fun e he=>⟨(hb.2 e he).1,cQ (hb.2 e he).2⟩)
    rw[←e] at this
    rw[hl]
    exact gv hs hE bS hG hf cG (by simpa using this)
   ·cases h
  ·cases h
 | load n x=>
  simp only[bp] at hr
  simp only[eN] at h
  split at h
  ·simp only[bD] at h
   exact po hs hE bS hG hf (Mh hs hE hf (hT.load h.1) (bH bS hG h.2) hr)
  ·cases h
 | store n x v=>
  simp only[bp] at hr
  simp only[eN] at h
  split at h
  ·simp only[bD,beq_iff_eq] at h
   exact AJ hs hE bS hG hf (JC hs hE hf (hT.size h.1.1) (bH bS hG h.1.2) (bH bS hG h.2) hr)
  ·cases h
 | nilCheck x=>
  simp only[bp] at hr
  simp only[eN] at h
  split at h
  ·have hx:=bH bS hG h
   generalize aM E.aP fr x=X at hx hr
   unfold kS at hr
   split at hr
   ·simp only[hE,a6.not] at hr
    exact gv hs hE bS hG hf hr (CM hs hx (by assumption))
   ·exact absurd hr.symm hf
  ·cases h
 | bin o x y=>
  simp only[bp] at hr
  simp only[eN] at h
  split at h
  ·simp only[bD,ID,jV] at h
   obtain⟨⟨rfl,h2⟩,h3⟩:=h
   exact Uf hs hE bS hG hf h2 h3 hr
  ·cases h
 | eq neg e x y=>
  simp only[bp] at hr
  simp only[eN] at h
  obtain⟨v,h1,hk⟩:=sS hs hE bS hG hf hr
  split at h
  ·split at h
   ·rename_i d ht
    simp only[bD,ID,jV] at h
    obtain⟨⟨⟨e1,h2⟩,h3⟩,h4⟩:=h
    cases he:tE e (aM E.aP fr x) (aM E.aP fr y) with
    | none=>rw[he] at h1;cases h1
    | some b=>
     rw[he] at h1
     simp only[e9,bM] at h1
     subst h1
     rcases(Bool.or_eq_true _ _).mp h2 with h2 | h2
     ·exact gv hs hE bS hG hf hk (agB hs e1 (hT.dt _ _ ht) h2 (bH bS hG h3) (bH bS hG h4) he)
     ·unfold axH at h2
      split at h2
      ·simp only[bD] at h2
       exact gv hs hE bS hG hf hk (JI hT hs e1 (hT.dt _ _ ht) h2.1 h2.2 (bH bS hG h3) (bH bS hG h4) he)
      ·cases h2
   ·cases h
  ·cases h
 | un o x=>
  simp only[bp] at hr
  simp only[eN] at h
  split at h
  ·simp only[bD,jV] at h
   obtain⟨rfl,h2⟩:=h
   exact agF hs hE bS hG hf h2 hr
  ·cases h
 | oE d x=>
  simp only[bp] at hr
  simp only[eN] at h
  split at h
  ·split at h
   ·rename_i kX pa
    simp only[bD,jV] at h
    obtain⟨rfl,h2⟩:=h
    have hx:=bH bS hG h2
    generalize aM E.aP fr x=X at hx hr
    cases X <;> simp only[mU,hE,a6.not] at hr <;> try exact absurd hr.symm hf
    exact gv hs hE bS hG hf hr (DY hs (hT.dt _ _ kX) (hT.dt _ _ pa) hx.eD)
   ·cases h
  ·cases h
 | sG x=>
  simp only[bp] at hr
  simp only[eN] at h
  split at h
  ·split at h
   ·rename_i kX pa
    have hx:=bH bS hG h
    generalize aM E.aP fr x=X at hx hr
    cases X <;> simp only[p5] at hr <;> try exact absurd hr.symm hf
    exact gv hs hE bS hG hf hr (Hx hs (hT.dt _ _ kX) (hT.dt _ _ pa) hx)
   ·cases h
  ·cases h
 | f6 x=>
  simp only[bp] at hr
  simp only[eN] at h
  split at h
  ·split at h
   ·rename_i kX pa
    split at h
    ·rename_i mH
     exact po hs hE bS hG hf (xD hs hE hf (hT.dt _ _ kX) (hT.dt _ _ mH) (hT.dt _ _ pa) (bH bS hG h) hr)
    ·cases h
   ·cases h
  ·cases h
 | ji x=>
  simp only[bp] at hr
  simp only[eN] at h
  split at h
  ·split at h
   ·rename_i kX pa
    split at h
    ·rename_i mH
     exact po hs hE bS hG hf (xC hs hE hf (hT.dt _ _ kX) (hT.dt _ _ pa) (hT.dt _ _ mH) (bH bS hG h) hr)
    ·cases h
   ·cases h
  ·cases h
 | dD t x=>
  simp only[bp,hE,a6.not] at hr
  simp only[eN] at h
  split at h
  ·split at h
   ·cases h
   ·rename_i d hd ht
    simp only[bD] at h
    have:=cQ h.1
    subst this
    exact gv hs hE bS hG hf hr (DZ hs (hT.dt _ _ ht) (by cases d <;> first | rfl | exact absurd rfl (hd _)) (bH bS hG h.2))
   ·cases h
  ·cases h
 | i5 f ez=>
  simp only[bp,hE,a6.not] at hr
  simp only[eN] at h
  split at h
  ·rename_i f' first aiq
   simp only[bD] at h
   have e1:=cQ h.1.1
   have e2:first= #[]:=Array.eq_empty_of_size_eq_zero (cQ h.1.2)
   subst e1
   subst e2
   have:=HG (P:=P) (ty:=ty) hs (f:=f) bS hG h.2
   exact gv hs hE bS hG hf hr (by simpa using this)
  ·cases h
 | makeSlice z bytes l c=>
  simp only[bp] at hr
  simp only[eN] at h
  split at h
  ·split at h
   ·rename_i ht
    simp only[bD,beq_iff_eq] at h
    obtain⟨⟨⟨⟨⟨h1,h2⟩,h3⟩,h4⟩,h5⟩,h6⟩:=h
    exact AJ hs hE bS hG hf (AH hs hE hf (hT.dt _ _ ht) (hT.zero h1) (hT.size h2) (hT.bytes h3) (by simpa [Nat.blt_eq] using h4) (bH bS hG h5) (bH bS hG h6) hr)
   ·cases h
  ·cases h
 | gu x lo hi=>
  simp only[bp] at hr
  simp only[eN] at h
  split at h
  ·split at h
   ·rename_i ht
    simp only[bD] at h
    exact po hs hE bS hG hf (HD hs hE hf bS hG (hT.dt _ _ ht) h.1.1 h.1.2 h.2 hr)
   ·cases h
  ·cases h
 | slice sz x lo hi mx=>
  simp only[bp] at hr
  simp only[eN] at h
  split at h
  ·split at h
   ·rename_i ht
    simp only[bD,beq_iff_eq] at h
    obtain⟨⟨⟨⟨⟨h1,h2⟩,h3⟩,h4⟩,h5⟩,h6⟩:=h
    exact po hs hE bS hG hf (Jx hs hE hf bS hG (hT.dt _ _ ht) (hT.size h1) h2 h3 h4 h5 (by
     intro hm
     rw[hm] at h6
     simpa using h6) hr)
   ·cases h
  ·cases h
 | fieldAddr off x=>
  simp only[bp] at hr
  simp only[eN] at h
  split at h
  ·split at h
   ·rename_i ht
    split at h
    ·rename_i TZ
     split at h
     ·rename_i hz
      simp only[bD] at h
      exact po hs hE bS hG hf (AE hs hE hf (hT.dt _ _ ht) TZ (cQ h.1.1) (hT.size hz) (by have:=h.1.2;rw[Nat.blt_eq] at this;omega) (bH bS hG h.2) hr)
     ·cases h
    ·cases h
   ·cases h
  ·cases h
 | field off n x=>
  simp only[bp] at hr
  simp only[eN] at h
  split at h
  ·split at h
   ·rename_i ht
    split at h
    ·rename_i TZ
     simp only[bD] at h
     exact po hs hE bS hG hf (Jv hs hE hf (hT.dt _ _ ht) TZ (cQ h.1.1) (hT.load h.1.2) (bH bS hG h.2) hr)
    ·cases h
   ·cases h
  ·cases h
 | gh sz x i=>
  simp only[bp] at hr
  simp only[eN] at h
  split at h
  ·split at h
   ·rename_i ht
    simp only[bD,beq_iff_eq] at h
    exact po hs hE bS hG hf (Jw hs hE hf (hT.dt _ _ ht) (hT.size h.1.1) (bH bS hG h.1.2) (bH bS hG h.2) hr)
   ·cases h
  ·cases h
 | gz sz len x i=>
  simp only[bp] at hr
  simp only[eN] at h
  split at h
  ·split at h
   ·rename_i ht
    simp only[bD,beq_iff_eq] at h
    have:=cQ h.1.1.1
    subst this
    exact po hs hE bS hG hf (HA hs hE hf (hT.dt _ _ ht) (hT.size h.1.1.2) (bH bS hG h.1.2) (bH bS hG h.2) hr)
   ·cases h
  ·cases h
 | cO x i=>
  simp only[bp] at hr
  simp only[eN] at h
  split at h
  ·split at h
   ·rename_i ht
    simp only[bD] at h
    exact po hs hE bS hG hf (Hz hs hE hf (hT.dt _ _ ht) (bH bS hG h.1) (bH bS hG h.2) hr)
   ·cases h
  ·cases h
 | sH sz len n x i=>
  simp only[bp] at hr
  simp only[eN] at h
  split at h
  ·split at h
   ·rename_i ht
    simp only[bD,beq_iff_eq] at h
    have:=cQ h.1.1.1.1
    subst this
    exact po hs hE bS hG hf (Hy hs hE hf (hT.dt _ _ ht) (hT.size h.1.1.1.2) (hT.load h.1.1.2) (bH bS hG h.1.2) (bH bS hG h.2) hr)
   ·cases h
  ·cases h
 | extract x i=>
  simp only[bp] at hr
  simp only[eN] at h
  split at h
  ·simp only[bD] at h
   have:=cQ h.1
   subst this
   have hx:=bH bS hG h.2
   generalize aM E.aP fr x=X at hx hr
   cases X <;> simp only[mT] at hr <;> try exact absurd hr.symm hf
   rename_i vs
   obtain⟨v,h1,hk⟩:=sS hs hE bS hG hf hr
   obtain⟨xs,ex,hl,hv⟩:=VR.DU (x:=a.eval _) hx
   have hi:=(bZ.1 h1).1
   exact gv hs hE bS hG hf hk (D0 hs hx h1 ((hv i v _ h1 (d8 (by omega:i < xs.length))).qT _))
  ·cases h
 | call f xs=>
  simp only[bp,hE,a6.not] at hr
  simp only[eN] at h
  split at h
  ·rename_i c
   split at h
   ·rename_i f' hc
    simp only[bD] at h
    have:=cQ h.1
    subst this
    exact pr hs hE hC bS hG hf (k9 bS hG _ _ h.2) (fun dst pos after guard=>by rw[n3 ⟨_,hc,rfl⟩];simp) hr
   ·cases h
  ·cases h
 | jI f xs=>
  simp only[bp,hE,a6.not] at hr
  simp only[eN] at h
  split at h
  ·rename_i c
   split at h
   ·rename_i f' hc
    simp only[bD] at h
    have:=cQ h.1
    subst this
    exact we hs hE hC bS hG hf (k9 bS hG _ _ h.2) (fun dst pos after guard=>by rw[n3 ⟨_,hc,rfl⟩];simp) hr
   ·cases h
  ·cases h
 | cV g xs=>
  simp only[bp] at hr
  simp only[eN] at h
  split at h
  ·rename_i c
   split at h
   ·rename_i g' hc
    simp only[bD] at h
    have hx:=bH bS hG h.1
    generalize aM E.aP fr g=X at hx hr
    cases X <;> simp only[og,hE,a6.not] at hr <;> try exact absurd hr.symm hf
    obtain⟨ys,ey,hv⟩:=VR.Jt (x:=a.eval _) hx
    exact pr hs hE hC bS hG hf ((k9 bS hG _ _ h.2).append hv) (fun dst pos after guard=>by rw[n3 ⟨_,hc,ey⟩]) hr
   ·cases h
  ·cases h
 | pc g xs=>
  simp only[bp] at hr
  simp only[eN] at h
  split at h
  ·rename_i c
   split at h
   ·rename_i g' hc
    simp only[bD] at h
    have hx:=bH bS hG h.1
    generalize aM E.aP fr g=X at hx hr
    cases X <;> simp only[mg,hE,a6.not] at hr <;> try exact absurd hr.symm hf
    obtain⟨ys,ey,hv⟩:=VR.Jt (x:=a.eval _) hx
    exact we hs hE hC bS hG hf ((k9 bS hG _ _ h.2).append hv) (fun dst pos after guard=>by rw[n3 ⟨_,hc,ey⟩]) hr
   ·cases h
  ·cases h
 | len b x=>
  simp only[bp] at hr
  simp only[eN] at h
  split at h
  ·split at h
   ·rename_i ht
    simp only[bD] at h
    exact po hs hE bS hG hf (D1 hs hE hf (hT.dt _ _ ht) (.inl ⟨h.1,rfl⟩) (bH bS hG h.2) hr)
   ·rename_i el ht
    simp only[bD,Bool.not_eq_true'] at h
    exact po hs hE bS hG hf (D1 hs hE hf (hT.dt _ _ ht) (.inr ⟨h.1,el,rfl⟩) (bH bS hG h.2) hr)
   ·cases h
  ·cases h
 | append sz bytes at_ x y=>
  simp only[bp,eA] at hr
  simp only[eN] at h
  split at hr
  rotate_left
  ·exact absurd hr.symm hf
  split at h
  ·rename_i x' y' t t2
   split at h
   ·rename_i el ht
    split at h
    ·rename_i n b z hi
     simp only[bD] at h
     obtain⟨⟨⟨⟨⟨⟨⟨h1,h2⟩,h3⟩,h4⟩,h5⟩,h6⟩,h7⟩,h8⟩:=h
     have e1:=cQ h2
     have e2:=cQ h3
     subst e1
     subst e2
     refine AJ hs hE bS hG hf (wa hs hE hf (z:=z) ⟨hT.dt _ _ ht,?_,hT.info _ _ _ _ hi,cQ h4,by simpa [Nat.blt_eq] using h5,dL h6⟩ (bH bS hG h7) (bH bS hG h8) hr)
     split at h1
     ·rename_i rT;exact .inl ⟨_,hT.dt _ _ rT⟩
     ·rename_i rT;exact .inr (hT.dt _ _ rT)
     ·cases h1
    ·cases h
   ·cases h
  ·cases h
 | mc sz bytes at_ x y=>
  simp only[bp,nQ] at hr
  split at hr
  rotate_left
  ·exact absurd hr.symm hf
  rename_i hxe
  rw[←hxe] at hr
  simp only[eA] at hr
  simp only[eN] at h
  split at hr
  rotate_left
  ·exact absurd hr.symm hf
  split at h
  ·rename_i x' y' t t2
   split at h
   ·rename_i el ht
    split at h
    ·rename_i n b z hi
     simp only[bD] at h
     obtain⟨⟨⟨⟨⟨⟨⟨h1,h2⟩,h3⟩,h4⟩,h5⟩,h6⟩,h7⟩,h8⟩:=h
     have e1:=cQ h2
     have e2:=cQ h3
     subst e1
     subst e2
     refine AJ hs hE bS hG hf (wa hs hE hf (z:=z) ⟨hT.dt _ _ ht,?_,hT.info _ _ _ _ hi,cQ h4,by simpa [Nat.blt_eq] using h5,dL h6⟩ (bH bS hG h7) (bH bS hG h8) hr)
     split at h1
     ·rename_i rT;exact .inl ⟨_,hT.dt _ _ rT⟩
     ·rename_i rT;exact .inr (hT.dt _ _ rT)
     ·cases h1
    ·cases h
   ·cases h
  ·cases h
 | nf sz bytes at_ x y=>
  simp only[bp,p7] at hr
  simp only[eN] at h
  split at hr
  rotate_left
  ·exact absurd hr.symm hf
  split at h
  ·rename_i x' y' t t2
   split at h
   ·rename_i el ht
    split at h
    ·rename_i n b z hi
     simp only[bD] at h
     obtain⟨⟨⟨⟨⟨⟨⟨h1,h2⟩,h3⟩,h4⟩,h5⟩,h6⟩,h7⟩,h8⟩:=h
     have e1:=cQ h2
     have e2:=cQ h3
     subst e1
     subst e2
     refine AJ hs hE bS hG hf (Ea hs hE hf (z:=z) ⟨hT.dt _ _ ht,?_,hT.info _ _ _ _ hi,cQ h4,by simpa [Nat.blt_eq] using h5,dL h6⟩ (bH bS hG h7) (bH bS hG h8) hr)
     split at h1
     ·rename_i rT;exact .inl ⟨_,hT.dt _ _ rT⟩
     ·rename_i rT;exact .inr (hT.dt _ _ rT)
     ·cases h1
    ·cases h
   ·cases h
  ·cases h
 | kP sz bytes x y=>
  simp only[bp] at hr
  simp only[eN] at h
  split at h
  ·rename_i x' y' t t2
   split at h
   ·rename_i el ht
    split at h
    ·rename_i n b z hi
     simp only[bD] at h
     obtain⟨⟨⟨⟨⟨⟨⟨h1,h2⟩,h3⟩,h4⟩,h5⟩,h6⟩,h7⟩,h8⟩:=h
     have e1:=cQ h2
     have e2:=cQ h3
     subst e1
     subst e2
     refine AJ hs hE bS hG hf (Eh hs hE hf (z:=z) ⟨hT.dt _ _ ht,?_,hT.info _ _ _ _ hi,cQ h4,by simpa [Nat.blt_eq] using h5,dL h6⟩ (bH bS hG h7) (bH bS hG h8) hr)
     split at h1
     ·rename_i rT;exact .inl ⟨_,hT.dt _ _ rT⟩
     ·rename_i rT;exact .inr (hT.dt _ _ rT)
     ·cases h1
    ·cases h
   ·cases h
  ·cases h
 | iD sz ps=>
  simp only[bp,mf,hE,a6.not] at hr
  simp only[eN] at h
  obtain⟨hb,cG⟩:=cB hr hf
  split at h
  ·rename_i t len qs
   split at h
   ·rename_i el ht
    simp only[bD,beq_iff_eq] at h
    obtain⟨⟨⟨⟨⟨h1,h2⟩,h3⟩,h4⟩,h5⟩,h6⟩:=h
    obtain⟨ys,e,ct⟩:=oU 0 ps qs.toList h6
    have hlen:ps.length=ys.length:=by
     have:∀(ps:List bG) (qs:List Operand),dj ps qs=true→ps.length=qs.length:=by
      intro ps
      induction ps with
      | nil=>intro qs h;cases qs <;> simp [dj] at h ⊢
      | cons p ps ih=>intro qs h;cases qs with
       | nil=>simp [dj] at h
       | cons q qs=>simp only[dj,bD] at h;simp [ih qs h.2]
     exact this ps ys ct
    have hl:len=ys.length:=by rw[←hlen];exact cQ h4
    simp only[bD,List.all_eq_true] at hb
    have h5':=dL h5
    have:=wE (ty:=ty) hs bS hG (hT.dt _ _ ht) (hT.size h1) (hT.zero h2) (cQ h3) (by rw[←hl];omega) ct rfl hb.1 (fun e he=>⟨(hb.2 e he).1,cQ (hb.2 e he).2⟩)
    rw[←e] at this
    rw[hl]
    exact gv hs hE bS hG hf cG (by simpa using this)
   ·cases h
  ·cases h
 | kG sz len x lo hi mx=>
  simp only[bp] at hr
  simp only[eN] at h
  split at h
  ·split at h
   ·rename_i ht
    simp only[bD,beq_iff_eq] at h
    obtain⟨⟨⟨⟨⟨⟨h0,h1⟩,h2⟩,h3⟩,h4⟩,h5⟩,h6⟩:=h
    have:=cQ h0
    subst this
    exact po hs hE bS hG hf (HE hs hE hf bS hG (hT.dt _ _ ht) (hT.size h1) h2 h3 h4 h5 (by
     intro hm
     rw[hm] at h6
     simpa using h6) hr)
   ·cases h
  ·cases h
 | copy sz x y=>
  simp only[bp] at hr
  simp only[eN] at h
  split at h
  ·rename_i x' y' t t2
   split at h
   ·rename_i el ht
    simp only[bD,beq_iff_eq] at h
    have hx:=bH bS hG h.1.2
    generalize aM E.aP fr x=X at hx hr
    cases X <;> simp only[pf] at hr <;> try exact absurd hr.symm hf
    rename_i al off len cap q
    obtain⟨hq,cG⟩:=cB hr hf
    have:=cQ hq
    subst this
    exact AJ hs hE bS hG hf (Mu hs hE hf (hT.dt _ _ ht) (hT.size h.1.1) (fun a' aIO aIP aid q' e=>by cases e;rfl) hx (bH bS hG h.2) cG)
   ·cases h
  ·cases h
 | min xs=>
  simp only[bp] at hr
  simp only[eN] at h
  split at h
  ·rename_i c
   split at h
   ·rename_i hc
    refine BC hs hE bS hG hf (g:=Builtin.min2) agD h (fun x rest hY dst pos after guard=>?_) hr
    have hY':(c.args.map a.eval).toList=x :: rest:=by rw[Array.toList_map];exact hY
    simp only[execOp,resolve,hc,pure_bind,invoke,builtin,Builtin.min_,hY']
   ·cases h
  ·cases h
 | max xs=>
  simp only[bp] at hr
  simp only[eN] at h
  split at h
  ·rename_i c
   split at h
   ·rename_i hc
    refine BC hs hE bS hG hf (g:=Builtin.max2) agE h (fun x rest hY dst pos after guard=>?_) hr
    have hY':(c.args.map a.eval).toList=x :: rest:=by rw[Array.toList_map];exact hY
    simp only[execOp,resolve,hc,pure_bind,invoke,builtin,Builtin.max_,hY']
   ·cases h
  ·cases h
 | makeMap at_=>
  simp only[bp] at hr
  simp only[eN] at h
  split at h
  ·exact AJ hs hE bS hG hf (Ec hs hE hf hr)
  ·cases h
 | mB kd m x v=>
  simp only[bp] at hr
  simp only[eN] at h
  have key:∀{t:TypeId} {m' x' v':Operand} {o:Op},(match T.dt t with
   | some (.map kt _)=>
    match T.dt kt with
    | some d=>nO kd d && cg m m' && cg x x' && cg v v'
    | none=>false
   | _=>false)=true→(∀dst pos after guard,execOp a.eval ⟨dst,o,ty,pos,after,guard⟩=(do Instr.mapUpdate t (a.eval m') (a.eval x') (a.eval v');pure .skip:Sem Next))→∃v s',k v s'=r∧tB P o ty a.eval κ s w v s':=by
   intro t m' x' v' o h ho
   split at h
   ·rename_i kt et ht
    split at h
    ·rename_i d hd
     simp only[bD] at h
     exact AJ hs hE bS hG hf (HK hs hE hf (hT.dt _ _ ht) (hT.dt _ _ hd) h.1.1.1 (bH bS hG h.1.1.2) (bH bS hG h.1.2) (bH bS hG h.2) ho hr)
    ·cases h
   ·cases h
  split at h
  ·exact key h (fun _ _ _ _=>rfl)
  ·exact key h (fun _ _ _ _=>rfl)
  ·cases h
 | lookup kd z ok m x=>
  simp only[bp] at hr
  simp only[eN] at h
  split at h
  ·split at h
   ·rename_i kt et ht
    split at h
    ·rename_i d n b Z hd hi
     simp only[bD,beq_iff_eq] at h
     obtain⟨⟨⟨⟨h1,h2⟩,h3⟩,h4⟩,h5⟩:=h
     subst h3
     obtain⟨i,i1,_,_,i2⟩:=hT.info _ _ _ _ hi
     exact po hs hE bS hG hf (HL hs hE hf (hT.dt _ _ ht) (hT.dt _ _ hd) h1 i1 i2 h2 (bH bS hG h4) (bH bS hG h5) hr)
    ·cases h
   ·cases h
  ·cases h
 | kO ks f xs=>
  simp only[bp,hE,a6.not] at hr
  simp only[eN] at h
  split at h
  ·rename_i c
   split at h
   ·rename_i f' hc
    simp only[bD] at h
    have:=cQ h.1
    subst this
    obtain⟨v,s',e1,e2⟩:=pr (ty:=ty) (ρ:=a.eval) (o:=.call c) hs hE hC bS hG hf (k9 bS hG _ _ h.2) (fun dst pos after guard=>by rw[n3 ⟨_,hc,rfl⟩];simp) hr
    exact⟨v,s',cB e1 hf |>.2,e2⟩
   ·cases h
  ·cases h
 | lF ks g xs=>
  simp only[bp] at hr
  simp only[eN] at h
  split at h
  ·rename_i c
   split at h
   ·rename_i g' hc
    simp only[bD] at h
    have hx:=bH bS hG h.1
    generalize aM E.aP fr g=X at hx hr
    cases X <;> simp only[ni,hE,a6.not] at hr <;> try exact absurd hr.symm hf
    obtain⟨ys,ey,hv⟩:=VR.Jt (x:=a.eval _) hx
    obtain⟨v,s',e1,e2⟩:=pr (ty:=ty) (ρ:=a.eval) (o:=.call c) hs hE hC bS hG hf ((k9 bS hG _ _ h.2).append hv) (fun dst pos after guard=>by rw[n3 ⟨_,hc,ey⟩]) hr
    exact⟨v,s',cB e1 hf |>.2,e2⟩
   ·cases h
  ·cases h
 | w7 neg x=>
  simp only[bp] at hr
  simp only[eN] at h
  obtain⟨v,h1,hk⟩:=sS hs hE bS hG hf hr
  split at h
  ·split at h
   ·rename_i ht
    simp only[bD,ID,jV] at h
    exact gv hs hE bS hG hf hk (Mp hs h.1 (hT.dt _ _ ht) (bH bS hG h.2) rfl h1)
   ·cases h
  ·cases h
 | no=>exact absurd hr.symm hf
end
def ax.bind(r:ax)(k kp:AV→St→ax):ax:=
 match r with
 | .ok v s=>k v s
 | .panic v s=>kp v s
 | .fail=>.fail
section
variable{E:Env}(hE:E.F= .not)(fr:Nat→AV)(s:St)(k kp:AV→St→ax)
include hE
theorem oI(v:Option AV):oV E s k v=ax.bind (oV E s .ok v) k kp:=by cases v <;> simp [oV,hE,a6.not,ax.bind]
theorem qU(m:Option Nat)(cs:List AV):fm E s k m cs=ax.bind (fm E s .ok m cs) k kp:=by
 cases m <;> simp only[fm,hE,a6.not]
 ·cases cs <;> rfl
 ·cases Nat.ble _ _ <;> rfl
theorem JJ(a:Loc)(off:Nat)(vs:List AV):lG E s k a off vs=ax.bind (lG E s .ok a off vs) k kp:=by
 simp only[lG,hE,a6.not]
 cases s.get a with
 | none=>rfl
 | some o=>
  cases o <;> try rfl
  simp only
  cases(_ && _:Bool) <;> try rfl
  simp only[cond_true]
  cases s.set a _ <;> rfl
theorem HO(x:AV)(lo hi:Option bG):me E fr s k x lo hi=ax.bind (me E fr s .ok x lo hi) k kp:=by
 cases x <;> simp only[me,hE,a6.not] <;> try rfl
 cases cL E.aP fr lo 0 <;> try rfl
 cases cL E.aP fr hi _ <;> try rfl
 simp only
 cases(_ && _:Bool) <;> rfl
theorem JK(z:Nat)(x:AV)(lo hi mx:Option bG):mC E fr s k z x lo hi mx=ax.bind (mC E fr s .ok z x lo hi mx) k kp:=by
 cases x <;> simp only[mC,hE,a6.not] <;> try rfl
 ·cases cL E.aP fr lo 0 <;> try rfl
  cases cL E.aP fr hi _ <;> try rfl
  cases mx with
  | none=>simp only;cases(_ && _:Bool) <;> rfl
  | some x=>
   simp only
   rename_i g _ _
   cases eE (aM E.aP fr x) <;> cases g <;> try rfl
   all_goals simp only;cases(_ && _:Bool) <;> rfl
 ·cases cL E.aP fr lo 0 <;> try rfl
  cases cL E.aP fr hi _ <;> try rfl
  cases cL E.aP fr mx _ <;> try rfl
  simp only;cases(_ && _:Bool) <;> rfl
theorem Ei(q bytes:Nat)(b:Loc)(x y:AV):mR E s k q bytes b x y=ax.bind (mR E s .ok q bytes b x y) k kp:=by
 simp only[mR,hE,a6.not]
 cases y <;> try rfl
 rename_i z new _
 cases x <;> try rfl
 rename_i sz es g
 simp only
 cases(_ && _:Bool) <;> try rfl
 simp only[cond_true]
 cases new <;> try rfl
 cases g <;> try rfl
 ·simp only
  cases Av s b _ <;> try rfl
  simp only[cond_true]
  cases s.gK b _ <;> rfl
 ·simp only
  rename_i a
  cases s.get a <;> try rfl
  rename_i o
  cases o <;> try rfl
  simp only
  cases(_ && _:Bool) <;> try rfl
  simp only[cond_true]
  cases s.set a _ <;> rfl
theorem HP(z n:Nat)(x:AV)(lo hi mx:Option bG):kf E fr s k z n x lo hi mx=ax.bind (kf E fr s .ok z n x lo hi mx) k kp:=by
 cases x <;> simp only[kf,hE,a6.not] <;> try rfl
 cases cL E.aP fr lo 0 <;> try rfl
 cases cL E.aP fr hi _ <;> try rfl
 cases cL E.aP fr mx _ <;> try rfl
 simp only;cases(_ && _:Bool) <;> rfl
theorem wg(q bytes:Nat)(b:Loc)(x y:AV):fC E s k q bytes b x y=ax.bind (fC E s .ok q bytes b x y) k kp:=by
 simp only[fC,hE,a6.not]
 cases dl s y with
 | none=>rfl
 | some p=>
  obtain⟨z,new⟩:=p
  cases x <;> try rfl
  ·rename_i sz es g
   simp only
   cases(_ && _:Bool) <;> try rfl
   simp only[cond_true]
   cases new <;> try rfl
   cases g <;> try rfl
   ·simp only
    cases s.gK b _ <;> rfl
   ·simp only
    cases s.gK b _ <;> rfl
   rename_i a
   simp only
   cases s.get a <;> try rfl
   rename_i o
   cases o <;> try rfl
   simp only
   cases(_ && _:Bool) <;> try rfl
   simp only[cond_true]
   cases s.set a _ <;> rfl
  ·rename_i a off len cap sz
   simp only
   cases s.get a <;> try rfl
   rename_i o
   cases o <;> try rfl
   simp only
   cases(_ && _:Bool) <;> try rfl
   simp only[cond_true]
   cases s.set a _ <;> rfl
theorem HQ(kd:KD)(m x v:AV):mh E s k kd m x v=ax.bind (mh E s .ok kd m x v) k kp:=by
 cases m <;> simp only[mh,hE,a6.not] <;> try rfl
 cases s.get _ <;> try rfl
 rename_i o
 cases o <;> try rfl
 simp only
 cases(_ && _:Bool) <;> try rfl
 simp only[cond_true]
 cases putKey x v _ <;> try rfl
 simp only
 cases s.set _ _ <;> rfl
theorem HR(kd:KD)(z:AV)(ok:Bool)(m x:AV):mi E s k kd z ok m x=ax.bind (mi E s .ok kd z ok m x) k kp:=by
 simp only[mi,hE,a6.not]
 cases isKey kd x <;> try rfl
 simp only[cond_true]
 cases entriesOf s m <;> try rfl
 simp only
 cases findKey x _ <;> try rfl
 rename_i o
 cases o <;> rfl
theorem Ug(sz:Nat)(x i:AV):p0 E s k sz x i=ax.bind (p0 E s .ok sz x i) k kp:=by
 simp only[p0,hE,a6.not]
 cases eE i <;> try rfl
 cases x <;> try rfl
 ·simp only
  cases Nat.beq _ _ <;> try rfl
  simp only[cond_true]
  rename_i es _
  split <;> rfl
 ·simp only
  cases(_ && _:Bool) <;> rfl
theorem HS(sz len:Nat)(x i:AV):kQ E s k sz len x i=ax.bind (kQ E s .ok sz len x i) k kp:=by
 simp only[kQ,hE,a6.not]
 cases eE i <;> try rfl
 simp only
 cases Nat.blt _ _ <;> try rfl
 cases x <;> rfl
theorem BD(f:Nat)(args:List AV):cV E s k kp f args=ax.bind (cV E s .ok .panic f args) k kp:=by
 simp only[cV]
 cases E.call f args s <;> try rfl
 simp only
 cases Nat.beq _ _ <;> rfl
theorem xF(xs:List (Option Nat×AV))(f:Nat)(args:List AV):i6 E s k kp xs f args=ax.bind (i6 E s .ok .panic xs f args) k kp:=by
 simp only[i6,cV]
 cases E.call f args s <;> try rfl
 simp only
 cases Nat.beq _ _ <;> try rfl
 simp only[cond_true]
 cases xs.all _ <;> rfl
theorem xG(f:Nat)(args:List AV):i9 E s k f args=ax.bind (i9 E s .ok f args) k kp:=by
 simp only[i9]
 cases AV.ba args <;> try rfl
 simp only[cond_true]
 cases E.call f args _ <;> try rfl
 rename_i v _
 simp only
 cases v.bo <;> rfl
theorem JL(n:Option Nat)(v:AV):fK E s k n v=ax.bind (fK E s .ok n v) k kp:=by
 cases v <;> simp only[fK] <;> try rfl
 ·rename_i a off
  cases s.get a <;> try rfl
  rename_i o
  cases o <;> try rfl
  exact qU hE s k kp _ _
 ·exact qU hE s k kp _ _
theorem AK(off:Nat)(v:AV):jj E s k off v=ax.bind (jj E s .ok off v) k kp:=by
 cases v <;> simp only[jj,hE,a6.not] <;> rfl
theorem JM(off:Nat)(n:Option Nat)(v:AV):pd E s k off n v=ax.bind (pd E s .ok off n v) k kp:=by
 cases v <;> simp only[pd] <;> try rfl
 exact qU hE s k kp _ _
theorem HT(v i:AV):kR E s k v i=ax.bind (kR E s .ok v i) k kp:=by
 cases v <;> simp only[kR,hE,a6.not] <;> try rfl
 cases eE i <;> try rfl
 simp only
 split <;> rfl
theorem HU(sz len:Nat)(n:Option Nat)(v i:AV):nh E s k sz len n v i=ax.bind (nh E s .ok sz len n v i) k kp:=by
 cases v <;> simp only[nh] <;> try rfl
 cases eE i <;> try rfl
 simp only
 cases Nat.blt _ _ <;> try rfl
 exact qU hE s k kp _ _
theorem Ej(i:Nat)(v:AV):mT E s k i v=ax.bind (mT E s .ok i v) k kp:=by
 cases v <;> simp only[mT] <;> try rfl
 exact oI hE s k kp _
theorem Uh(b:Bool)(v:AV):xc E s k b v=ax.bind (xc E s .ok b v) k kp:=by
 cases b <;> cases v <;> simp only[xc,hE,a6.not] <;> rfl
theorem MD(d x:AV):copyV E s k d x=ax.bind (copyV E s .ok d x) k kp:=by
 cases d <;> simp only[copyV,hE,a6.not] <;> try rfl
 rename_i a off len cap sz
 cases dl s x <;> try rfl
 simp only
 cases s.get a <;> try rfl
 rename_i o
 cases o <;> try rfl
 simp only
 cases(_ && _:Bool) <;> try rfl
 simp only[cond_true]
 cases s.set a _ <;> rfl
theorem JN(q:Nat)(d x:AV):pf E s k q d x=ax.bind (pf E s .ok q d x) k kp:=by
 cases d <;> simp only[pf] <;> try rfl
 cases Nat.beq _ _ <;> first | rfl | skip
 simp only[cond_true]
 exact MD hE s k kp _ _
theorem ME(zero:List AV)(bytes:Nat)(l c:AV):ri E s k zero bytes l c=ax.bind (ri E s .ok zero bytes l c) k kp:=by
 simp only[ri,hE,a6.not]
 cases eE l <;> try rfl
 cases eE c <;> try rfl
 simp only
 cases(_ && _:Bool) <;> rfl
theorem HV(n:Nat)(a v:AV):iS E s k n a v=ax.bind (iS E s .ok n a v) k kp:=by
 cases a <;> simp only[iS] <;> try rfl
 cases(_ && _:Bool) <;> try rfl
 exact JJ hE s k kp _ _ _
theorem Ek(d:IntKind)(v:AV):mU E s k d v=ax.bind (mU E s .ok d v) k kp:=by
 cases v <;> simp only[mU,hE,a6.not] <;> rfl
theorem HW(v:AV):p5 s k v=ax.bind (p5 s .ok v) k kp:=by cases v <;> rfl
theorem xH(v:AV):iE E s k v=ax.bind (iE E s .ok v) k kp:=by
 cases v <;> simp only[iE,hE,a6.not] <;> rfl
theorem xI(v:AV):jk E s k v=ax.bind (jk E s .ok v) k kp:=by
 cases v <;> first | rfl | (simp only[jk];cases dl s _ <;> first | rfl | exact oI hE s k kp _)
theorem MF(c a b:AV):tP E s k c a b=ax.bind (tP E s .ok c a b) k kp:=by
 cases c <;> simp only[tP,hE,a6.not] <;> rfl
theorem CQ(v:AV):kS E s k v=ax.bind (kS E s .ok v) k kp:=by
 simp only[kS,hE,a6.not]
 cases isNil v <;> try rfl
 rename_i b
 cases b <;> rfl
theorem JO(v:AV):qQ E s k v=ax.bind (qQ E s .ok v) k kp:=by
 cases v <;> simp only[qQ,hE,a6.not] <;> try rfl
 rename_i a off len cap sz
 cases a <;> try rfl
 simp only
 rename_i i
 cases s.own[i]? <;> try rfl
 rename_i o
 cases o <;> try rfl
 simp only
 cases(_ && _:Bool) <;> rfl
theorem xJ(sz:Nat)(es:List AV):jl E s k sz es=ax.bind (jl E s .ok sz es) k kp:=by
 simp only[jl,hE,a6.not]
 cases(_ && _:Bool) <;> rfl
theorem JP(f:AV)(args:List AV):og E s k kp f args=ax.bind (og E s .ok .panic f args) k kp:=by
 cases f <;> simp only[og,hE,a6.not] <;> try rfl
 exact BD hE s k kp _ _
theorem HX(f:AV)(args:List AV):mg E s k f args=ax.bind (mg E s .ok f args) k kp:=by
 cases f <;> simp only[mg,hE,a6.not] <;> try rfl
 exact xG hE s k kp _ _
theorem xK(f:AV→AV→Option AV)(xs:List AV):oh E s k f xs=ax.bind (oh E s .ok f xs) k kp:=by
 cases xs <;> simp only[oh] <;> try rfl
 exact oI hE s k kp _
theorem lL(op:ib):bp E fr s k kp op=ax.bind (bp E fr s .ok .panic op) k kp:=by
 cases op <;> simp only[bp]
 case move=>simp only[hE,a6.not];rfl
 case tM=>exact JO hE s k kp _
 case pick=>exact MF hE s k kp _ _ _
 case alloc=>simp only[hE,a6.not];rfl
 case dO x=>simp only[hE,a6.not];cases(aM E.aP fr x).fF <;> rfl
 case jE x=>simp only[hE,a6.not];cases(aM E.aP fr x).fF <;> rfl
 case build=>exact oI hE s k kp _
 case buildSlice=>exact xJ hE s k kp _ _
 case load=>exact JL hE s k kp _ _
 case store=>exact HV hE s k kp _ _ _
 case nilCheck=>exact CQ hE s k kp _
 case bin=>exact oI hE s k kp _
 case eq=>exact oI hE s k kp _
 case un=>exact oI hE s k kp _
 case oE=>exact Ek hE s k kp _ _
 case sG=>exact HW hE s k kp _
 case f6=>exact xI hE s k kp _
 case ji=>exact xH hE s k kp _
 case dD=>simp only[hE,a6.not];rfl
 case i5=>simp only[hE,a6.not];rfl
 case makeSlice=>exact ME hE s k kp _ _ _ _
 case gu=>exact HO hE fr s k kp _ _ _
 case slice=>exact JK hE fr s k kp _ _ _ _ _
 case fieldAddr=>exact AK hE s k kp _ _
 case field=>exact JM hE s k kp _ _ _
 case gh=>exact Ug hE s k kp _ _ _
 case gz=>exact HS hE s k kp _ _ _ _
 case cO=>exact HT hE s k kp _ _
 case sH=>exact HU hE s k kp _ _ _ _ _
 case extract=>exact Ej hE s k kp _ _
 case call=>simp only[hE,a6.not];exact BD hE s k kp _ _
 case cV=>exact JP hE s k kp _ _
 case jI=>simp only[hE,a6.not];exact xG hE s k kp _ _
 case pc=>exact HX hE s k kp _ _
 case len=>exact Uh hE s k kp _ _
 case append=>
  simp only[eA]
  cases jJ E.aP fr _ <;> try rfl
  exact wg hE s k kp _ _ _ _ _
 case nf=>
  simp only[p7]
  cases jJ E.aP fr _ <;> try rfl
  exact Ei hE s k kp _ _ _ _ _
 case iD=>
  simp only[mf,hE,a6.not]
  cases(_ && _:Bool) <;> rfl
 case kP=>
  simp only[mS,hE,a6.not]
  cases dl s _ with
  | none=>rfl
  | some p=>
   obtain⟨z,new⟩:=p
   cases new with
   | nil=>rfl
   | cons c new=>
    simp only
    split
    ·cases(_ && _:Bool) <;> rfl
    ·split
     ·cases(_ && _:Bool) <;> rfl
     ·rfl
    ·rfl
 case kG=>exact HP hE fr s k kp _ _ _ _ _ _
 case mc=>
  simp only[nQ]
  cases aM E.aP fr _ <;> try rfl
  simp only[eA]
  cases jJ E.aP fr _ <;> try rfl
  exact wg hE s k kp _ _ _ _ _
 case makeMap=>
  simp only[mV,hE,a6.not]
  cases jJ E.aP fr _ <;> try rfl
  simp only
  cases s.gK _ _ <;> rfl
 case mB=>exact HQ hE s k kp _ _ _ _
 case lookup=>exact HR hE s k kp _ _ _ _ _
 case no=>rfl
 case w7=>exact oI hE s k kp _
 case kO=>simp only[hE,a6.not];exact xF hE s k kp _ _ _
 case lF=>
  simp only[ni,hE,a6.not]
  cases aM E.aP fr _ <;> try rfl
  exact xF hE s k kp _ _ _
 case copy=>exact JN hE s k kp _ _ _
 case min=>exact xK hE s k kp _ _
 case max=>exact xK hE s k kp _ _
end
def gO(o:Option AV)(k:AV→St→ax)(s:St):ax:=
 match o with
 | some v=>k v s
 | none=>.fail
def ib.vR:ib→Nat
 | .load .. | .f6 _ | .lookup ..=>1
 | .tM _ | .alloc _ | .jE _ | .store .. | .makeSlice .. | .append .. | .mc .. | .nf .. | .iD .. | .kP .. | .copy .. | .call .. | .cV .. | .makeMap _ | .mB .. | .kO .. | .lF ..=>2
 | _=>0
def ib.aiu:ib→List bG
 | .move x | .tM x | .dO x | .jE x | .load _ x | .nilCheck x | .un _ x | .oE _ x | .sG x | .f6 x | .ji x | .dD _ x | .fieldAddr _ x | .field _ _ x | .extract x _ | .len _ x=>[x]
 | .pick a b c=>[a,b,c]
 | .w7 _ x=>[x]
 | .alloc _=>[]
 | .build _ ps=>ps.map (·.2.2)
 | .buildSlice _ xs | .i5 _ xs | .call _ xs | .jI _ xs | .min xs | .max xs=>xs
 | .store _ a b | .bin _ a b | .eq _ _ a b | .makeSlice _ _ a b | .gh _ a b | .gz _ _ a b | .cO a b | .sH _ _ _ a b | .copy _ a b | .lookup _ _ _ a b=>[a,b]
 | .append _ _ c a b=>c.toList ++ [a,b]
 | .mc _ _ c a b=>c.toList ++ [a,b]
 | .nf _ _ c a b=>c.toList ++ [a,b]
 | .iD _ xs=>xs
 | .kP _ _ a b=>[a,b]
 | .makeMap c=>c.toList
 | .mB _ a b c=>[a,b,c]
 | .no=>[]
 | .cV f xs | .pc f xs=>f :: xs
 | .kO ks _ xs=>ks.map (·.2) ++ xs
 | .lF ks f xs=>f :: (ks.map (·.2) ++ xs)
 | .gu x lo hi=>x :: (lo.toList ++ hi.toList)
 | .slice _ x lo hi mx=>x :: (lo.toList ++ hi.toList ++ mx.toList)
 | .kG _ _ x lo hi mx=>x :: (lo.toList ++ hi.toList ++ mx.toList)
section
variable{E:Env}(hE:E.F= .not)(fr:Nat→AV)
include hE
theorem rW(v:Option AV):∃o,∀s k,oV E s k v=gO o k s:=⟨v,fun s k=>by cases v <;> simp only[oV,hE,a6.not,gO]⟩
theorem tW(m:Option Nat)(cs:List AV):∃o,∀s k,fm E s k m cs=gO o k s:=by
 cases m <;> simp only[fm,hE,a6.not]
 ·cases cs
  ·exact⟨none,fun _ _=>rfl⟩
  ·exact⟨some _,fun _ _=>rfl⟩
 ·cases Nat.ble _ _
  ·exact⟨none,fun _ _=>rfl⟩
  ·exact⟨some _,fun _ _=>rfl⟩
theorem HY(x:AV)(lo hi:Option bG):∃o,∀s k,me E fr s k x lo hi=gO o k s:=by
 cases x <;> simp only[me,hE,a6.not] <;> try exact⟨none,fun _ _=>rfl⟩
 cases cL E.aP fr lo 0 <;> try exact⟨none,fun _ _=>rfl⟩
 cases cL E.aP fr hi _ <;> try exact⟨none,fun _ _=>rfl⟩
 simp only
 cases(_ && _:Bool)
 ·exact⟨none,fun _ _=>rfl⟩
 ·exact⟨some _,fun _ _=>rfl⟩
theorem HZ(z n:Nat)(x:AV)(lo hi mx:Option bG):∃o,∀s k,kf E fr s k z n x lo hi mx=gO o k s:=by
 cases x <;> simp only[kf,hE,a6.not] <;> try exact⟨none,fun _ _=>rfl⟩
 cases cL E.aP fr lo 0 <;> try exact⟨none,fun _ _=>rfl⟩
 cases cL E.aP fr hi _ <;> try exact⟨none,fun _ _=>rfl⟩
 cases cL E.aP fr mx _ <;> try exact⟨none,fun _ _=>rfl⟩
 simp only
 cases(_ && _:Bool)
 ·exact⟨none,fun _ _=>rfl⟩
 ·exact⟨some _,fun _ _=>rfl⟩
theorem JQ(z:Nat)(x:AV)(lo hi mx:Option bG):∃o,∀s k,mC E fr s k z x lo hi mx=gO o k s:=by
 cases x <;> simp only[mC,hE,a6.not] <;> try exact⟨none,fun _ _=>rfl⟩
 ·cases cL E.aP fr lo 0 <;> try exact⟨none,fun _ _=>rfl⟩
  cases cL E.aP fr hi _ <;> try exact⟨none,fun _ _=>rfl⟩
  cases mx with
  | none=>
   simp only
   cases(_ && _:Bool)
   ·exact⟨none,fun _ _=>rfl⟩
   ·exact⟨some _,fun _ _=>rfl⟩
  | some x=>
   simp only
   rename_i g _ _
   cases eE (aM E.aP fr x) <;> cases g <;> try exact⟨none,fun _ _=>rfl⟩
   all_goals
    simp only
    cases(_ && _:Bool)
    ·exact⟨none,fun _ _=>rfl⟩
    ·exact⟨some _,fun _ _=>rfl⟩
 ·cases cL E.aP fr lo 0 <;> try exact⟨none,fun _ _=>rfl⟩
  cases cL E.aP fr hi _ <;> try exact⟨none,fun _ _=>rfl⟩
  cases cL E.aP fr mx _ <;> try exact⟨none,fun _ _=>rfl⟩
  simp only
  cases(_ && _:Bool)
  ·exact⟨none,fun _ _=>rfl⟩
  ·exact⟨some _,fun _ _=>rfl⟩
theorem Ui(sz:Nat)(x i:AV):∃o,∀s k,p0 E s k sz x i=gO o k s:=by
 simp only[p0,hE,a6.not]
 cases eE i <;> try exact⟨none,fun _ _=>rfl⟩
 rename_i i
 cases x <;> try exact⟨none,fun _ _=>rfl⟩
 ·simp only
  cases Nat.beq _ _
  ·exact⟨none,fun _ _=>rfl⟩
  rename_i es _
  simp only[cond_true]
  cases es[i]?
  ·exact⟨none,fun _ _=>rfl⟩
  ·exact⟨some _,fun _ _=>rfl⟩
 ·simp only
  cases(_ && _:Bool)
  ·exact⟨none,fun _ _=>rfl⟩
  ·exact⟨some _,fun _ _=>rfl⟩
theorem H0(sz len:Nat)(x i:AV):∃o,∀s k,kQ E s k sz len x i=gO o k s:=by
 simp only[kQ,hE,a6.not]
 cases eE i <;> try exact⟨none,fun _ _=>rfl⟩
 simp only
 cases Nat.blt _ _ <;> try exact⟨none,fun _ _=>rfl⟩
 cases x <;> first | exact⟨none,fun _ _=>rfl⟩ | exact⟨some _,fun _ _=>rfl⟩
theorem xL(f:Nat)(args:List AV):∃o,∀s k,i9 E s k f args=gO o k s:=by
 simp only[i9]
 cases AV.ba args <;> try exact⟨none,fun _ _=>rfl⟩
 simp only[cond_true]
 cases E.call f args _ <;> try exact⟨none,fun _ _=>rfl⟩
 rename_i v _
 simp only
 cases v.bo
 ·exact⟨none,fun _ _=>rfl⟩
 ·exact⟨some _,fun _ _=>rfl⟩
theorem AL(off:Nat)(v:AV):∃o,∀s k,jj E s k off v=gO o k s:=by
 cases v <;> simp only[jj,hE,a6.not] <;> first | exact⟨none,fun _ _=>rfl⟩ | exact⟨some _,fun _ _=>rfl⟩
theorem JR(off:Nat)(n:Option Nat)(v:AV):∃o,∀s k,pd E s k off n v=gO o k s:=by
 cases v <;> simp only[pd] <;> try exact⟨none,fun _ _=>rfl⟩
 exact tW hE _ _
theorem H2(v i:AV):∃o,∀s k,kR E s k v i=gO o k s:=by
 cases v <;> simp only[kR,hE,a6.not] <;> try exact⟨none,fun _ _=>rfl⟩
 cases eE i <;> try exact⟨none,fun _ _=>rfl⟩
 rename_i bs i
 simp only
 cases bs[i]?
 ·exact⟨none,fun _ _=>rfl⟩
 ·exact⟨some _,fun _ _=>rfl⟩
theorem H3(sz len:Nat)(n:Option Nat)(v i:AV):∃o,∀s k,nh E s k sz len n v i=gO o k s:=by
 cases v <;> simp only[nh] <;> try exact⟨none,fun _ _=>rfl⟩
 cases eE i <;> try exact⟨none,fun _ _=>rfl⟩
 simp only
 cases Nat.blt _ _ <;> try exact⟨none,fun _ _=>rfl⟩
 exact tW hE _ _
theorem El(i:Nat)(v:AV):∃o,∀s k,mT E s k i v=gO o k s:=by
 cases v <;> simp only[mT] <;> try exact⟨none,fun _ _=>rfl⟩
 exact rW hE _
theorem Uj(b:Bool)(v:AV):∃o,∀s k,xc E s k b v=gO o k s:=by
 cases b <;> cases v <;> simp only[xc,hE,a6.not] <;> first | exact⟨none,fun _ _=>rfl⟩ | exact⟨some _,fun _ _=>rfl⟩
theorem Em(d:IntKind)(v:AV):∃o,∀s k,mU E s k d v=gO o k s:=by
 cases v <;> simp only[mU,hE,a6.not] <;> first | exact⟨none,fun _ _=>rfl⟩ | exact⟨some _,fun _ _=>rfl⟩
omit hE in
theorem H4(v:AV):∃o,∀s k,p5 s k v=gO o k s:=by
 cases v <;> simp only[p5] <;> first | exact⟨none,fun _ _=>rfl⟩ | exact⟨some _,fun _ _=>rfl⟩
theorem xM(v:AV):∃o,∀s k,iE E s k v=gO o k s:=by
 cases v <;> simp only[iE,hE,a6.not] <;> first | exact⟨none,fun _ _=>rfl⟩ | exact⟨some _,fun _ _=>rfl⟩
theorem MG(c a b:AV):∃o,∀s k,tP E s k c a b=gO o k s:=by
 cases c <;> simp only[tP,hE,a6.not] <;> first | exact⟨none,fun _ _=>rfl⟩ | exact⟨some _,fun _ _=>rfl⟩
theorem CS(v:AV):∃o,∀s k,kS E s k v=gO o k s:=by
 simp only[kS,hE,a6.not]
 cases isNil v <;> try exact⟨none,fun _ _=>rfl⟩
 rename_i b
 cases b
 ·exact⟨some _,fun _ _=>rfl⟩
 ·exact⟨none,fun _ _=>rfl⟩
theorem xN(sz:Nat)(es:List AV):∃o,∀s k,jl E s k sz es=gO o k s:=by
 simp only[jl,hE,a6.not]
 cases(_ && _:Bool)
 ·exact⟨none,fun _ _=>rfl⟩
 ·exact⟨some _,fun _ _=>rfl⟩
theorem H5(f:AV)(args:List AV):∃o,∀s k,mg E s k f args=gO o k s:=by
 cases f <;> simp only[mg,hE,a6.not] <;> try exact⟨none,fun _ _=>rfl⟩
 exact xL hE _ _
theorem xO(f:AV→AV→Option AV)(xs:List AV):∃o,∀s k,oh E s k f xs=gO o k s:=by
 cases xs <;> simp only[oh] <;> try exact⟨none,fun _ _=>rfl⟩
 exact rW hE _
theorem En{op:ib}(hc:op.vR=0)(d:Nat):∃o,∀(s:St) k kp,s.aa=d→bp E fr s k kp op=gO o k s:=by
 have key:∀{f:St→(AV→St→ax)→ax},(∃o,∀s k,f s k=gO o k s)→∃o,∀(s:St) (k kp:AV→St→ax),s.aa=d→f s k=gO o k s:=fun⟨o,h⟩=>⟨o,fun s k kp _=>h s k⟩
 cases op <;> simp only[ib.vR] at hc <;> first | exact absurd hc (by decide) | skip
 all_goals simp only[bp]
 case move x=>exact⟨some (aM E.aP fr x),fun s k kp _=>by simp only[hE,a6.not,gO]⟩
 case pick c a b=>exact key (MG hE _ _ _)
 case dO x=>
  cases hv:(aM E.aP fr x).fF
  ·exact⟨none,fun s k kp _=>by simp only[hE,a6.not,gO,cond_false]⟩
  ·exact⟨some (.bO ((aM E.aP fr x).av d).cells),fun s k kp h=>by simp only[hE,a6.not,gO,cond_true,h]⟩
 case build zero parts=>exact⟨(fc E.aP d fr zero parts).map .agg,fun s k kp h=>by rw[h];cases fc E.aP d fr zero parts <;> simp only[oV,hE,a6.not,gO,e9,Option.map_none]⟩
 case buildSlice=>exact key (xN hE _ _)
 case nilCheck=>exact key (CS hE _)
 case bin=>exact key (rW hE _)
 case eq=>exact key (rW hE _)
 case un=>exact key (rW hE _)
 case oE=>exact key (Em hE _ _)
 case sG=>exact key (H4 _)
 case ji=>exact key (xM hE _)
 case dD t x=>exact⟨some (.iface t ((aM E.aP fr x).av d)),fun s k kp h=>by simp only[hE,a6.not,gO,h]⟩
 case i5 f ez=>exact⟨some (.fn f (ez.map fun x=>(aM E.aP fr x).av d)),fun s k kp h=>by simp only[hE,a6.not,gO,h]⟩
 case gu=>exact key (HY hE fr _ _ _)
 case slice=>exact key (JQ hE fr _ _ _ _ _)
 case kG=>exact key (HZ hE fr _ _ _ _ _ _)
 case fieldAddr=>exact key (AL hE _ _)
 case field=>exact key (JR hE _ _ _)
 case gh=>exact key (Ui hE _ _ _)
 case gz=>exact key (H0 hE _ _ _ _)
 case cO=>exact key (H2 hE _ _)
 case sH=>exact key (H3 hE _ _ _ _ _)
 case extract=>exact key (El hE _ _)
 case jI f args=>
  obtain⟨o,h⟩:=xL hE f (args.map fun x=>(aM E.aP fr x).av d)
  exact⟨o,fun s k kp hd=>by simp only[hE,a6.not,hd];exact h s k⟩
 case pc f args=>
  obtain⟨o,h⟩:=H5 hE (aM E.aP fr f) (args.map fun x=>(aM E.aP fr x).av d)
  exact⟨o,fun s k kp hd=>by simp only[hd];exact h s k⟩
 case no=>exact⟨none,fun s k kp _=>rfl⟩
 case w7=>exact key (rW hE _)
 case len=>exact key (Uj hE _ _)
 case min xs=>
  obtain⟨o,h⟩:=xO hE min2 (xs.map fun x=>(aM E.aP fr x).av d)
  exact⟨o,fun s k kp hd=>by simp only[hd];exact h s k⟩
 case max xs=>
  obtain⟨o,h⟩:=xO hE max2 (xs.map fun x=>(aM E.aP fr x).av d)
  exact⟨o,fun s k kp hd=>by simp only[hd];exact h s k⟩
theorem BE{op:ib}(hc:op.vR=1){s s':St}{v:AV}(h:bp E fr s .ok .panic op= .ok v s'):s'=s:=by
 have ov:∀{m:Option AV},oV E s .ok m= .ok v s'→s'=s:=fun {m} h=>by
  cases m <;> simp [oV,hE,a6.not] at h
  exact h.2.symm
 have lv:∀{n:Option Nat} {cs:List AV},fm E s .ok n cs= .ok v s'→s'=s:=fun {n cs} h=>by
  obtain⟨o,ho⟩:=tW hE n cs
  rw[ho] at h
  cases o <;> simp [gO] at h
  exact h.2.symm
 cases op <;> simp only[ib.vR] at hc <;> first | exact absurd hc (by decide) | skip
 all_goals simp only[bp] at h
 case load n a=>
  unfold fK at h
  split at h
  ·exact lv h
  ·split at h
   ·exact lv h
   ·cases h
  ·cases h
 case f6 x=>
  unfold jk at h
  split at h
  ·cases h
  ·split at h
   ·exact ov h
   ·cases h
 case lookup kd z ok m x=>
  unfold mi at h
  simp only[hE,a6.not] at h
  cases hk:isKey kd (AV.av s.aa (aM E.aP fr x)) with
  | false=>rw[hk] at h;cases h
  | true=>
   rw[hk,cond_true] at h
   split at h
   ·split at h
    ·simp only[ax.ok.injEq] at h;exact h.2.symm
    ·simp only[ax.ok.injEq] at h;exact h.2.symm
    ·cases h
   ·cases h
end
theorem St.mI{s s':St}{a:Loc}{o:bg}(h:s.set a o=some s'):s'.aa=s.aa:=by
 unfold St.set at h
 split at h
 ·simp only[bM] at h;subst h;rfl
 ·split at h
  ·simp only[bM] at h;subst h;rfl
  ·split at h
   ·simp only[bM] at h;subst h;simp [St.aa]
   ·cases h
theorem St.pt{s s':St}{a l:Loc}{o:bg}(h:s.gK a o=some (l,s')):s'.aa=s.aa:=by
 unfold St.gK at h
 split at h
 ·simp only[bM,Prod.mk.injEq] at h;rw[←h.2];rfl
 ·split at h
  ·simp only[bM,Prod.mk.injEq] at h;rw[←h.2];rfl
  ·split at h
   ·split at h
    ·simp only[bM,Prod.mk.injEq] at h;rw[←h.2];simp [St.aa]
    ·cases h
   ·cases h
section
variable{E:Env}(hE:E.F= .not)(fr:Nat→AV)
include hE
theorem H6{s s':St}{v:AV}{a:Loc}{off:Nat}{vs:List AV}(h:lG E s .ok a off vs= .ok v s'):s'.aa=s.aa:=by
 simp only[lG,hE,a6.not] at h
 split at h
 ·cases hb:(Nat.ble (off+vs.length) _ && s.iR a vs && vs.all AV.dU) with
  | false=>rw[hb] at h;cases h
  | true=>
   rw[hb,cond_true] at h
   split at h
   ·rename_i dm
    simp only[ax.ok.injEq] at h
    rw[←h.2]
    exact St.mI dm
   ·cases h
 ·cases h
theorem pw{s s':St}{v:AV}{f:Nat}{args:List AV}(h:cV E s .ok .panic f args= .ok v s'):s'.aa=s.aa:=by
 simp only[cV] at h
 split at h
 ·rename_i v' mo hc
  cases hb:Nat.beq mo.aa s.aa with
  | false=>rw[hb] at h;cases h
  | true=>
   rw[hb,cond_true] at h
   simp only[ax.ok.injEq] at h
   rw[←h.2]
   exact cQ hb
 ·cases h
 ·cases h
theorem sT{s s':St}{v:AV}{xs:List (Option Nat×AV)}{f:Nat}{args:List AV}(h:i6 E s .ok .panic xs f args= .ok v s'):cV E s .ok .panic f args= .ok v s'∧∀x,x∈xs→∃l,du s x.1 x.2=some l∧du s' x.1 x.2=some l:=by
 simp only[i6,cV] at h ⊢
 cases hc:E.call f args s <;> rw[hc] at h <;> try cases h
 rename_i v' mo
 simp only at h ⊢
 cases hb:Nat.beq mo.aa s.aa with
 | false=>rw[hb] at h;cases h
 | true=>
  rw[hb,cond_true] at h
  cases ha:xs.all fun x=>rf (du s x.1 x.2) (du mo x.1 x.2) with
  | false=>rw[ha] at h;cases h
  | true=>
   rw[ha,cond_true] at h
   simp only[ax.ok.injEq] at h
   obtain⟨rfl,rfl⟩:=h
   refine⟨by simp,fun x hx=>?_⟩
   exact pN.1 (List.all_eq_true.1 ha x hx)
theorem ja{b:Bool}{x:ax}{v:AV}{s':St}(h:(bif b then x else .fail)= .ok v s'):x= .ok v s':=by
 cases b with
 | true=>exact h
 | false=>cases h
theorem JS{s s':St}{v:AV}{d x:AV}(h:copyV E s .ok d x= .ok v s'):s'.aa=s.aa:=by
 simp only[copyV,hE,a6.not] at h
 split at h
 ·split at h
  ·split at h
   ·have h:=ja hE h
    split at h
    ·rename_i dm
     simp only[ax.ok.injEq] at h
     rw[←h.2]
     exact St.mI dm
    ·cases h
   ·cases h
  ·cases h
 ·cases h
theorem CT{s s':St}{v:AV}{q b:Nat}{l:Loc}{x y:AV}(h:mR E s .ok q b l x y= .ok v s'):s'.aa=s.aa:=by
 simp only[mR,hE,a6.not] at h
 split at h
 ·split at h
  ·have h:=ja hE h
   split at h
   ·cases h
   ·split at h
    ·have h:=ja hE h
     split at h
     ·rename_i jN;simp only[ax.ok.injEq] at h;rw[←h.2];exact St.pt jN
     ·cases h
    ·split at h
     ·have h:=ja hE h
      split at h
      ·rename_i dm
       simp only[ax.ok.injEq] at h
       rw[←h.2]
       exact St.mI dm
      ·cases h
     ·cases h
    ·cases h
  ·cases h
 ·cases h
theorem tX{s s':St}{v:AV}{q b:Nat}{l:Loc}{x y:AV}(h:fC E s .ok q b l x y= .ok v s'):s'.aa=s.aa:=by
 simp only[fC,hE,a6.not] at h
 split at h
 ·cases h
 ·split at h
  ·have h:=ja hE h
   split at h
   ·simp only[ax.ok.injEq] at h;rw[←h.2]
   ·split at h
    ·split at h
     ·rename_i jN;simp only[ax.ok.injEq] at h;rw[←h.2];exact St.pt jN
     ·cases h
    ·split at h
     ·rename_i jN;simp only[ax.ok.injEq] at h;rw[←h.2];exact St.pt jN
     ·cases h
    ·split at h
     ·have h:=ja hE h
      split at h
      ·rename_i dm
       simp only[ax.ok.injEq] at h
       rw[←h.2]
       exact St.mI dm
      ·cases h
     ·cases h
    ·cases h
  ·split at h
   ·have h:=ja hE h
    split at h
    ·rename_i dm
     simp only[ax.ok.injEq] at h
     rw[←h.2]
     exact St.mI dm
    ·cases h
   ·cases h
  ·cases h
theorem MH{op:ib}{s s':St}{v:AV}(h:bp E fr s .ok .panic op= .ok v s'):s'.aa=s.aa:=by
 by_cases h0:op.vR=0
 ·obtain⟨o,ho⟩:=En hE fr h0 s.aa
  rw[ho s _ _ rfl] at h
  cases o <;> simp [gO] at h
  rw[h.2]
 by_cases h1:op.vR=1
 ·rw[BE hE fr h1 h]
 cases op <;> simp only[ib.vR] at h0 h1 <;> first | exact absurd trivial h0 | exact absurd trivial h1 | skip
 all_goals simp only[bp] at h
 case tM x=>
  unfold qQ at h
  split at h
  ·split at h
   ·simp only[hE,a6.not] at h
    have h:=ja hE h
    simp only[ax.ok.injEq] at h
    rw[←h.2]
    rfl
   ·cases h
  ·cases h
 case alloc z=>
  simp only[hE,a6.not,ax.ok.injEq] at h
  rw[←h.2];rfl
 case jE x=>
  simp only[hE,a6.not] at h
  have h:=ja hE h
  simp only[ax.ok.injEq] at h
  rw[←h.2];rfl
 case store n a u=>
  unfold iS at h
  split at h
  ·exact H6 hE (ja hE h)
  ·cases h
 case makeSlice z b l c=>
  unfold ri at h
  split at h
  ·split at h
   ·simp only[hE,a6.not] at h
    have h:=ja hE h
    simp only[ax.ok.injEq] at h
    rw[←h.2];rfl
   ·cases h
  ·cases h
 case call f xs=>
  simp only[hE,a6.not] at h
  exact pw hE h
 case cV f xs=>
  unfold og at h
  split at h
  ·simp only[hE,a6.not] at h
   exact pw hE h
  ·cases h
 case kO ks f xs=>
  simp only[hE,a6.not] at h
  exact pw hE (sT hE h).1
 case lF ks f xs=>
  unfold ni at h
  split at h
  ·simp only[hE,a6.not] at h
   exact pw hE (sT hE h).1
  ·cases h
 case append=>
  unfold eA at h
  split at h
  ·exact tX hE h
  ·cases h
 case nf=>
  unfold p7 at h
  split at h
  ·exact CT hE h
  ·cases h
 case iD=>
  unfold mf at h
  simp only[hE,a6.not] at h
  have h:=ja hE h
  simp only[ax.ok.injEq] at h
  rw[←h.2];rfl
 case kP=>
  unfold mS at h
  simp only[hE,a6.not] at h
  split at h
  ·cases h
  split at h
  ·cases h
  split at h
  ·have h:=ja hE h
   simp only[ax.ok.injEq] at h
   rw[←h.2];rfl
  ·split at h
   ·have h:=ja hE h
    simp only[ax.ok.injEq] at h
    rw[←h.2];rfl
   ·cases h
  ·cases h
 case mc=>
  unfold nQ at h
  split at h
  ·unfold eA at h
   split at h
   ·exact tX hE h
   ·cases h
  ·cases h
 case makeMap=>
  unfold mV at h
  split at h
  ·split at h
   ·rename_i jN
    simp only[hE,a6.not,ax.ok.injEq] at h
    rw[←h.2]
    exact St.pt jN
   ·cases h
  ·cases h
 case mB kd m x u=>
  unfold mh at h
  split at h
  ·split at h
   ·have h:=ja hE h
    split at h
    ·split at h
     ·rename_i dm
      simp only[hE,a6.not,ax.ok.injEq] at h
      rw[←h.2]
      exact St.mI dm
     ·cases h
    ·cases h
   ·cases h
  ·cases h
 case copy q d x=>
  unfold pf at h
  split at h
  ·exact JS hE (ja hE h)
  ·cases h
end
theorem js{G g g':Nat→AV}{o:Option bG}{d:Nat}(h:∀x,x∈o.toList→aM G g x=aM G g' x):cL G g o d=cL G g' o d:=by
 cases o with
 | none=>rfl
 | some x=>simp only[cL,h x (by simp)]
theorem rX{G g g':Nat→AV}{d:Nat}:∀(ps:List (Nat×Nat×bG)) (cs:List AV),(∀x,x∈ps.map (·.2.2)→aM G g x=aM G g' x)→fc G d g cs ps=fc G d g' cs ps
 | [],_,_=>rfl
 | (off,sz,x) :: ps,cs,h=>by
  simp only[fc,h x (by simp)]
  congr 1
  exact rX ps _ (fun y hy=>h y (by simp only[List.map_cons,List.mem_cons];exact .inr hy))
theorem map_congr{G g g':Nat→AV}{f:AV→AV}(xs:List bG)(h:∀x,x∈xs→aM G g x=aM G g' x):xs.map (fun x=>f (aM G g x))=xs.map fun x=>f (aM G g' x):=List.map_congr_left fun x hx=>by rw[h x hx]
theorem MI{E:Env}{g g':Nat→AV}{op:ib}(h:∀x,x∈op.aiu→aM E.aP g x=aM E.aP g' x)(s:St)(k kp:AV→St→ax):bp E g s k kp op=bp E g' s k kp op:=by
 cases op <;> simp only[ib.aiu,List.mem_cons,oR,or_false,forall_eq_or_imp,forall_eq,List.mem_append] at h <;> simp only[bp]
 case build z ps=>rw[rX ps z h]
 case buildSlice sz ps=>
  have:ps.map (aM E.aP g)=ps.map (aM E.aP g'):=List.map_congr_left h
  rw[this]
 case i5 f xs=>rw[map_congr xs h]
 case call f xs=>rw[map_congr xs h]
 case jI f xs=>rw[map_congr xs h]
 case min xs=>rw[map_congr xs h]
 case max xs=>rw[map_congr xs h]
 case cV f xs=>rw[h.1,map_congr xs h.2]
 case pc f xs=>rw[h.1,map_congr xs h.2]
 case gu x lo hi=>
  unfold me
  rw[h.1]
  cases aM E.aP g' x <;> try rfl
  simp only
  rw[js (o:=lo) (fun x hx=>h.2 x (.inl hx)),js (o:=hi) (fun x hx=>h.2 x (.inr hx))]
 case slice z x lo hi mx=>
  unfold mC
  rw[h.1]
  have e1:∀d,cL E.aP g lo d=cL E.aP g' lo d:=fun d=>js (fun x hx=>h.2 x (.inl (.inl hx)))
  have e2:∀d,cL E.aP g hi d=cL E.aP g' hi d:=fun d=>js (fun x hx=>h.2 x (.inl (.inr hx)))
  have e3:∀d,cL E.aP g mx d=cL E.aP g' mx d:=fun d=>js (fun x hx=>h.2 x (.inr hx))
  cases aM E.aP g' x <;> try rfl
  ·simp only[e1,e2]
   cases mx with
   | none=>rfl
   | some y=>
    have:=h.2 y (.inr (by simp))
    simp only[this]
  ·simp only[e1,e2,e3]
 case append q b at_ x y=>
  have e1:jJ E.aP g at_=jJ E.aP g' at_:=by
   cases at_ with
   | none=>rfl
   | some z=>simp only[jJ,h z (.inl (by simp))]
  rw[e1,h x (.inr (.inl rfl)),h y (.inr (.inr rfl))]
 case nf q b at_ x y=>
  have e1:jJ E.aP g at_=jJ E.aP g' at_:=by
   cases at_ with
   | none=>rfl
   | some z=>simp only[jJ,h z (.inl (by simp))]
  rw[e1,h x (.inr (.inl rfl)),h y (.inr (.inr rfl))]
 case iD sz ps=>rw[map_congr ps h]
 case kP q b x y=>rw[h.1,h.2]
 case mc q b at_ x y=>
  have e1:jJ E.aP g at_=jJ E.aP g' at_:=by
   cases at_ with
   | none=>rfl
   | some z=>simp only[jJ,h z (.inl (by simp))]
  rw[e1,h x (.inr (.inl rfl)),h y (.inr (.inr rfl))]
 case kG z n x lo hi mx=>
  unfold kf
  rw[h.1]
  have e1:∀d,cL E.aP g lo d=cL E.aP g' lo d:=fun d=>js (fun x hx=>h.2 x (.inl (.inl hx)))
  have e2:∀d,cL E.aP g hi d=cL E.aP g' hi d:=fun d=>js (fun x hx=>h.2 x (.inl (.inr hx)))
  have e3:∀d,cL E.aP g mx d=cL E.aP g' mx d:=fun d=>js (fun x hx=>h.2 x (.inr hx))
  simp only[e1,e2,e3]
 case kO ks f xs=>
  have e1:(ks.map fun x=>(x.1,aM E.aP g x.2))=ks.map fun x=>(x.1,aM E.aP g' x.2):=List.map_congr_left fun x hx=>by rw[h x.2 (.inl (List.mem_map.2 ⟨x,hx,rfl⟩))]
  rw[map_congr xs (fun x hx=>h x (.inr hx)),e1]
 case lF ks f xs=>
  have e1:(ks.map fun x=>(x.1,aM E.aP g x.2))=ks.map fun x=>(x.1,aM E.aP g' x.2):=List.map_congr_left fun x hx=>by rw[h.2 x.2 (.inl (List.mem_map.2 ⟨x,hx,rfl⟩))]
  rw[h.1,map_congr xs (fun x hx=>h.2 x (.inr hx)),e1]
 case makeMap at_=>
  have e1:jJ E.aP g at_=jJ E.aP g' at_:=by
   cases at_ with
   | none=>rfl
   | some z=>simp only[jJ,h z (by simp)]
  rw[e1]
 all_goals first | rfl | simp only[h]
def iU(g:Nat→AV)(d:Option Nat)(v:AV):Nat→AV:=
 match d with
 | none=>g
 | some n=>fun m=>if m=n then v else g m
def iV(gd:Option (Nat×Bool))(g:Nat→AV):Option Bool:=
 match gd with
 | none=>some true
 | some (t,w)=>
  match g t with
  | .bool b=>some (b == w)
  | .cS _=>some false
  | _=>none
def n4(E:Env)(o:cJ)(g:Nat→AV)(s:St):Option (AV×St):=
 match iV o.guard g with
 | none=>none
 | some false=>some (.cS [],s)
 | some true=>
  match bp E g s .ok .panic o.op with
  | .ok v s'=>some (v,s')
  | _=>none
def pb(E:Env):List cJ→(Nat→AV)→St→Option ((Nat→AV)×St)
 | [],g,s=>some (g,s)
 | o :: os,g,s=>(n4 E o g s).bind fun p=>pb E os (iU g o.dst p.1) p.2
def bG.tmp:bG→List Nat
 | .t n=>[n]
 | .at m b' _=>[m,b']
 | .Jm b' _=>[b']
 | _=>[]
def cJ.looks(o:cJ):List Nat:=o.op.aiu.flatMap bG.tmp ++ (o.guard.map (·.1)).toList
def bG.same:bG→bG→Bool
 | .t n, .t m=>Nat.beq n m
 | .g n, .g m=>Nat.beq n m
 | .at _ b o, .Jm b' o'=>Nat.beq b b' && Nat.beq o o'
 | _,_=>false
theorem bG.kT{a b:bG}(h:a.same b=true)(G g:Nat→AV):aM G g a= .dead∨aM G g a=aM G g b:=by
 cases a <;> cases b <;> simp [bG.same] at h
 ·rw[h];exact .inr rfl
 ·rw[h];exact .inr rfl
 ·rw[h.1,h.2]
  rename_i t _ _ b off
  rcases YL (g t) (g b) off with e | ⟨_,e⟩
  ·exact .inl e
  ·exact .inr e
def JT:Option Nat→Option Nat→Bool
 | none,none=>true
 | some a,some b=>Nat.beq a b
 | _,_=>false
theorem agG{a b:Option Nat}(h:JT a b=true):a=b:=by
 cases a <;> cases b <;> simp [JT] at h <;> simp [h]
def leaves(a b:ib):Bool:=
 match a with
 | .load n x=>
  match b with
  | .kO ks _ _ | .lF ks _ _=>ks.any fun y=>JT n y.1 && x.same y.2
  | .mc ..=>true
  | _=>false
 | _=>false
def indep(a b:cJ):Bool:=
 (match a.dst with
  | some d=> !b.looks.contains d
  | none=>true) &&
 (match b.dst with
  | some d=> !a.looks.contains d
  | none=>true) &&
 (match a.dst,b.dst with
  | some d,some e=> !Nat.beq d e
  | _,_=>true) &&
 (Nat.beq a.op.vR 0 || Nat.beq b.op.vR 0 || (Nat.beq a.op.vR 1 && Nat.beq b.op.vR 1) || leaves a.op b.op || leaves b.op a.op)
theorem agH{G g:Nat→AV}{d:Option Nat}{v:AV}{x:bG}(h:∀n,d=some n→n ∉ x.tmp):aM G (iU g d v) x=aM G g x:=by
 cases d with
 | none=>rfl
 | some n=>
  have h':=h n rfl
  cases x <;> try rfl
  ·rename_i t
   have:n≠t:=by simpa [bG.tmp] using h'
   simp [aM,iU,Ne.symm this]
  ·rename_i t b off
   have:n≠t∧n≠b:=by simpa [bG.tmp,not_or] using h'
   simp [aM,iU,Ne.symm this.1,Ne.symm this.2]
  ·rename_i b off
   have:n≠b:=by simpa [bG.tmp] using h'
   simp [aM,iU,Ne.symm this]
theorem MJ{E:Env}{o:cJ}{g:Nat→AV}{d:Option Nat}{v:AV}(h:∀n,d=some n→n ∉ o.looks)(s:St):n4 E o (iU g d v) s=n4 E o g s:=by
 have h1:iV o.guard (iU g d v)=iV o.guard g:=by
  unfold iV
  cases hg:o.guard with
  | none=>rfl
  | some p=>
   obtain⟨t,w⟩:=p
   cases d with
   | none=>rfl
   | some n=>
    have:n≠t:=fun e=>h n rfl (by rw[cJ.looks,hg];simp [e])
    simp [iU,Ne.symm this]
 unfold n4
 rw[h1,MI (g':=g) (fun x hx=>agH (fun n hn nW=>h n hn (by
  rw[cJ.looks]
  exact List.mem_append_left _ (List.mem_flatMap.2 ⟨x,hx,nW⟩))))]
theorem agI{g:Nat→AV}{d e:Option Nat}{v u:AV}(h:∀n m,d=some n→e=some m→n≠m):iU (iU g d v) e u=iU (iU g e u) d v:=by
 cases d with
 | none=>rfl
 | some n=>
  cases e with
  | none=>rfl
  | some m=>
   have:=h n m rfl rfl
   funext t
   simp only[iU]
   by_cases h1:t=m
   ·by_cases h2:t=n
    ·exact absurd (h2.symm.trans h1) this
    ·simp [h1,Ne.symm this]
   ·simp [h1]
section
variable{E:Env}(hE:E.F= .not)
include hE
theorem IF{o:cJ}(hc:o.op.vR=0){g:Nat→AV}{s s':St}{v:AV}(h:n4 E o g s=some (v,s')):s'=s∧∀s₂:St,s₂.aa=s.aa→n4 E o g s₂=some (v,s₂):=by
 unfold n4 at h ⊢
 cases hw:iV o.guard g with
 | none=>rw[hw] at h;cases h
 | some b=>
  rw[hw] at h
  cases b with
  | false=>
   simp only[bM,Prod.mk.injEq] at h
   exact⟨h.2.symm,fun s₂ _=>by rw[←h.1]⟩
  | true=>
   simp only at h
   obtain⟨x,hx⟩:=En hE g hc s.aa
   rw[hx s _ _ rfl] at h
   cases x with
   | none=>simp [gO] at h
   | some y=>
    simp only[gO,bM,Prod.mk.injEq] at h
    refine⟨h.2.symm,fun s₂ hd=>?_⟩
    simp only
    rw[hx s₂ _ _ hd]
    simp [gO,h.1]
theorem sU{o:cJ}(hc:o.op.vR=1){g:Nat→AV}{s s':St}{v:AV}(h:n4 E o g s=some (v,s')):s'=s:=by
 unfold n4 at h
 cases hw:iV o.guard g with
 | none=>rw[hw] at h;cases h
 | some b=>
  rw[hw] at h
  cases b with
  | false=>simp only[bM,Prod.mk.injEq] at h;exact h.2.symm
  | true=>
   simp only at h
   split at h
   ·rename_i v' mo fD
    simp only[bM,Prod.mk.injEq] at h
    rw[←h.2]
    exact BE hE g hc fD
   ·cases h
theorem Eo{o:cJ}{g:Nat→AV}{s s':St}{v:AV}(h:n4 E o g s=some (v,s')):s'.aa=s.aa:=by
 unfold n4 at h
 cases hw:iV o.guard g with
 | none=>rw[hw] at h;cases h
 | some b=>
  rw[hw] at h
  cases b with
  | false=>simp only[bM,Prod.mk.injEq] at h;rw[h.2]
  | true=>
   simp only at h
   split at h
   ·rename_i v' mo fD
    simp only[bM,Prod.mk.injEq] at h
    rw[←h.2]
    exact MH hE g fD
   ·cases h
theorem sV{n:Option Nat}{cs nX:List AV}{s s':St}{u:AV}{t:St}(h:cs.take (n.getD 1)=nX.take (n.getD 1))(hl:fm E s .ok n cs= .ok u t):fm E s' .ok n nX= .ok u s':=by
 cases n with
 | none=>
  simp only[Option.getD_none] at h
  cases cs with
  | nil=>simp [fm] at hl
  | cons c cs=>
   cases nX with
   | nil=>simp at h
   | cons c' nX=>
    simp only[List.take_succ_cons,List.take_zero,List.cons.injEq,and_true] at h
    subst h
    simp only[fm,hE,a6.not,ax.ok.injEq] at hl ⊢
    exact⟨hl.1,trivial⟩
 | some n=>
  simp only[Option.getD_some] at h
  simp only[fm,hE,a6.not] at hl ⊢
  cases hb:Nat.ble n cs.length with
  | false=>rw[hb] at hl;cases hl
  | true=>
   rw[hb,cond_true] at hl
   simp only[ax.ok.injEq] at hl
   have h1:=dL hb
   have h2:n≤nX.length:=by
    have:=congrArg List.length h
    simp only[List.length_take] at this
    omega
   rw[show Nat.ble n nX.length=true from dy h2,cond_true,←h,hl.1]
theorem wh{n:Option Nat}{v:AV}{s s':St}{l:List AV}{u:AV}{t:St}(h1:du s n v=some l)(h2:du s' n v=some l)(hl:fK E s .ok n v= .ok u t):fK E s' .ok n v= .ok u s':=by
 unfold du at h1 h2
 cases v <;> simp only[cellsOf] at h1 h2 <;> try cases h1
 case bO cs=>exact sV hE rfl hl
 case ref a off=>
  simp only[fK] at hl ⊢
  cases hg:s.get a with
  | none=>rw[hg] at h1;cases h1
  | some o=>
   rw[hg] at h1 hl
   cases o <;> try cases h1
   rename_i cs
   cases qg:s'.get a with
   | none=>rw[qg] at h2;cases h2
   | some o'=>
    rw[qg] at h2
    cases o' <;> try cases h2
    rename_i nX
    simp only[e9,bM] at h2
    exact sV hE h2.symm hl
theorem Ep{s:St}{n:Option Nat}{v:AV}{k:AV→St→ax}:fK E s k n v=match cellsOf s v with | some cs=>fm E s k n cs | none=>.fail:=by
 cases v <;> simp only[fK,cellsOf]
 split <;> rfl
theorem xP{s s':St}{n:Option Nat}{v u:AV}{t:St}(h:cellsOf s v=cellsOf s' v)(hl:fK E s .ok n v= .ok u t):fK E s' .ok n v= .ok u s':=by
 rw[Ep hE,h] at hl
 rw[Ep hE]
 cases hc:cellsOf s' v with
 | none=>rw[hc] at hl;cases hl
 | some cs=>
  rw[hc] at hl
  exact sV hE rfl hl
theorem xQ{s s':St}(h:∀d i,s'.get (.g d i)=s.get (.g d i)∨((∀cs,s.get (.g d i)≠some (.cells cs))∧∀cs,s'.get (.g d i)≠some (.cells cs)))(hd:s'.aa=s.aa)(v:AV):cellsOf s v=cellsOf s' v:=by
 cases v <;> simp only[cellsOf]
 rename_i a off
 have e1:=St.jn s a
 have e2:=St.jn s' a
 rw[hd] at e2
 cases hp:a.av s.aa with
 | l i=>cases a <;> simp [Loc.av] at hp
 | g d i=>
  rw[hp] at e1 e2
  rw[←e1,←e2]
  rcases h d i with e | ⟨n1,n2⟩
  ·rw[e]
  ·cases h1:s.get (.g d i) with
   | none=>
    cases h2:s'.get (.g d i) with
    | none=>rfl
    | some o=>
     cases o <;> try rfl
     exact absurd h2 (n2 _)
   | some o=>
    cases o
    ·exact absurd h1 (n1 _)
    all_goals
     cases h2:s'.get (.g d i) with
     | none=>rfl
     | some o=>
      cases o <;> try rfl
      exact absurd h2 (n2 _)
theorem Er{q b:Nat}{l:Loc}{sz:Nat}{es:List AV}{g:Gr}{y:AV}{s s':St}{v:AV}(h:fC E s .ok q b l (.sl sz es g) y= .ok v s')(w:AV):cellsOf s w=cellsOf s' w:=by
 simp only[fC,hE,a6.not] at h
 split at h
 ·cases h
 ·rename_i z new _
  have h:=ja hE h
  cases new with
  | nil=>simp only[ax.ok.injEq] at h;rw[h.2]
  | cons c cs=>
   have new:∀{o:bg} {l':Loc} {mo:St},(∀cs,o≠.cells cs)→s.gK l o=some (l',mo)→cellsOf s w=cellsOf mo w:=fun {o l' mo} ho hn=>by
    obtain⟨d,i,_,hat⟩:=jX.by hn
    refine xQ hE (fun d' i'=>?_) hat.aa w
    rw[hat.get]
    split
    ·rename_i hdi
     obtain⟨rfl,rfl⟩:=hdi
     obtain⟨lf,h1,h2⟩:=hat.here
     refine .inr ⟨fun cs hc=>?_,fun cs hc=>ho cs (Option.some.inj hc)⟩
     rw[St.sJ,h1] at hc
     simp only[jc] at hc
     rw[←h2,List.getElem?_eq_none (Nat.le_refl _)] at hc
     cases hc
    ·exact .inl rfl
   cases g with
   | any=>cases h
   | nil=>
    simp only at h
    split at h
    ·rename_i hn
     simp only[ax.ok.injEq] at h
     rw[←h.2]
     exact new (fun cs e=>by cases e) hn
    ·cases h
   | exact=>
    simp only at h
    split at h
    ·rename_i hn
     simp only[ax.ok.injEq] at h
     rw[←h.2]
     exact new (fun cs e=>by cases e) hn
    ·cases h
   | bJ a=>
    simp only at h
    split at h
    ·rename_i n kh
     have h:=ja hE h
     split at h
     ·rename_i dm
      simp only[ax.ok.injEq] at h
      rw[←h.2]
      have D7:=dm
      have JU:=kh
      rw[←St.oF] at D7
      rw[←St.jn] at JU
      cases hp:a.av s.aa with
      | l i=>cases a <;> simp [Loc.av] at hp
      | g d i=>
       rw[hp] at D7 JU
       refine xQ hE (fun d' i'=>?_) (St.mI dm) w
       rw[St.DN D7 JU]
       split
       ·rename_i hdi
        obtain⟨rfl,rfl⟩:=hdi
        refine .inr ⟨fun cs hc=>?_,fun cs hc=>by cases hc⟩
        rw[JU] at hc
        cases hc
       ·exact .inl rfl
     ·cases h
    ·cases h
theorem H7{a b:ib}(h:leaves a b=true){g:Nat→AV}{s s':St}{v:AV}(hb:bp E g s .ok .panic b= .ok v s'):∃n x,a= .load n x∧(cellsOf s (aM E.aP g x)=cellsOf s' (aM E.aP g x)∨aM E.aP g x= .dead∨∃l,du s n (aM E.aP g x)=some l∧du s' n (aM E.aP g x)=some l):=by
 unfold leaves at h
 split at h
 ·rename_i n x
  refine⟨n,x,rfl,?_⟩
  have key:∀(ks:List (Option Nat×bG)),(ks.any fun y=>JT n y.1 && x.same y.2)=true→(∀y,y∈ks.map (fun x=>(x.1,aM E.aP g x.2))→∃l,du s y.1 y.2=some l∧du s' y.1 y.2=some l)→aM E.aP g x= .dead∨∃l,du s n (aM E.aP g x)=some l∧du s' n (aM E.aP g x)=some l:=fun ks h1 h2=>by
   obtain⟨y,hy,D4⟩:=List.any_eq_true.1 h1
   simp only[bD] at D4
   rcases bG.kT D4.2 E.aP g with e | e
   ·exact .inl e
   rw[agG D4.1,e]
   exact .inr (h2 _ (List.mem_map.2 ⟨y,hy,rfl⟩))
  split at h
  ·rename_i ks f args
   simp only[bp,hE,a6.not] at hb
   exact .inr (key ks h (sT hE hb).2)
  ·rename_i ks f args
   simp only[bp] at hb
   unfold ni at hb
   split at hb
   ·simp only[hE,a6.not] at hb
    exact .inr (key ks h (sT hE hb).2)
   ·cases hb
  ·rename_i q b at_ x y
   simp only[bp] at hb
   unfold nQ at hb
   split at hb
   ·unfold eA at hb
    split at hb
    ·exact .inl (Er hE hb _)
    ·cases hb
   ·cases hb
  ·cases h
 ·cases h
theorem BF{a b:cJ}(h:leaves a.op b.op=true){g:Nat→AV}{s s':St}{v:AV}(hb:n4 E b g s=some (v,s')){u:AV}:n4 E a g s=some (u,s)↔n4 E a g s'=some (u,s'):=by
 unfold n4 at hb
 cases hw:iV b.guard g with
 | none=>rw[hw] at hb;cases hb
 | some w=>
  rw[hw] at hb
  cases w with
  | false=>simp only[bM,Prod.mk.injEq] at hb;rw[hb.2]
  | true=>
   simp only at hb
   split at hb
   ·rename_i v' mo fD
    simp only[bM,Prod.mk.injEq] at hb
    rw[hb.2] at fD
    obtain⟨n,x,ha,DL⟩:=H7 hE h fD
    unfold n4
    cases hwa:iV a.guard g with
    | none=>simp
    | some w=>
     cases w with
     | false=>simp
     | true=>
      simp only[ha,bp]
      rcases DL with e0 | e | ⟨l,h1,h2⟩
      ·constructor
       ·intro hq
        split at hq
        ·rename_i Es
         simp only[bM,Prod.mk.injEq] at hq
         rw[xP hE e0 Es,hq.1]
        ·cases hq
       ·intro hq
        split at hq
        ·rename_i Es
         simp only[bM,Prod.mk.injEq] at hq
         rw[xP hE e0.symm Es,hq.1]
        ·cases hq
      ·rw[e];simp [fK]
      constructor
      ·intro hq
       split at hq
       ·rename_i Es
        simp only[bM,Prod.mk.injEq] at hq
        rw[wh hE h1 h2 Es,hq.1]
       ·cases hq
      ·intro hq
       split at hq
       ·rename_i Es
        simp only[bM,Prod.mk.injEq] at hq
        rw[wh hE h2 h1 Es,hq.1]
       ·cases hq
   ·cases hb
theorem BG{a b:ib}(h:leaves a b=true):a.vR=1:=by
 unfold leaves at h
 split at h
 ·rfl
 ·cases h
theorem agJ{a b:cJ}(hi:indep a b=true){rest:List cJ}{g:Nat→AV}{s:St}{r:(Nat→AV)×St}(h:pb E (a :: b :: rest) g s=some r):pb E (b :: a :: rest) g s=some r:=by
 simp only[indep,bD,Bool.or_eq_true] at hi
 obtain⟨⟨⟨h1,h2⟩,h3⟩,h4⟩:=hi
 have d1:∀n,a.dst=some n→n ∉ b.looks:=fun n hn=>by rw[hn] at h1;simpa using h1
 have d2:∀n,b.dst=some n→n ∉ a.looks:=fun n hn=>by rw[hn] at h2;simpa using h2
 have d3:∀n m,a.dst=some n→b.dst=some m→n≠m:=fun n m hn hm e=>by
  rw[hn,hm,e] at h3
  simp at h3
 simp only[pb] at h ⊢
 cases ha:n4 E a g s with
 | none=>rw[ha] at h;cases h
 | some p=>
  obtain⟨va,s1⟩:=p
  rw[ha] at h
  simp only[jc] at h
  cases hb:n4 E b (iU g a.dst va) s1 with
  | none=>rw[hb] at h;cases h
  | some q=>
   obtain⟨vb,s2⟩:=q
   rw[hb] at h
   simp only[jc] at h
   rw[MJ d1] at hb
   have key:∃S,n4 E b g s=some (vb,S)∧n4 E a g S=some (va,s2):=by
    by_cases hc:a.op.vR=0
    ·refine⟨s2,?_⟩
     obtain⟨e1,e2⟩:=IF hE hc ha
     subst e1
     exact⟨hb,e2 s2 (Eo hE hb)⟩
    ·by_cases Uk:b.op.vR=0
     ·refine⟨s,?_⟩
      obtain⟨e1,e2⟩:=IF hE Uk hb
      subst e1
      exact⟨e2 s (Eo hE ha).symm,ha⟩
     ·rcases h4 with(((h4 | h4) | h4) | h4) | h4
      ·exact absurd (cQ h4) hc
      ·exact absurd (cQ h4) Uk
      ·have e1:=sU hE (cQ h4.1) ha
       subst e1
       have e2:=sU hE (cQ h4.2) hb
       subst e2
       exact⟨_,hb,ha⟩
      ·have e1:=sU hE (BG hE h4) ha
       subst e1
       exact⟨s2,hb,(BF hE h4 hb).1 ha⟩
      ·have e2:=sU hE (BG hE h4) hb
       subst e2
       exact⟨s,(BF hE h4 ha).2 hb,ha⟩
   obtain⟨S,aDO,aDP⟩:=key
   rw[aDO]
   simp only[jc]
   rw[MJ d2,aDP]
   simp only[jc]
   rw[←agI d3]
   exact h
theorem Et{o:cJ}:∀(pre:List cJ) {post:List cJ} {g:Nat→AV} {s:St} {r:(Nat→AV)×St},(∀a,a∈pre→indep a o=true)→pb E (pre ++ o :: post) g s=some r→pb E (o :: (pre ++ post)) g s=some r
 | [],_,_,_,_,_,h=>h
 | a :: pre,post,g,s,r,hi,h=>by
  refine agJ hE (hi a List.mem_cons_self) ?_
  simp only[List.cons_append,pb] at h ⊢
  cases ha:n4 E a g s with
  | none=>rw[ha] at h;cases h
  | some p=>
   rw[ha] at h
   simp only[jc] at h ⊢
   exact Et pre (fun x hx=>hi x (List.mem_cons_of_mem _ hx)) h
end
end Go.Ab
