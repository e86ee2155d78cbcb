/- A part of the proof: no condition. -/
import Derived.Test.YtnafklimohmfkaaGreatDoorA0
import Derived.Laws.IdiomStrings
import Derived.MapKept
import Derived.Laws.StructEq
set_option linter.unusedSectionVars false
set_option linter.unusedVariables false
namespace Go.Ab
theorem w4(z:List ai)(v:Array Value)(io:∀κ D,ea κ D z v.toList)(n:Nat):∀κ D,ea κ D (List.replicate n z).flatten (madeCells v (n*z.length)).toList:=by
 intro κ D;have br:v.size=z.length:=by simpa using (io κ D).1
 refine⟨by simp [madeCells],fun j c x a9 aT=>?_⟩;simp only[madeCells,Array.toList_map,fw] at aT;by_cases cL:z.length=0
 ·have:z=[]:=kU cL;subst this;simp at a9
 ·have cp:j<n*z.length:=by
   have:=(bZ.1 a9).1;simpa using this
  have aQ:(Array.range (n*z.length)).toList[j]? =some j:=by simp [cp]
  rw[aQ] at aT;simp only[eU,bV] at aT;have hm:j%z.length<z.length:=Nat.mod_lt _ (by omega);have lx:z[j%z.length]? =some c:=by
   have:∀(n j:Nat),j<n*z.length→(List.replicate n z).flatten[j]? =z[j%z.length]?:=by
    intro n
    induction n with
    |zero=>intro j cp;simp at cp
    |succ n e=>
     intro j cp;rw[List.replicate_succ,List.flatten_cons];by_cases aD:j<z.length
     ·rw[ev aD,fm aD]
     ·rw[i9 (by omega),e _ (by rw[Nat.succ_mul] at cp;omega),←Nat.mod_eq_sub_mod (by omega)]
   rw[←this n j cp];exact a9
  have h:v.toList[j%z.length]? =some x:=by
   have r:j%v.size<v.size:=by rw[br];exact hm
   rw[←aT];simp only[br] at r ⊢;simp [br,hm]
  exact(io κ D).2 _ c x lx h
section
variable{P:Program}{ty:TypeId}{ρ:Operand→Value}{κ:b9}{s:aq}{w:World}(bl:dw κ s w)
include bl
theorem u1{E:Env}(bo:E.F=.not){k:ai→aq→ao}{r:ao}(bq:r≠.fail){t el:TypeId}{z:List ai}{bytes:Nat}{l c:ai}{x y:Operand}(cB:P.underlying t=some (.slice el))(io:jL P el z=true)(dY:fr P el=some z.length)(u:(P.info? el).map (·.bytes)=some bytes)(B:0<bytes)
  (aT:c8 κ (s.aa+1) (l.ak s.aa) (ρ x))(dX:c8 κ (s.aa+1) (c.ak s.aa) (ρ y))(aQ:nY E s k z bytes l c=r):∃fX s',k fX s'=r∧c7 P (.makeSlice t x y) ty ρ κ s w fX s':=by
 unfold nY at aQ;cases br:eE l with
 |none=>rw[br] at aQ;exact absurd aQ.symm bq
 |some m=>
  cases a9:eE c with
  |none=>rw[br,a9] at aQ;exact absurd aQ.symm bq
  |some n=>
   rw[br,a9] at aQ;simp only[bo,bb.not] at aQ;obtain⟨h,H⟩:=cF aQ bq;rw[bL] at h;have aD:=dW h.1;have aG:=dW h.2;obtain⟨I,rfl⟩:=js br;obtain⟨Ck,rfl⟩:=js a9;obtain⟨v,e,bG,_,i,bk,J⟩:=mO io w;have K:i.size=z.length:=by simpa [fr,bk] using dY
   have L:i.bytes=bytes:=by simpa [bk] using u
   have M:(n:Int)≤9223372036854775807:=by have:n*1≤n*bytes:=Nat.mul_le_mul_left _ B;omega
   have hmul:(i.bytes:Int)*(n:Int)≤281474976710656:=by
    have:(i.bytes:Int)*(n:Int)=((n*bytes:Nat):Int):=by rw[L,dE];simp
    omega
   have run:=run_make w t el i v cB bk J I Ck m n (by omega) (by omega) hmul M;simp only[Int.toNat_natCast,K] at run;obtain⟨κ',g1,g2,N,O⟩:=bl.vC (List.replicate n z).flatten (madeCells v.cells (n*z.length)) el (w4 z v.cells bG n _ _) (w':=w.alloc (.cells (madeCells v.cells (n*z.length)) el)) rfl rfl rfl rfl;refine⟨_,_,H,.slice (some ⟨w.heap.size,0,none⟩) m n,κ',_,.inl (fun _ _ _ _=>?_),g2,g1,?_⟩
   ·simp [execOp,aT.eA,dX.eA,run]
   ·simp only[ai.ak,Loc.ak];rw[←N];exact .cw _ _ _ _ _ _ _ (Nat.lt_succ_self _) O aD (.inl rfl)
omit bl in
theorem ot{vs:List ai}(h:vs.all ai.dZ=true){D:Nat}{xs:List Value}(bG:ea κ D vs xs):∀x∈xs,x.oneCell'=true:=by
 intro x aT;obtain⟨j,cp⟩:=List.mem_iff_getElem?.1 aT;have e:=(bZ.1 cp).1;have r:j<vs.length:=by rw[←bG.1];exact e
 have a9:vs[j]? =some vs[j]:=dM r;exact(bG.2 j _ x a9 cp).abm (List.all_eq_true.1 h _ (List.mem_of_getElem? a9))
theorem n1{d i off:Nat}{cs:List ai}{xs:List Value}(bD:s.get (.g d i)=some (.cells cs))(H:off+xs.length≤cs.length)(aD:∀x∈xs,x.oneCell'=true):
  (storeCells ⟨κ.loc d i,off,none⟩ xs).run P w=.ok () (w.setCells (κ.loc d i) off xs):=by
 obtain⟨⟨C,e,lv,r,y,B,_⟩,I⟩:=bl.obj d i _ bD;have J:cs.length≤C.size:=by have:=B.1;simp at this;omega
 have:=run_storeCells_cells (P:=P) (κ.loc d i) off xs 0 w (fun j cp=>by rw[fz r];simp;omega) (fun j cp=>?_) aD
 ·simpa using this
 ·have hu:=y (off+0+j) (by omega);simp only[World.frozen?,r];rw[Bool.and_eq_false_iff];by_cases u:lv.1≤off+0+j
  ·right;simp only[decide_eq_false_iff_not];exact fun h=>hu ⟨u,h⟩
  ·left;simpa using u
omit bl in
theorem nI{a:Loc}{d i:Nat}(r:a.ak s.aa=.g d i){vs:List ai}{xs:List Value}(bG:ea κ (s.aa+1) vs xs)(h:s.ho a vs=true):ea κ (d+1) vs xs:=by
 unfold aq.ho at h;rcases Bool.or_eq_true _ _ ▸ h with h|aG
 rcases Bool.or_eq_true _ _ ▸ h with aD|aD
 ·have:d=s.aa:=by
   cases a with
   |l j=>simp [Loc.ak] at r;exact r.1.symm
   |g ga j=>simp [Loc.ak] at r;simp [aq.uP] at aD;omega
  subst this;exact bG
 ·exact bG.bp aD _ (fun _ _ h=>h)
 ·cases a with
  |l j=>cases aG
  |g e j=>simp only[Loc.ak,Loc.g.injEq] at r;obtain⟨rfl,rfl⟩:=r;exact⟨bG.1,fun j c x a9 aT=>(bG.2 j c x a9 aT).lower (oj aG a9)⟩
theorem Df{E:Env}(bo:E.F=.not){k:ai→aq→ao}{r:ao}(bq:r≠.fail){t:TypeId}{n:Nat}{x y:Operand}{v u:ai}(bX:fr P t=some n)(aT:c8 κ (s.aa+1) (v.ak s.aa) (ρ x))(dX:c8 κ (s.aa+1) u (ρ y))
  (aQ:hp E s k n v u=r):∃fX s',k fX s'=r∧c7 P (.store t x y) ty ρ κ s w fX s':=by
 cases v<;> simp only[ai.ak] at aT<;> simp only[hp] at aQ<;> try exact absurd aQ.symm bq
 rename_i a off;obtain⟨J,h⟩:=cF aQ bq;rw[bL] at J;have hlen:=c2 J.2;have K:=dX.cells J.1;unfold jJ at h;rw[←aq.hU] at h;cases H:a.ak s.aa with
 |l i=>cases a<;> simp [Loc.ak] at H
 |g d i=>
  rw[H] at h aT;obtain⟨e,bI,bk⟩:=aT.na;cases bD:s.get (.g d i) with
  |none=>rw[bD] at h;exact absurd h.symm bq
  |some o=>
   rw[bD] at h;cases o<;> try exact absurd h.symm bq
   rename_i cs;obtain⟨I,B⟩:=cF h bq;rw[bL,bL] at I;have aD:=dW I.1.1;simp only[bo,bb.not] at B;rw[←aq.lY,H] at B;cases L:s.set (.g d i) (.cells (dq cs off u.cells)) with
   |none=>rw[L] at B;exact absurd B.symm bq
   |some s'=>
    rw[L] at B;have M:(ρ y).cells.toList.length=u.cells.length:=K.1;have N:=nI H K I.1.2;obtain⟨g1,g2⟩:=bl.store bD L N aD;have O:=n1 (P:=P) bl bD (off:=off) (xs:=(ρ y).cells.toList) (by omega) (ot I.2 K);have dY:(ρ y).cells.size=n:=by rw[←Array.length_toList,M,hlen]
    refine⟨_,_,B,undef,κ,_,.inr ⟨fun _ _ _ _=>?_,rfl⟩,g2,g1,.dead _⟩;simp [execOp,Instr.storeAt,e,Instr.sureAddr,storeVar,eo bX,dY,O]
theorem k3{v:ai}{X:Value}{sz:Nat}{es:List ai}(bG:c8 κ (s.aa+1) (v.ak s.aa) X)(h:dB s v=some (sz,es)):
  ((∃eB a,v=.str eB∧X=.string a∧a.data.toList.map UInt8.toNat=eB∧sz=1∧es=eB.map fun b=>.int .u8 (b:Nat))∨
   (∃A c,X=.slice A es.length c∧(A=none→es=[])∧∀a,A=some a→Reads κ (s.aa+1) w a (es.flatMap ai.cells)))∧
  ai.bj es=true∧∀e,e∈es→e.cells.length=sz:=by
 cases v
 all_goals first|(simp [dB] at h;done)|skip
 case str eB=>
  simp only[dB,bV,e8] at h;obtain⟨rfl,rfl⟩:=h;obtain⟨a,rfl,r⟩:=bG.im;refine⟨.inl ⟨eB,a,rfl,rfl,r,rfl,rfl⟩,eh.2 (fun c a9=>?_),fun e he=>?_⟩
  ·obtain⟨b,_,rfl⟩:=List.mem_map.1 a9;rfl
  ·obtain⟨b,_,rfl⟩:=List.mem_map.1 he;rfl
 case aW z l g=>
  have key:(z=sz∧l=es)∧(ai.bj es=true∨∀a,g≠.bQ a):=by
   cases g with
   |bQ a=>
    simp only[dB] at h;split at h
    ·rename_i aQ;simp only[bV,e8] at h;exact⟨h,.inl (h.2 ▸ aQ)⟩
    ·cases h
   |nil=>simp only[dB,bV,e8] at h;exact⟨h,.inr fun a e=>by cases e⟩
   |exact=>simp only[dB,bV,e8] at h;exact⟨h,.inr fun a e=>by cases e⟩
   |any=>simp only[dB,bV,e8] at h;exact⟨h,.inr fun a e=>by cases e⟩
  obtain⟨⟨rfl,rfl⟩,u⟩:=key;rcases bG.ie with⟨rfl,_,rfl⟩|⟨a,cap,aF,rfl,_,_,_,cz,y,B,H⟩
  ·exact⟨.inr ⟨none,0,rfl,fun _=>rfl,fun a r=>(by cases r)⟩,rfl,fun e he=>(by simp at he)⟩
  ·refine⟨.inr ⟨some a,cap,rfl,fun r=>(by cases r),fun iE r=>?_⟩,?_,cz⟩
   rotate_left
   ·rcases u with cg|cg
    ·exact cg
    ·exact eh.2 (y.left fun d j e=>by cases g<;> first|exact cg _ rfl |cases e)
   cases r;exact⟨aF,fun j cp=>(bl.jq _ _ (B j cp)).2,H⟩
 case cw a off len cap z=>
  simp only[dB] at h;rw[←aq.hU] at h;cases r:a.ak s.aa with
  |l i=>cases a<;> simp [Loc.ak] at r
  |g d i=>
   rw[r] at h;simp only[ai.ak,r] at bG;obtain⟨mN,rfl,bI,bk,_⟩:=bG.k0;cases bD:s.get (.g d i) with
   |none=>rw[bD] at h;cases h
   |some o=>
    rw[bD] at h;cases o<;> first|(simp at h;done)|skip
    rename_i cs;simp only at h;split at h
    ·rename_i a9;simp only[bV,e8] at h;obtain⟨rfl,rfl⟩:=h;simp only[bL,Bool.not_eq_true'] at a9;have io:z≠0:=fun cL=>by rw[cL] at a9;simp at a9
     have hle:=dW a9.1.2;obtain⟨I,J⟩:=k2 z io len (cs.drop off) (by simp;omega);refine⟨.inr ⟨some ⟨κ.loc d i,off,none⟩,mN,(by rw[fA]),fun r=>(by cases r),fun iE r=>?_⟩,a9.1.1,J⟩;cases r;rw[I];obtain⟨aF,hG,oY⟩:=uV (o0 bl bD off) (show d+1≤s.aa+1 by omega);refine⟨aF,fun j cp=>hG j (by simp at cp ⊢;omega),fun j c cp=>oY j c ?_⟩;rw[List.getElem?_take] at cp;split at cp
     ·exact cp
     ·cases cp
    ·cases h
end
section
variable{P:Program}{ty:TypeId}{ρ:Operand→Value}{κ:b9}{s:aq}{w:World}(bl:dw κ s w)
theorem Dg(b:ByteArray)(n:Nat)(κ:b9)(D:Nat):ea κ D (((b.data.toList.map UInt8.toNat).take n).map fun m=>ai.int .u8 (m:Nat)) ((b.extract 0 n).data.map fun c=>Value.int .u8 c.toNat).toList:=by
 have cL:(b.extract 0 n).data.toList=b.data.toList.take n:=by rw[oq];simp
 have br:b.data.toList.length=b.size:=Array.length_toList;refine⟨?_,fun j c x a9 aT=>?_⟩
 ·rw[Array.toList_map,b2,cL];simp only[b2,List.length_take]
 ·rw[Array.toList_map,cL,fw] at aT;rw[←List.map_take,List.map_map,fw] at a9;cases dQ:(b.data.toList.take n)[j]? with
  |none=>rw[dQ] at aT;cases aT
  |some q=>rw[dQ] at aT a9;simp only[eU,bV,Function.comp] at aT a9;rw[←aT,←a9];exact .int _ _
theorem fa{X:Value}{sz:Nat}{es:List ai}{v:ai}(h:(∃eB a,v=.str eB∧X=.string a∧a.data.toList.map UInt8.toNat=eB∧sz=1∧es=eB.map fun b=>.int .u8 (b:Nat))∨
   (∃A c,X=.slice A es.length c∧(A=none→es=[])∧∀a,A=some a→Reads κ (s.aa+1) w a (es.flatMap ai.cells)))(dY:∀e,e∈es→e.cells.length=sz)(n:Nat)(bX:n≤es.length)(w':World)(hw:∀a,w'.cell? a=w.cell? a):
  (Builtin.lenOf X).run P w'=.ok es.length w'∧∃xs:List Value,(Builtin.firstCells sz n X).run P w'=.ok xs.toArray w'∧ea κ (s.aa+1) ((es.take n).flatMap ai.cells) xs:=by
 rcases h with⟨eB,a,_,rfl,r,rfl,rfl⟩|⟨A,c,rfl,aD,aG⟩
 ·have u:a.size=eB.length:=by have:=congrArg List.length r;rw[b2,Array.length_toList] at this;exact this
  simp only[b2] at bX ⊢;refine⟨by simp [Builtin.lenOf,u],((a.extract 0 n).data.map fun c=>Value.int .u8 c.toNat).toList,by simp only[Builtin.firstCells,Array.toArray_toList,Sem.run_pure],?_⟩
  have:=Dg a n κ (s.aa+1);rw[r] at this;have e:(List.map (fun b=>ai.int IntKind.u8 ((b:Nat):Int)) eB).take n=(eB.take n).map fun m=>ai.int .u8 (m:Nat):=by rw[List.map_take]
  rw[e];have y:∀l:List Nat,(l.map fun m=>ai.int .u8 (m:Nat)).flatMap ai.cells=l.map fun m=>ai.int .u8 (m:Nat):=by
   intro l
   induction l with
   |nil=>rfl
   |cons x l B=>simp [List.flatMap_cons,B,ai.cells]
  rw[y];exact this
 ·refine⟨by simp [Builtin.lenOf],?_⟩;cases A with
  |none=>
   have:=aD rfl;subst this
   have:n=0:=by simpa using bX
   subst this;exact⟨[],by simp [Builtin.firstCells],.nil _ _⟩
  |some a=>
   have aQ:=aG a rfl;have H:=eO es sz dY;have hF:Reads κ (s.aa+1) w' a (es.flatMap ai.cells):=by obtain⟨aF,hG,oY⟩:=aQ;exact⟨aF,fun j cp=>by rw[hw];exact hG j cp,oY⟩
   have hle:n*sz≤(es.flatMap ai.cells).length:=by rw[H];exact e7 _ bX
   obtain⟨xs,e,aT⟩:=vE (P:=P) hF hle;refine⟨xs,by simp only[Builtin.firstCells];exact e,?_⟩
   have:(es.flatMap ai.cells).take (n*sz)=(es.take n).flatMap ai.cells:=by
    have bz:es.flatMap ai.cells=(es.take n).flatMap ai.cells++(es.drop n).flatMap ai.cells:=by rw[←List.flatMap_append,List.take_append_drop]
    have cz:((es.take n).flatMap ai.cells).length=n*sz:=by rw[eO _ sz (fun e he=>dY e (List.mem_of_mem_take he)),List.length_take,Nat.min_eq_left bX]
    rw[bz,←cz,List.take_left]
   rw[←this];exact aT
theorem M5(e:Nat):∀(r c:Nat),Builtin.growBy e r c≤max c (e+(e+768)/4):=by
 intro r
 induction r with
 |zero=>intro c;simp only[Builtin.growBy];omega
 |succ r h=>
  intro c;simp only[Builtin.growBy];split
  ·omega
  ·have:=h (c+(c+768)/4);omega
theorem nextslicecap_le{e mv:Nat}(h:mv<e):Builtin.nextslicecap e mv≤2*e+400:=by
 unfold Builtin.nextslicecap;split
 ·omega
 ·split
  ·omega
  ·have:=M5 e 4 mv;omega
structure n2 (P:Program) (t t2 el:TypeId) (sz bytes:Nat) (z:Value):Prop where
 cB:P.underlying t=some (.slice el)
 ou:(∃hN,P.underlying t2=some (.slice hN))∨P.underlying t2=some .string
 info:∃i,P.info? el=some i∧i.size=sz∧i.bytes=bytes∧i.zero=some z
 awy:z.cells.size=sz
 axb:0<bytes
 ml:bytes≤1048576
theorem n2.size{t t2 el:TypeId}{sz bytes:Nat}{z:Value}(h:n2 P t t2 el sz bytes z):fr P el=some sz:=by obtain⟨i,aD,aG,_⟩:=h.info;simp [fr,aD,aG]
theorem run_append_fits{t t2 el:TypeId}{sz bytes:Nat}{z:Value}(h:n2 P t t2 el sz bytes z){base:Option Addr}{fs jt n:Nat}{X:Value}{xs:List Value}(br:(Builtin.lenOf X).run P w=.ok n w)(a9:(Builtin.firstCells sz n X).run P w=.ok xs.toArray w)(bX:fs+n≤jt)
  {w':World}(e:match base with
   |some a=>(storeCells (a.add (fs*sz)) xs).run P w=.ok () w'
   |none=>w'=w):(Builtin.append_ #[t,t2] ty #[.slice base fs jt,X]).run P w=.ok (.slice base (fs+n) jt) w':=by
 cases base with
 |none=>subst e;rcases h.ou with⟨hN,bI⟩|bI<;> simp [Builtin.append_,run_underlying h.cB,run_underlying bI,eo h.size,br,a9,bX]
 |some a=>simp only at e;rcases h.ou with⟨hN,bI⟩|bI<;> simp [Builtin.append_,run_underlying h.cB,run_underlying bI,eo h.size,br,a9,bX,e]
theorem je{t t2 el:TypeId}{sz bytes:Nat}{z:Value}(h:n2 P t t2 el sz bytes z){base:Option Addr}{fs jt n:Nat}{X:Value}{os xs:List Value}(br:(Builtin.lenOf X).run P w=.ok n w)
  (a9:(Builtin.firstCells sz n X).run P w.drew=.ok xs.toArray w.drew)(u:(Builtin.firstCells sz fs (.slice base fs jt)).run P w.drew=.ok os.toArray w.drew)
  (e:xs.length=n*sz)(r:os.length=fs*sz)(bX:jt<fs+n)(N:(fs+n)*bytes≤1099511627776):
  ∃cap C,fs+n≤cap∧C.size=cap*sz∧(∀j,j<(fs+n)*sz→C[j]? =(os++xs)[j]?)∧
   (Builtin.append_ #[t,t2] ty #[.slice base fs jt,X]).run P w=.ok (.slice (some ⟨w.heap.size,0,none⟩) (fs+n) cap) (w.drew.alloc (.cells C el)):=by
 obtain⟨i,bk,O,y,B⟩:=h.info;have Q:(fs+n)*1≤(fs+n)*bytes:=Nat.mul_le_mul_left _ h.axb;have H:¬(fs+n≤jt):=by omega
 have R:Builtin.nextslicecap (fs+n) jt*bytes≤281474976710656:=by
  have aD:=nextslicecap_le bX;have aG:Builtin.nextslicecap (fs+n) jt*bytes≤(2*(fs+n)+400)*bytes:=e7 _ aD;have bz:(2*(fs+n)+400)*bytes=2*((fs+n)*bytes)+400*bytes:=by rw[e0,e6]
  have cz:=h.ml;omega
 let cap:=(Question.appendCap (fs+n) jt el).cut (w.tape w.drawn (.appendCap (fs+n) jt el))
 have vI:fs+n≤cap:=by simp only[cap,Question.cut];omega
 let C:Array Value:=os.toArray++xs.toArray++Builtin.zeroCells z.cells (cap-(fs+n))
 have I:C.size=cap*sz:=by
  have bU:(fs+n)*sz+(cap-(fs+n))*sz=cap*sz:=by rw[←e0];congr 1;omega
  have J:fs*sz+n*sz=(fs+n)*sz:=by rw[e0]
  simp only[C,Array.size_append,List.size_toArray,e,r,Builtin.zeroCells,Array.size_map,Array.size_range,h.awy];omega
 refine⟨cap,C,vI,I,fun j cp=>?_,?_⟩
 ·have J:fs*sz+n*sz=(fs+n)*sz:=by rw[e0]
  simp only[C];rw[Array.getElem?_append_left (by simp only[Array.size_append,List.size_toArray,e,r];omega)];simp
 ·have K:¬(9223372036854775807<((fs:Int)+(n:Int))):=by omega
  have L:¬(281474976710656<Builtin.nextslicecap (fs+n) jt*i.bytes):=by rw[y];omega
  have dQ:(Question.appendCap (fs+n) jt el).forced=false:=rfl;have M:¬(fs+n≤jt):=H;rcases h.ou with⟨hN,bI⟩|bI<;> simp [Builtin.append_,run_underlying h.cB,run_underlying bI,eo h.size,typeInfo,bk,br,M,K,L,dQ,a9,u,zeroValue,B,newRow,C,cap]
end
section
variable{P:Program}{ty:TypeId}{ρ:Operand→Value}{κ:b9}{s:aq}{w:World}(bl:dw κ s w)
theorem hX{t t2:TypeId}{x y:Operand}{z:Value}{w':World}(h:(Builtin.append_ #[t,t2] ty #[ρ x,ρ y]).run P w=.ok z w')(dst:Option Tmp)(pos:String)(after:Array Edge)(guard:Option (Nat×Bool)):
  (execOp ρ ⟨dst,.call {callee:=.builtin .append,args:= #[x,y],argTypes:= #[t,t2]},ty,pos,after,guard⟩).run P w=.ok (.value z) w':=by
 simp [execOp,resolve,invoke,builtin,h]
theorem c8.Dh{κ':b9}{D d i n sz cap b:Nat}{es:List ai}{xs:List Value}(bI:d<D)(bk:i<κ'.n d)(cB:κ'.nB d i es.length=some (⟨b,0,none⟩,cap,sz))(bX:es.length≤cap)(dY:∀e,e∈es→e.cells.length=sz)(aQ:∀e,e∈es→e.low d=true)
  (aT:ea κ' D (es.flatMap ai.cells) xs)(kQ:∀j,j<(es.flatMap ai.cells).length→κ'.F ⟨b,j,none⟩=xs[j]?)(br:n=es.length):c8 κ' D (.aW sz es (.bQ (.g d i))) (.slice (some ⟨b,0,none⟩) n cap):=by
 subst br;refine .aW sz es _ _ _ (fun j=>xs.getD j undef) ⟨bI,bk,cB⟩ bX (fun _=>rfl) dY (.inr ⟨d,i,rfl,aQ⟩) (fun j cp=>?_) (fun j c a9=>?_)
 ·rw[fN rfl];simp only[cf];rw[kQ j cp]
  have:j<xs.length:=by rw[aT.1];exact cp
  simp [List.getD,this]
 ·obtain⟨y,dX,bG⟩:=aT.get a9
  have:xs.getD j undef=y:=by simp [List.getD,dX]
  rw[this];exact bG
include bl
def Form(κ:b9)(s:aq)(w:World)(v:ai)(X:Value)(sz:Nat)(es:List ai):Prop:=
 (∃eB a,v=.str eB∧X=.string a∧a.data.toList.map UInt8.toNat=eB∧sz=1∧es=eB.map fun b=>.int .u8 (b:Nat))∨
   (∃A c,X=.slice A es.length c∧(A=none→es=[])∧∀a,A=some a→Reads κ (s.aa+1) w a (es.flatMap ai.cells))
theorem sa{t t2 el:TypeId}{sz bytes:Nat}{z:Value}(h:n2 P t t2 el sz bytes z){x y:Operand}{es new:List ai}{base:Option Addr}{u:Nat}{Y:ai}(mP:ρ x=.slice base es.length u)(H:Form κ s w Y (ρ y) sz new)(r:∀e,e∈new→e.cells.length=sz)
  (M:(∃A c,ρ x=.slice A es.length c∧(A=none→es=[])∧∀a,A=some a→Reads κ (s.aa+1) w a (es.flatMap ai.cells)))(dY:∀e,e∈es→e.cells.length=sz)(vI:u<es.length+new.length)(N:(es.length+new.length)*bytes≤1099511627776){kT l:Loc}{s':aq}(O:s.gg kT (.tok (es.length+new.length))=some (l,s'))
  (aQ:∀d i,l.ak s.aa=.g d i→∀e,e∈es++new→e.low d=true):
  c7 P (.call {callee:=.builtin .append,args:= #[x,y],argTypes:= #[t,t2]}) ty ρ κ s w (.aW sz (es++new) (.bQ l)) s':=by
 obtain⟨Q,R,br,I⟩:=iG.by O
 obtain⟨hlen,xs,a9,gB⟩:=fa (P:=P) H r new.length (aX _) w.drew (fun _=>rfl);have U:=(fa (P:=P) H r new.length (aX _) w (fun _=>rfl)).1;obtain⟨_,os,J,B⟩:=fa (P:=P) (X:=ρ x) (v:=.dead) (.inr M) dY es.length (aX _) w.drew (fun _=>rfl);simp only[List.take_length] at gB B;have V:xs.length=new.length*sz:=by rw[gB.1,eO new sz r]
 have Z:os.length=es.length*sz:=by rw[B.1,eO es sz dY]
 rw[mP] at J;obtain⟨cap,C,K,ab,ac,ad⟩:=je (ty:=ty) h (base:=base) (fs:=es.length) (jt:=u) U a9 J V Z vI N;obtain⟨κ',g1,g2,ae,af,ag⟩:=bl.RO (w':=w.drew.alloc (.cells C el)) C el (es.length+new.length) sz cap I ab K rfl rfl rfl rfl;refine⟨_,κ',_,.inl (hX (by rw[mP];exact ad)),g2,g1,?_⟩;simp only[ai.ak,cd.ak,br];have L:∀e,e∈es++new→e.cells.length=sz:=fun e he=>by
  rcases List.mem_append.1 he with he|he
  ·exact dY e he
  ·exact r e he
 refine c8.Dh (Nat.lt_succ_of_le I.le) ae (by rw[dm];exact af) (by rw[dm];exact K) L (aQ Q R br) (xs:=os++xs) (by rw[List.flatMap_append];exact(B.append gB).mono g2.k) (fun j cp=>?_) (by rw[dm]);rw[eO _ sz L,dm] at cp;rw[ag j cp,ac j cp]
theorem vJ{t t2 el:TypeId}{sz bytes:Nat}{z:Value}(h:n2 P t t2 el sz bytes z){x y:Operand}{es new:List ai}{base:Option Addr}{r:Nat}{Y:ai}(mP:ρ x=.slice base es.length r)(u:c8 κ (s.aa+1) (Y.ak s.aa) (ρ y))(j0:dB s Y=some (sz,new))
  (B:(∃A c,ρ x=.slice A es.length c∧(A=none→es=[])∧∀a,A=some a→Reads κ (s.aa+1) w a (es.flatMap ai.cells)))(dY:∀e,e∈es→e.cells.length=sz)(aQ:∀e,e∈es→e.bp=true)(vI:r<es.length+new.length)(H:(es.length+new.length)*bytes≤1099511627776){kT l:Loc}{s':aq}(I:s.gg kT (.tok (es.length+new.length))=some (l,s')):
  c7 P (.call {callee:=.builtin .append,args:= #[x,y],argTypes:= #[t,t2]}) ty ρ κ s w (.aW sz (es++new) (.bQ l)) s':=by
 obtain⟨J,K,L⟩:=k3 bl u j0;refine sa bl h mP J L B dY vI H I fun d i _ e he=>ai.mu _ _ ?_
 rcases List.mem_append.1 he with he|he
 ·exact aQ e he
 ·exact eh.1 K e he
theorem vK{t t2 el:TypeId}{q bytes:Nat}{z:Value}(h:n2 P t t2 el q bytes z){x y:Operand}{es new:List ai}{Y:ai}(M:Form κ s w Y (ρ y) q new)(u:∀e,e∈new→e.cells.length=q)(iq:0<new.length){a:Loc}{s':aq}(mP:c8 κ (s.aa+1) (.aW q es (.bQ (a.ak s.aa))) (ρ x))
  (H:s.get a=some (.tok es.length))(aj:(new.flatMap ai.cells).all ai.dZ=true)(I:s.set a (.tok (es.length+new.length))=some s')(Z:uR s a new=true)(al:(es.length+new.length)*bytes≤1099511627776):
  c7 P (.call {callee:=.builtin .append,args:= #[x,y],argTypes:= #[t,t2]}) ty ρ κ s w (.aW q (es++new) (.bQ a)) s':=by
 rw[←aq.hU] at H;rw[←aq.lY] at I;rcases mP.ie with⟨_,bD,_⟩|⟨A,cap,aF,e,bD,bX,aE,cz,B,ab,ac⟩
 ·cases bD
 cases r:a.ak s.aa with
 |l i=>cases a<;> simp [Loc.ak] at r
 |g d i=>
  rw[r] at H I bD B;obtain⟨bI,bk,ad⟩:=bD;have am:∀e,e∈new→e.low d=true:=by
   cases a with
   |l j=>simp only[Loc.ak,Loc.g.injEq] at r;exact ls.1 (r.1 ▸ Z)
   |g ga j=>simp only[Loc.ak,Loc.g.injEq] at r;exact ls.1 (r.1 ▸ Z)
  have an:∀e,e∈es→e.low d=true:=by
   rcases B with B|⟨ga,kf,hN,B⟩
   ·exact fun e he=>ai.mu _ _ (B e he)
   ·cases hN;exact B
  obtain⟨b,aG,aH,t1,aI,⟨ao,kR,ap,t3,t4,t5⟩,t6,t7⟩:=bl.obj d i _ H;rw[ad] at t1;simp only[bV,e8] at t1;obtain⟨rfl,rfl,rfl⟩:=t1;have J:∀e,e∈es++new→e.cells.length=q:=fun e he=>by
   rcases List.mem_append.1 he with he|he
   ·exact cz e he
   ·exact u e he
  have ae:∀e,e∈es++new→e.low d=true:=fun e he=>by
   rcases List.mem_append.1 he with he|he
   ·exact an e he
   ·exact am e he
  have ar:Reads κ (s.aa+1) w ⟨b,0,none⟩ (es.flatMap ai.cells):=⟨aF,fun j cp=>(bl.jq _ _ (ab j cp)).2,ac⟩;have K:=eO es q cz;by_cases L:es.length+new.length≤cap
  ·
   obtain⟨hlen,xs,a9,gB⟩:=fa (P:=P) M u new.length (aX _) w (fun _=>rfl);simp only[List.take_length] at gB;have N:xs.length=new.length*q:=by rw[gB.1,eO new q u]
   have as:(es.length+new.length)*q≤ao.size:=by rw[t4];exact e7 _ L
   rw[e0] at as;have aD:=ot aj gB;have au:=run_storeCells_cells (P:=P) b (es.length*q) xs 0 w (fun j cp=>by rw[fz t3];simp;omega) (fun j cp=>by
    have hu:=t5 (es.length*q+0+j) (by omega);simp only[World.frozen?,t3];rw[Bool.and_eq_false_iff];by_cases af:ap.1≤es.length*q+0+j
    ·right;simp only[decide_eq_false_iff_not];exact fun h=>hu ⟨af,h⟩
    ·left;simpa using af) aD
   have av:=run_append_fits (ty:=ty) h (base:=some ⟨b,0,none⟩) (fs:=es.length) (jt:=cap) hlen a9 L (w':=w.setCells b (es.length*q) xs) (by
    have aw:(⟨b,0,none⟩:Addr).add (es.length*q)=⟨b,es.length*q,none⟩:=by rw[fN rfl];simp
    simp only[aw];simpa using au)
   obtain⟨κ',g1,g2,O,Q⟩:=bl.abk H ad I (by omega) L xs (by rw[N];congr 1;omega);refine⟨_,κ',_,.inl (hX (by rw[e];exact av)),g2,g1,?_⟩;simp only[ai.ak,cd.ak,r];have hold:ea κ (s.aa+1) (es.flatMap ai.cells) ((List.range (es.length*q)).map aF):=by
    refine⟨by simp [K],fun j c x a9 aT=>?_⟩;have cp:j<es.length*q:=by rw[←K];exact(bZ.1 a9).1
    have:(List.range (es.length*q))[j]? =some j:=by simp [cp]
    rw[fw,this] at aT;simp only[eU,bV] at aT;exact aT ▸ ac j c a9
   refine c8.Dh bI (gm bk (g2.k.n d bI)) (by rw[dm];exact O) (by rw[dm];exact L) J ae (xs:=(List.range (es.length*q)).map aF++xs) (by rw[List.flatMap_append];exact(hold.append gB).mono g2.k) (fun j cp=>?_) (by rw[dm]);rw[eO _ q J,dm,e0] at cp;by_cases R:j<es.length*q
   ·rw[ev (by simpa using R)];have U:=g2.k.F _ _ (ab j (by rw[K];exact R));rw[fN rfl] at U;simp only[cf] at U;rw[U];simp [R]
   ·rw[i9 (by simp;omega)];obtain⟨m,rfl⟩:∃m,j=es.length*q+m:=⟨j-es.length*q,by omega⟩;have hm:m<xs.length:=by omega
    rw[Q m xs[m] (dM hm)];simp [hm]
  ·
   obtain⟨hlen,xs,a9,gB⟩:=fa (P:=P) M u new.length (aX _) w.drew (fun _=>rfl);have ax:=(fa (P:=P) M u new.length (aX _) w (fun _=>rfl)).1;obtain⟨_,os,ag,V⟩:=fa (P:=P) (X:=ρ x) (v:=.dead) (.inr ⟨some ⟨b,0,none⟩,cap,e,fun r=>(by cases r),fun iE r=>(by cases r;exact ar)⟩) cz es.length (aX _) w.drew (fun _=>rfl);simp only[List.take_length] at gB V;have N:xs.length=new.length*q:=by rw[gB.1,eO new q u]
   have ay:os.length=es.length*q:=by rw[V.1,K]
   rw[e] at ag;obtain⟨az,C,ah,aA,aB,aC⟩:=je (ty:=ty) h (base:=some ⟨b,0,none⟩) (fs:=es.length) (jt:=cap) ax a9 ag N ay (by omega) al;obtain⟨κ',g1,g2,O,Q⟩:=bl.abl (w':=w.drew.alloc (.cells C el)) H I (by omega) C el az q aA ah rfl rfl rfl rfl;refine⟨_,κ',_,.inl (hX (by rw[e];exact aC)),g2,g1,?_⟩;simp only[ai.ak,cd.ak,r];refine c8.Dh bI (gm bk (g2.k.n d bI)) (by rw[dm];exact O) (by rw[dm];exact ah) J ae (xs:=os++xs) (by rw[List.flatMap_append];exact(V.append gB).mono g2.k) (fun j cp=>?_) (by rw[dm]);rw[eO _ q J,dm] at cp;rw[Q j cp,aB j cp]
theorem re{E:Env}(bo:E.F=.not){k:ai→aq→ao}{r:ao}(bq:r≠.fail){t t2 el:TypeId}{sz bytes:Nat}{z:Value}(h:n2 P t t2 el sz bytes z){x y:Operand}{X Y:ai}
  (mP:c8 κ (s.aa+1) (X.ak s.aa) (ρ x))(M:c8 κ (s.aa+1) (Y.ak s.aa) (ρ y)){kT:Loc}(aQ:fl E s k sz bytes kT X Y=r):∃fX s',k fX s'=r∧c7 P (.call {callee:=.builtin .append,args:= #[x,y],argTypes:= #[t,t2]}) ty ρ κ s w fX s':=by
 unfold fl at aQ;cases j0:dB s Y with
 |none=>rw[j0] at aQ;exact absurd aQ.symm bq
 |some p=>
  obtain⟨ab,new⟩:=p;rw[j0] at aQ;obtain⟨N,ac,L⟩:=k3 bl M j0;cases X<;> simp only[ai.ak] at mP<;> simp only[bo,bb.not] at aQ<;> try exact absurd aQ.symm bq
  case aW q es g=>
   obtain⟨H,u⟩:=cF aQ bq;clear aQ;rw[bL,bL] at H;have O:ab=sz:=c2 H.1.1;have Q:q=sz:=c2 H.1.2;have R:=dW H.2;subst O;subst Q;cases new with
   |nil=>
    simp only at u;refine⟨_,_,u,?_⟩;obtain⟨hlen,xs,a9,gB⟩:=fa (P:=P) N L 0 (aX _) w (fun _=>rfl);have om:xs=[]:=kU (by rw[gB.1];rfl);subst om
    have:∃A cap,ρ x=.slice A es.length cap∧es.length≤cap:=by
     rcases mP.ie with⟨rfl,_,e⟩|⟨a,cap,_,e,_,bX,_⟩
     ·exact⟨none,0,e,aX _⟩
     ·exact⟨some a,cap,e,bX⟩
    obtain⟨A,cap,e,bX⟩:=this;have U:=run_append_fits (ty:=ty) h (base:=A) (fs:=es.length) (jt:=cap) hlen a9 (by simpa using bX) (w':=w) (by cases A with
     |none=>rfl
     |some a=>simp [storeCells])
    refine bJ bl _ (hX (by rw[e];exact U)) ?_;simp only[ai.ak,ek,Nat.add_zero];rw[←e];exact mP
   |cons ag ah=>
    simp only at u;generalize aj:ag::ah=new at *;have iq:0<new.length:=by rw[←aj];simp
    cases g with
    |any=>exact absurd u.symm bq
    |nil=>
     simp only at u;cases I:s.gg kT (.tok (es.length+new.length)) with
     |none=>rw[I] at u;exact absurd u.symm bq
     |some p=>
     obtain⟨l,al⟩:=p;rw[I] at u;refine⟨_,_,u,?_⟩;rcases mP.ie with⟨rfl,_,e⟩|⟨a,cap,_,e,bD,_⟩
     ·exact vJ bl h e M j0 ⟨none,0,e,fun _=>rfl,fun a B=>(by cases B)⟩ (fun e he=>by simp at he) (fun e he=>by simp at he) (by simpa using iq) R I
     ·simp [cd.ak,iP] at bD
    |exact=>
     simp only at u;cases I:s.gg kT (.tok (es.length+new.length)) with
     |none=>rw[I] at u;exact absurd u.symm bq
     |some p=>
     obtain⟨l,al⟩:=p;rw[I] at u;refine⟨_,_,u,?_⟩;rcases mP.ie with⟨_,bD,_⟩|⟨a,cap,aF,e,bD,bX,aE,cz,ad,ae,am⟩
     ·simp [cd.ak] at bD
     ·simp only[cd.ak,iP] at bD;subst bD;exact vJ bl h e M j0 ⟨some a,_,e,fun B=>(by cases B),fun iE B=>(by cases B;exact⟨aF,fun j cp=>(bl.jq _ _ (ae j cp)).2,am⟩)⟩ cz (ad.left fun d j e=>(by cases e)) (by omega) R I
    |bQ a=>
     simp only at u
     ·rw[←aq.hU] at u;cases B:a.ak s.aa with
      |l i=>cases a<;> simp [Loc.ak] at B
      |g d i=>
       rw[B] at u;cases V:s.get (.g d i) with
       |none=>rw[V] at u;exact absurd u.symm bq
       |some o=>
        rw[V] at u;cases o<;> try exact absurd u.symm bq
        rename_i n;obtain⟨Z,K⟩:=cF u bq;rw[bL] at Z;have an:n=es.length:=c2 Z.1;subst an;rw[←aq.lY,B] at K;cases J:s.set (.g d i) (.tok (es.length+new.length)) with
        |none=>rw[J] at K;exact absurd K.symm bq
        |some s'=>
         rw[J] at K;refine⟨_,_,K,?_⟩;have ap:s.get a=some (.tok es.length):=by rw[←aq.hU,B];exact V
         have ar:s.set a (.tok (es.length+new.length))=some s':=by rw[←aq.lY,B];exact J
         refine vK bl h N L iq mP ap Z.2 ar ?_ R;unfold uR;cases a<;> exact ai.iX _ _ ac
  case cw a off len cap q=>
   rw[←aq.hU] at aQ;cases B:a.ak s.aa with
   |l i=>cases a<;> simp [Loc.ak] at B
   |g d i=>
    rw[B] at aQ mP;obtain⟨mN,e,bI,bk,aG,yu⟩:=mP.k0;cases bD:s.get (.g d i) with
    |none=>rw[bD] at aQ;exact absurd aQ.symm bq
    |some o=>
     rw[bD] at aQ;cases o<;> try exact absurd aQ.symm bq
     rename_i cs;obtain⟨H,u⟩:=cF aQ bq;simp only[bL] at H;obtain⟨⟨⟨⟨⟨as,au⟩,av⟩,aw⟩,aH⟩,ax⟩:=H;have O:ab=sz:=c2 as;have Q:q=sz:=c2 au;subst O;subst Q;have bz:=dW av;have cz:=dW aw;rw[←aq.lY,B] at u;have af:=eO new q L;cases J:s.set (.g d i) (.cells (dq cs (off+len*q) (new.flatMap ai.cells))) with
     |none=>rw[J] at u;exact absurd u.symm bq
     |some s'=>
      rw[J] at u;refine⟨_,_,u,?_⟩;obtain⟨hlen,xs,a9,gB⟩:=fa (P:=P) N L new.length (aX _) w (fun _=>rfl);simp only[List.take_length] at gB;have hmul:off+(len+new.length)*q=off+len*q+new.length*q:=by rw[e0];omega
      have aI:xs.length=new.length*q:=by rw[gB.1,af]
      have hi:ai.bj (new.flatMap ai.cells)=true:=eh.2 (fun c a9=>by obtain⟨hN,ay,az⟩:=List.mem_flatMap.1 a9;exact il (eh.1 ac hN ay) az)
      have aA:=nI B gB (by simp [aq.ho,hi]);obtain⟨g1,g2⟩:=bl.store bD J aA (by rw[af];omega);have aB:=n1 (P:=P) bl bD (off:=off+len*q) (xs:=xs) (by omega) (ot ax gB);have aC:mN=cap:=by
       rcases yu with h|⟨ad,ae,_⟩
       ·exact h
       ·omega
      subst aC;have U:=run_append_fits (ty:=ty) h (base:=some ⟨κ.loc d i,off,none⟩) (fs:=len) (jt:=mN) hlen a9 bz (w':=w.setCells (κ.loc d i) (off+len*q) xs) (by
       have aD:(⟨κ.loc d i,off,none⟩:Addr).add (len*q)=⟨κ.loc d i,off+len*q,none⟩:=by rw[fN rfl]
       simp only[aD];exact aB)
      refine⟨_,κ,_,.inl (hX (by rw[e];exact U)),g2,g1,?_⟩;simp only[ai.ak,B];exact .cw d i off _ mN mN q bI bk bz (.inl rfl)
theorem yv{E:Env}(bo:E.F=.not){k:ai→aq→ao}{r:ao}(bq:r≠.fail){t t2 el:TypeId}{sz bytes:Nat}{z:Value}(h:n2 P t t2 el sz bytes z){x y:Operand}{X Y:ai}
  (mP:c8 κ (s.aa+1) (X.ak s.aa) (ρ x))(O:c8 κ (s.aa+1) (Y.ak s.aa) (ρ y)){kT:Loc}(aQ:kC E s k sz bytes kT X Y=r):∃fX s',k fX s'=r∧c7 P (.call {callee:=.builtin .append,args:= #[x,y],argTypes:= #[t,t2]}) ty ρ κ s w fX s':=by
 unfold kC at aQ;cases Y<;> simp only[ai.ak] at O<;> simp only[bo,bb.not] at aQ<;> try exact absurd aQ.symm bq
 rename_i V new al;cases X<;> simp only[ai.ak] at mP<;> try exact absurd aQ.symm bq
 rename_i q es g;obtain⟨K,B⟩:=cF aQ bq;clear aQ;rw[bL,bL] at K;have Z:V=sz:=c2 K.1.1;have ab:q=sz:=c2 K.1.2;have Q:=dW K.2;subst Z;subst ab;have ac:Form κ s w .dead (ρ y) q new∧∀e,e∈new→e.cells.length=q:=by
  rcases O.ie with⟨rfl,_,e⟩|⟨a,cap,aF,e,_,_,_,cz,_,ad,ae⟩
  ·exact⟨.inr ⟨none,0,e,fun _=>rfl,fun a I=>(by cases I)⟩,fun e he=>(by simp at he)⟩
  ·exact⟨.inr ⟨some a,cap,e,fun I=>(by cases I),fun iE I=>(by cases I;exact⟨aF,fun j cp=>(bl.jq _ _ (ad j cp)).2,ae⟩)⟩,cz⟩
 obtain⟨R,U⟩:=ac;cases new with
 |nil=>exact absurd B.symm bq
 |cons af ag=>
  simp only at B;generalize ah:af::ag=new at *;have iq:0<new.length:=by rw[←ah];simp
  cases g with
  |any=>exact absurd B.symm bq
  |exact=>exact absurd B.symm bq
  |nil=>
   simp only at B;obtain⟨J,H⟩:=cF B bq;cases u:s.gg kT (.tok (es.length+new.length)) with
   |none=>rw[u] at H;exact absurd H.symm bq
   |some p=>
   obtain⟨l,am⟩:=p;rw[u] at H;refine⟨_,_,H,?_⟩;rcases mP.ie with⟨rfl,_,e⟩|⟨a,cap,_,e,bD,_⟩
   ·refine sa bl h e R U ⟨none,0,e,fun _=>rfl,fun a I=>(by cases I)⟩ (fun e he=>by simp at he) (by simpa using iq) Q u fun d i br e he=>?_
    simp only[List.nil_append] at he;have bI:uR s kT new=true→∀e,e∈new→e.low d=true:=by
     intro J;cases kT with
     |l j=>simp only[aq.gg,bV,e8] at u;obtain⟨rfl,_⟩:=u;simp only[Loc.ak,Loc.g.injEq] at br;exact ls.1 (br.1 ▸ J)
     |g ga j=>
      simp only[aq.gg] at u;split at u
      ·rename_i an;simp only[bV,e8] at u;obtain⟨rfl,_⟩:=u;simp only[Loc.ak,Loc.g.injEq] at br
       have:ga=d:=by omega
       exact ls.1 (this ▸ J)
      ·split at u
       ·split at u
        ·simp only[bV,e8] at u;obtain⟨rfl,_⟩:=u;simp only[Loc.ak,Loc.g.injEq] at br;exact ls.1 (br.1 ▸ J)
        ·cases u
       ·cases u
    exact bI J e he
   ·simp [cd.ak,iP] at bD
  |bQ a=>
   simp only at B;cases M:s.get a with
   |none=>rw[M] at B;exact absurd B.symm bq
   |some o=>
    rw[M] at B;cases o<;> try exact absurd B.symm bq
    rename_i n;obtain⟨L,H⟩:=cF B bq;rw[bL,bL] at L;have aj:n=es.length:=c2 L.1.1;subst aj;cases N:s.set a (.tok (es.length+new.length)) with
    |none=>rw[N] at H;exact absurd H.symm bq
    |some s'=>rw[N] at H;exact⟨_,_,H,vK bl h R U iq mP M L.1.2 N L.2 Q⟩
theorem rz{G:Nat→ai}{aC:Nat→ai}{a:Act}(b7:Cg κ s aC a)(dL:ly κ G){t el:TypeId}{sz:Nat}{z:List ai}{fk:List bR}{r:List Operand}(cB:P.underlying t=some (.slice el))(dY:fr P el=some sz)(io:jL P el z=true)(B:z.length=sz)
  (fO:¬(r.length*sz>2^24))(b6:dr fk r=true){es:List ai}(y:fk.map (fun x=>(aL G aC x).ak s.aa)=es)(aQ:ai.ll s.aa es=true)(bG:∀e,e∈es→e.fo=true∧e.cells.length=sz):
  c7 P (.buildSlice t r.length (r.zipIdx.map fun p=>(p.2,p.1)).toArray) ty a.eval κ s w (.aW sz es (.bQ (.l s.own.length))) (s.new (.tok es.length)):=by
 obtain⟨v,e,aD,_,_⟩:=mO io w;have Q:v.cells.size=sz:=by rw[←Array.length_toList,(aD κ 0).1,B]
 have hlen:es.length=r.length:=by
  have:∀(fk:List bR) (r:List Operand),dr fk r=true→fk.length=r.length:=by
   intro fk
   induction fk with
   |nil=>intro r h;cases r<;> simp [dr] at h ⊢
   |cons p fk H=>intro r h;cases r with
    |nil=>simp [dr] at h
    |cons q r=>simp only[dr,bL] at h;simp [H r h.2]
  simp [←y,this fk r b6]
 obtain⟨xs,hN,gB⟩:=pM b7 dL sz fk r 0 es [] ((Array.range (r.length*sz)).map (v.cells[· % v.cells.size]!)).toList b6 y.symm bG (by simp) (by simp);have I:∀dst pos after guard,(execOp a.eval ⟨dst,.buildSlice t r.length (r.zipIdx.map fun p=>(p.2,p.1)).toArray,ty,pos,after,guard⟩).run P w=.ok (.value (.slice (some ⟨w.heap.size,0,none⟩) r.length r.length)) (w.alloc (.cells xs.toArray el)):=by
  intro dst pos after guard;simp only[List.nil_append,Array.toArray_toList] at hN;have J:=ps (parts:=((r.zipIdx.map fun p=>(p.2,p.1)).toArray.map fun p=>(p.1,a.eval p.2))) cB dY e fO (xs:=xs.toArray) (by rw[Array.toList_map,List.map_map];exact hN)
  have aT:∀(o:Oper),o.op=.buildSlice t r.length (r.zipIdx.map fun p=>(p.2,p.1)).toArray→execOp a.eval o=(do pure (.value (←Instr.buildSlice t r.length ((r.zipIdx.map fun p=>(p.2,p.1)).toArray.map fun p=>(p.1,a.eval p.2)))):Sem Next):=by intro o K;unfold execOp;rw[K]
  rw[aT _ rfl,Sem.run_bind,J];rfl
 have u:∀e,e∈es→e.cells.length=sz:=fun e he=>(bG e he).2
 have L:xs.length=es.length*sz:=by rw[gB.1,eO _ sz u]
 obtain⟨κ',g1,g2,M,N,O⟩:=bl.RO (w':=w.alloc (.cells xs.toArray el)) xs.toArray el es.length sz es.length (iG.new s _) (by simpa using L) (aX _) rfl rfl rfl rfl;refine⟨_,κ',_,.inl I,g2,g1,?_⟩;simp only[ai.ak,cd.ak,Loc.ak];rw[←hlen];refine c8.Dh (Nat.lt_succ_self _) M N (aX _) u (ls.1 aQ) (xs:=xs) (gB.mono g2.k) (fun j cp=>?_) rfl;rw[eO _ sz u] at cp;rw[O j cp];simp
end
section
variable{P:Program}{ty:TypeId}{ρ:Operand→Value}{κ:b9}{s:aq}{w:World}(bl:dw κ s w)
include bl
theorem FX{E:Env}(bo:E.F=.not){k:ai→aq→ao}{r:ao}(bq:r≠.fail){t t2 el:TypeId}{sz:Nat}(cB:P.underlying t=some (.slice el))(io:fr P el=some sz){x y:Operand}{X Y:ai}(dQ:∀a off len cap q,X=.cw a off len cap q→q=sz)
  (mP:c8 κ (s.aa+1) (X.ak s.aa) (ρ x))(L:c8 κ (s.aa+1) (Y.ak s.aa) (ρ y))(aQ:copyV E s k X Y=r):∃fX s',k fX s'=r∧c7 P (.call {callee:=.builtin .copy,args:= #[x,y],argTypes:= #[t,t2]}) ty ρ κ s w fX s':=by
 cases X<;> simp only[ai.ak] at mP<;> simp only[copyV] at aQ<;> try exact absurd aQ.symm bq
 rename_i a off len cap q;obtain rfl:=dQ _ _ _ _ _ rfl;cases j0:dB s Y with
 |none=>rw[j0] at aQ;exact absurd aQ.symm bq
 |some p=>
  obtain⟨h,es⟩:=p;rw[j0] at aQ;obtain⟨M,N,I⟩:=k3 bl L j0;simp only at aQ;rw[←aq.hU] at aQ;cases B:a.ak s.aa with
  |l i=>cases a<;> simp [Loc.ak] at B
  |g d i=>
   rw[B] at aQ mP;obtain⟨mN,e,bI,bk,_⟩:=mP.k0;cases bD:s.get (.g d i) with
   |none=>rw[bD] at aQ;exact absurd aQ.symm bq
   |some o=>
    rw[bD] at aQ;cases o<;> try exact absurd aQ.symm bq
    rename_i cs;simp only[bo,bb.not] at aQ;obtain⟨J,u⟩:=cF aQ bq;simp only[bL] at J;obtain⟨⟨O,Q⟩,R⟩:=J;have U:h=q:=c2 O;subst U;have aG:=dW Q;rw[←aq.lY,B] at u;obtain⟨hlen,xs,a9,gB⟩:=fa (P:=P) M I (min es.length len) (Nat.min_le_left _ _) w (fun _=>rfl);have K:((es.take (min es.length len)).flatMap ai.cells).length=min es.length len*h:=by rw[eO _ h (fun e he=>I e (List.mem_of_mem_take he)),List.length_take];congr 1;omega
    have hmul:min es.length len*h≤len*h:=e7 _ (Nat.min_le_right _ _);have hi:ai.bj ((es.take (min es.length len)).flatMap ai.cells)=true:=eh.2 (fun c a9=>by obtain⟨hN,V,Z⟩:=List.mem_flatMap.1 a9;exact il (eh.1 N hN (List.mem_of_mem_take V)) Z)
    cases H:s.set (.g d i) (.cells (dq cs off ((es.take (min es.length len)).flatMap ai.cells))) with
    |none=>rw[H] at u;exact absurd u.symm bq
    |some s'=>
     rw[H] at u;refine⟨_,_,u,?_⟩;have ad:xs.length=min es.length len*h:=by rw[gB.1,K]
     have ab:=nI B gB (by simp [aq.ho,hi]);obtain⟨g1,g2⟩:=bl.store bD H ab (by rw[K];omega);have ac:=n1 (P:=P) bl bD (off:=off) (xs:=xs) (by omega) (ot R gB);have ae:Nat.min es.length len=min es.length len:=rfl;refine⟨.int .i64 (min es.length len:Nat),κ,_,.inl (fun _ _ _ _=>?_),g2,g1,.int _ _⟩;simp only[execOp,resolve,invoke,builtin,List.map_toArray,fU,List.map_nil,Sem.run_bind,Sem.run_pure,Result.andThen_ok]
     have:(Builtin.copy_ #[t,t2] ty #[ρ x,ρ y]).run P w=.ok (goInt (min es.length len:Nat)) (w.setCells (κ.loc d i) off xs):=by simp [Builtin.copy_,run_underlying cB,e,hlen,eo io,a9,ac]
     simp [this,goInt]
theorem sb{E:Env}(bo:E.F=.not){k:ai→aq→ao}{r:ao}(bq:r≠.fail){o:Op}{x:Operand}(K:∀dst pos after guard,(execOp ρ ⟨dst,o,ty,pos,after,guard⟩).run P w=.ok (.value (ρ x)) w){v:ai}
  (aT:c8 κ (s.aa+1) (v.ak s.aa) (ρ x))(aQ:nG E s k v=r):∃fX s',k fX s'=r∧c7 P o ty ρ κ s w fX s':=by
 cases v<;> simp only[nG] at aQ<;> try exact absurd aQ.symm bq
 rename_i a off len cap sz;cases a with
 |g d i=>exact absurd aQ.symm bq
 |l i=>
  simp only[ai.ak,Loc.ak] at aT;obtain⟨mN,e,bI,bk,w2,yu⟩:=aT.k0;have L:s.own[i]? =s.get (.g s.aa i):=by simp [aq.get]
  simp only at aQ;rw[L] at aQ;cases bD:s.get (.g s.aa i) with
  |none=>rw[bD] at aQ;exact absurd aQ.symm bq
  |some M=>
   rw[bD] at aQ;cases M<;> try exact absurd aQ.symm bq
   rename_i cs;simp only[bo,bb.not] at aQ;obtain⟨u,N⟩:=cF aQ bq;simp only[bL,Bool.not_eq_true'] at u;have io:sz≠0:=fun cL=>by rw[cL] at u;simp at u
   have hle:=dW u.1.2;obtain⟨C,el,lv,V,H,O,I⟩:=bl.yd (s':={s with own:=s.own.set i .gone}) bD (by simp [aq.set]);refine⟨_,_,N,ρ x,_,_,.inl K,I,O,?_⟩;rw[e];simp only[ai.ak];have Q:(if len=cap then cd.exact else cd.any).ak s.aa=(if len=cap then cd.exact else cd.any):=by split<;> rfl
   rw[Q];obtain⟨J,R⟩:=k2 sz io len (cs.drop off) (by simp;omega);have br:cs.length≤C.size:=by have:=H.1;simp at this;omega
   have hi:len=cap→mN=cap:=fun h=>by rcases yu with aD|⟨aD,aG,_⟩<;> omega
   have key:c8 (κ.freeze (κ.loc s.aa i) 0 C) (s.aa+1) (.aW sz (chunk sz len (cs.drop off)) (if len=cap then cd.exact else cd.any)) (.slice (some ⟨κ.loc s.aa i,off,none⟩) (chunk sz len (cs.drop off)).length mN):=by
    refine .aW sz _ _ _ _ (fun j=>C.getD (off+j) undef) ?_ (by rw[fA];exact w2) (fun _=>rfl) R (.inl fun e he=>eh.1 u.1.1 e he) (fun j cp=>?_) (fun j c a9=>?_)
    ·by_cases h:len=cap
     ·simp [h,iP,fA,hi h]
     ·simp [h,iP]
    ·rw[J] at cp;simp at cp;have B:off+j<C.size:=by omega
     rw[fN rfl];show(κ.freeze (κ.loc s.aa i) 0 C).F ⟨κ.loc s.aa i,off+j,none⟩=_;rw[oX (Nat.zero_le _) B];simp [Array.getD,B]
    ·rw[J,List.getElem?_take] at a9;split at a9
     ·rw[List.getElem?_drop] at a9;obtain⟨y,dX,bG⟩:=H.get a9;have B:off+j<cs.length:=(bZ.1 a9).1
      have:C.getD (off+j) undef=y:=by
       rw[List.getElem?_take,if_pos B] at dX;have U:C[off+j]? =some y:=by simpa using dX
       simp [Array.getD_eq_getD_getElem?,U]
      rw[this];exact bG.mono I.k
     ·cases a9
   rw[fA] at key;exact key
theorem sc{E:Env}(bo:E.F=.not){k:ai→aq→ao}{r:ao}(bq:r≠.fail){src dst el:TypeId}{x:Operand}{v:ai}(B:P.underlying src=some .string)(H:P.underlying dst=some (.slice el))(j0:P.underlying el=some (.int .u8))
  (aT:c8 κ (s.aa+1) (v.ak s.aa) (ρ x))(aQ:g4 E s k v=r):∃fX,k fX s=r∧c7 P (.convert src dst x) ty ρ κ s w fX s:=by
 cases v<;> simp only[ai.ak] at aT<;> simp only[g4,bo,bb.not] at aQ<;> try exact absurd aQ.symm bq
 rename_i eB;refine⟨_,aQ,?_⟩;obtain⟨a,ex,u⟩:=aT.im;have dY:a.size=eB.length:=by have:=congrArg List.length u;rw[b2,Array.length_toList] at this;exact this
 let cap:=grownCap w a.size 0 el
 let C:Array Value:=bytesRow a cap
 have vI:a.size≤cap:=by simp only[cap,grownCap,Question.cut];omega
 have K:C.size=cap:=by
  simp only[C,bytesRow,Array.size_append,Array.size_map,Array.size_replicate]
  have:a.data.size=a.size:=rfl;omega
 have e:=run_bytes_of_string (P:=P) w src dst el a B H j0;obtain⟨g1,g2⟩:=bl.r5 (w':=w.drew.alloc (.cells C el (C.size,C.size+1))) C el (C.size,C.size+1) rfl rfl rfl rfl;refine⟨.slice (some ⟨w.heap.size,0,none⟩) a.size cap,_,_,.inl (fun _ _ _ _=>?_),g2,g1,?_⟩
 ·simp only[execOp,ex];simp [e,C,cap]
 ·simp only[ai.ak,cd.ak];have y:(eB.map fun b=>ai.int .u8 (b:Nat)).flatMap ai.cells=eB.map fun b=>ai.int .u8 (b:Nat):=by
   clear aQ dY u aT
   induction eB with
   |nil=>rfl
   |cons x l I=>simp [List.flatMap_cons,I,ai.cells]
  have BA:(eB.map fun b=>ai.int .u8 (b:Nat)).length=a.size:=by rw[b2,dY]
  rw[←BA];refine .aW 1 _ .any _ _ (fun j=>C.getD j undef) trivial (by rw[BA];exact vI) (fun _=>rfl) (fun e he=>?_) (.inl fun e he=>?_) (fun j cp=>?_) (fun j c a9=>?_)
  ·obtain⟨b,_,rfl⟩:=List.mem_map.1 he;rfl
  ·obtain⟨b,_,rfl⟩:=List.mem_map.1 he;rfl
  ·rw[y,BA] at cp;rw[fN rfl];simp only[cf];rw[oX (Nat.zero_le _) (by omega)];simp [Array.getD,show j<C.size by omega]
  ·rw[y,fw] at a9;cases h:eB[j]? with
   |none=>rw[h] at a9;cases a9
   |some b=>
    rw[h] at a9;simp only[eU,bV] at a9;subst a9;rw[←u,fw] at h;cases dQ:a.data.toList[j]? with
    |none=>rw[dQ] at h;cases h
    |some q=>
     rw[dQ] at h;simp only[eU,bV] at h;have cp:j<a.data.size:=by have:=(bZ.1 dQ).1;simpa using this
     have:C[j]? =some (.int .u8 q.toNat):=by
      have J:a.data[j]? =some q:=by simpa using dQ
      show(a.data.map (fun b=>Value.int .u8 b.toNat)++Array.replicate (cap-a.size) (.int .u8 0))[j]? =_;rw[Array.getElem?_append_left (by rw[Array.size_map];exact cp),Array.getElem?_map,J];rfl
     simp only[Array.getD_eq_getD_getElem?,this,Option.getD_some,h];exact .int _ _
end
theorem rf:∀(es:List ai) (eB:List Nat),kB es=some eB→∃r:List Int,es=r.map (ai.int .u8)∧eB=r.map Int.toNat∧∀n,n∈r→n.toNat<256
 |[],eB,h=>by simp only[kB,bV] at h;subst h;exact⟨[],rfl,rfl,fun _ bX=>by cases bX⟩
 |e::es,eB,h=>by
  unfold kB at h;split at h
  ·rename_i u;simp at u
  ·rename_i n H u;simp only[List.cons.injEq] at u;obtain⟨rfl,rfl⟩:=u;split at h
   ·rename_i B;cases y:kB es with
    |none=>rw[y] at h;cases h
    |some l=>
     rw[y] at h;simp only[eU,bV] at h;subst h;obtain⟨r,aD,aG,bz⟩:=rf es l y;exact⟨n::r,by rw[aD];rfl,by rw[aG];rfl,fun m hm=>by
      rcases List.mem_cons.1 hm with rfl |hm
      ·exact B
      ·exact bz m hm⟩
   ·cases h
  ·cases h
theorem foldl_push:∀(e:List Int) (s:ByteArray),(e.foldl (fun r n=>r.push (UInt8.ofNat n.toNat)) s).data.toList=s.data.toList++e.map fun n=>UInt8.ofNat n.toNat
 |[],s=>by simp
 |n::e,s=>by simp only[List.foldl_cons];rw[foldl_push e];simp [ByteArray.push]
section
variable{P:Program}{ty:TypeId}{ρ:Operand→Value}{κ:b9}{s:aq}{w:World}(bl:dw κ s w)
include bl
theorem sd{E:Env}(bo:E.F=.not){k:ai→aq→ao}{r:ao}(bq:r≠.fail){src dst el:TypeId}{x:Operand}{v:ai}(B:P.underlying src=some (.slice el))(j0:P.underlying el=some (.int .u8))(H:P.underlying dst=some .string)
  (aT:c8 κ (s.aa+1) (v.ak s.aa) (ρ x))(aQ:hS E s k v=r):∃fX,k fX s=r∧c7 P (.convert src dst x) ty ρ κ s w fX s:=by
 have cQ:∀eB,v≠.str eB:=fun eB h=>by subst h;exact absurd aQ.symm bq
 have hF:(match dB s v with
  |some (_,es)=>w1 E s k ((kB es).map .str)
  |none=>.fail)=r:=by
  unfold hS at aQ;split at aQ
  ·exact absurd aQ.symm bq
  ·exact aQ
 cases u:dB s v with
 |none=>rw[u] at hF;exact absurd hF.symm bq
 |some p=>
  obtain⟨z,es⟩:=p;rw[u] at hF;simp only at hF;cases y:kB es with
  |none=>rw[y] at hF;exact absurd hF.symm bq
  |some eB=>
   rw[y] at hF;simp only[eU,w1,bo,bb.not] at hF;refine⟨_,hF,?_⟩;obtain⟨e,aD,aG,bz⟩:=rf es eB y;obtain⟨M,_,_⟩:=k3 bl aT u;rcases M with⟨N,a,rfl,_⟩|⟨A,c,mP,I,J⟩
   ·exact absurd rfl (cQ N)
   have K:es.flatMap ai.cells=e.map (ai.int .u8):=by
    rw[aD];clear aD aG bz y u J I mP
    induction e with
    |nil=>rfl
    |cons n e O=>simp [List.flatMap_cons,O,ai.cells]
   have hlen:es.length=e.length:=by rw[aD,b2]
   have L:(e.map fun n=>UInt8.ofNat n.toNat).map UInt8.toNat=eB:=by rw[aG,List.map_map];refine List.map_congr_left (fun n bX=>?_);simp only[Function.comp,UInt8.toNat_ofNat'];exact fm (bz n bX)
   cases A with
   |none=>
    have:es=[]:=I rfl;have Q:e=[]:=kU (by rw[←hlen,this];rfl);subst Q;refine bJ bl (.string .empty) (fun _ _ _ _=>?_) ?_
    ·simp only[execOp,mP];have bU:=run_convert_bytes_string (P:=P) w src dst el none es.length c B j0 H;have R:(Conv.bytesToString (.slice none es.length c)).run P w=.ok (.string .empty) w:=by simp [Conv.bytesToString]
     rw[R] at bU;simp [bU]
    ·exact .str _ _ (by rw[←L];rfl)
   |some a=>
    obtain⟨aF,hG,oY⟩:=J a rfl;have U:∀j v,(e.map (Value.int .u8))[j]? =some v→w.cell? (a.add j)=some v:=fun j v cp=>by
     rw[fw] at cp;cases dQ:e[j]? with
     |none=>rw[dQ] at cp;cases cp
     |some n=>
      rw[dQ] at cp;simp only[eU,bV] at cp;have FM:=(bZ.1 dQ).1;rw[hG j (by rw[K,b2];exact FM)]
      have:=oY j (.int .u8 n) (by rw[K,fw,dQ];rfl);rw[this.eA,←cp]
    have br:=run_loadCells_list (P:=P) w a (e.map (Value.int .u8)) U;rw[b2,←hlen] at br;refine bJ bl _ (fun _ _ _ _=>?_) (.str _ (e.foldl (fun r n=>r.push (UInt8.ofNat n.toNat)) ByteArray.empty) ?_)
    ·simp only[execOp,mP];have bU:=run_convert_bytes_string (P:=P) w src dst el (some a) es.length c B j0 H;rw[run_bytesToString w a es.length c e br] at bU;simp [bU]
    ·rw[foldl_push];rw[List.map_append,L];rfl
end
def lm:Bk→TypeDesc→Bool
 |.int k,.int jh=>decide (k=jh)
 |.str,.string=>true
 |.bool,.bool=>true
 |_,_=>false
theorem c8.FY{κ:b9}{D:Nat}{v:ai}{x:Value}(h:c8 κ D v x){d:Nat}:v.ak d=v:=by
 cases h<;> try rfl
 rename_i sz es g a cap aF bD aD aG bz cz e r;cases g<;> try rfl
 rename_i l;cases l with
 |l i=>exact absurd bD (by simp [iP])
 |g d i=>rfl
theorem RR{κ:b9}{D:Nat}{lk:Bk}{d:TypeDesc}{x:ai}{X:Value}(bI:lm lk d=true)(cg:isKey lk x=true)(aT:c8 κ D x X):MapKept.IsKey d X:=by
 cases lk<;> cases d<;> simp [lm] at bI<;> cases x<;> simp [isKey] at cg
 ·subst bI;subst cg;rw[aT.eA];rfl
 ·obtain⟨s,rfl,_⟩:=aT.im;trivial
 ·rw[aT.hg];trivial
theorem yw{κ:b9}{D:Nat}{lk:Bk}{d:TypeDesc}{x y:ai}{X Y:Value}{b:Bool}(bI:lm lk d=true)(cg:isKey lk x=true)(aT:c8 κ D x X)(dX:c8 κ D y Y)(h:pG x y=some b):Instr.sameNow d X Y=some b∧(b=true→X=Y):=by
 unfold pG at h;split at h
 ·rename_i k a jh iE;split at h
  ·rename_i u;subst u;simp only[bV] at h;rw[aT.eA,dX.eA];cases lk<;> simp [isKey] at cg;cases d<;> simp [lm] at bI;refine⟨by simp [Instr.sameNow,←h],fun r=>?_⟩;subst r;simp at h;rw[h]
  ·cases h
 ·rename_i a iE;simp only[bV] at h;obtain⟨s,rfl,bl⟩:=aT.im;obtain⟨s',rfl,B⟩:=dX.im;cases lk<;> simp [isKey] at cg;cases d<;> simp [lm] at bI;have key:s=s'↔a=iE:=by
   rw[←bl,←B];constructor
   ·rintro rfl;rfl
   ·intro e
    have:=(List.map_inj_right (f:=UInt8.toNat) (fun a b h=>UInt8.toNat_inj.1 h)).1 e;cases s;cases s';simp at this;rw[this]
  refine⟨?_,fun r=>?_⟩
  ·simp only[Instr.sameNow,bV];rw[←h,Bool.eq_iff_iff,MapKept.bytes_beq,key];simp
  ·subst r;simp at h;rw[key.2 h]
 ·simp only[bV] at h;rw[aT.hg,dX.hg];cases lk<;> simp [isKey] at cg;cases d<;> simp [lm] at bI;refine⟨by simp [Instr.sameNow,←h],fun r=>?_⟩;subst r;simp at h;rw[h]
 ·cases h
theorem m5.xg{κ:b9}{D:Nat}{p:ai×ai}{es:List (ai×ai)}{l:List MapEntry}(h:m5 κ D (p::es) l):∃e l',l=e::l'∧c8 κ D p.1 e.key∧c8 κ D p.2 e.val∧m5 κ D es l':=by
 cases l with
 |nil=>exact absurd h.1 (by simp)
 |cons e l'=>refine⟨e,l',rfl,(h.2 0 p e rfl rfl).1,(h.2 0 p e rfl rfl).2,by have:=h.1;simpa using this,fun j q f dQ bq=>h.2 (j+1) q f (by simpa using dQ) (by simpa using bq)⟩
theorem pN{κ:b9}{D:Nat}{lk:Bk}{d:TypeDesc}{x:ai}{X:Value}(bI:lm lk d=true)(cg:isKey lk x=true)(aT:c8 κ D x X):∀(es:List (ai×ai)) (l:List MapEntry) (i:Nat) (r:Option ai),m5 κ D es l→findKey x es=some r→
  (r=none∧Instr.findNow d X l i=some none)∨∃v j e,r=some v∧Instr.findNow d X l i=some (some (i+j,e.val))∧l[j]? =some e∧e.key=X∧c8 κ D v e.val
 |[],l,i,r,hm,h=>by have:l=[]:=kU hm.1;subst this;simp only[findKey,bV] at h;exact .inl ⟨h.symm,rfl⟩
 |(y,v)::es,l,i,r,hm,h=>by
  obtain⟨e,l',rfl,dX,bG,H⟩:=hm.xg;simp only[findKey] at h;cases u:pG x y with
  |none=>rw[u] at h;cases h
  |some b=>
   rw[u] at h;obtain⟨aD,aG⟩:=yw bI cg aT dX u;cases b with
   |true=>simp only[bV] at h;exact .inr ⟨v,0,e,h.symm,by simp [Instr.findNow,aD],rfl,(aG rfl).symm,bG⟩
   |false=>
    simp only at h;rcases pN bI cg aT es l' (i+1) r H h with⟨bU,B⟩|⟨fX,j,hN,bU,B,I,J,K⟩
    ·exact .inl ⟨bU,by simp [Instr.findNow,aD,B]⟩
    ·refine .inr ⟨fX,j+1,hN,bU,?_,by simpa using I,J,K⟩;simp [Instr.findNow,aD,B];omega
theorem rh{κ:b9}{D:Nat}{lk:Bk}{d:TypeDesc}{x v:ai}{X V:Value}(bI:lm lk d=true)(cg:isKey lk x=true)(aT:c8 κ D x X)(bG:c8 κ D v V):∀(es:List (ai×ai)) (l:List MapEntry) (i:Nat) (r:List (ai×ai)),m5 κ D es l→putKey x v es=some r→
  (Instr.findNow d X l i=some none∧∀clock,m5 κ D r (l++[{key:=X,val:=V,born:=clock}]))∨∃j e,Instr.findNow d X l i=some (some (i+j,e.val))∧l[j]? =some e∧e.key=X∧m5 κ D r (l.set j {e with key:=X,val:=V})
 |[],l,i,r,hm,h=>by
  have:l=[]:=kU hm.1;subst this;simp only[putKey,bV] at h;subst h;refine .inl ⟨rfl,fun clock=>⟨rfl,fun j p e aU he=>?_⟩⟩;cases j with
  |zero=>simp at aU he;subst aU;subst he;exact⟨aT,bG⟩
  |succ j=>simp at aU
 |(y,u)::es,l,i,r,hm,h=>by
  obtain⟨e,l',rfl,dX,hu,J⟩:=hm.xg;simp only[putKey] at h;cases B:pG x y with
  |none=>rw[B] at h;cases h
  |some b=>
   rw[B] at h;obtain⟨aD,aG⟩:=yw bI cg aT dX B;cases b with
   |true=>
    simp only[bV] at h;subst h;refine .inr ⟨0,e,by simp [Instr.findNow,aD],rfl,(aG rfl).symm,by have:=hm.1;simpa using this,fun j p q aU dQ=>?_⟩;cases j with
    |zero=>simp at aU dQ;subst aU;subst dQ;exact⟨by rw[aG rfl];exact dX,bG⟩
    |succ j=>exact J.2 j p q (by simpa using aU) (by simpa using dQ)
   |false=>
    simp only at h;cases aU:putKey x v es with
    |none=>rw[aU] at h;cases h
    |some H=>
     rw[aU] at h;simp only[eU,bV] at h;subst h;have cons:∀{K},m5 κ D H K→m5 κ D ((y,u)::H) (e::K):=fun L=>by
      refine⟨by simp [L.1],fun j p q aU dQ=>?_⟩;cases j with
      |zero=>simp at aU dQ;subst aU;subst dQ;exact⟨dX,hu⟩
      |succ j=>exact L.2 j p q (by simpa using aU) (by simpa using dQ)
     rcases rh bI cg aT bG es l' (i+1) H J aU with⟨bU,I⟩|⟨j,hN,bU,I,M,N⟩
     ·exact .inl ⟨by simp [Instr.findNow,aD,bU],fun clock=>by simpa using cons (I clock)⟩
     ·refine .inr ⟨j+1,hN,?_,by simpa using I,M,by simpa using cons N⟩;simp [Instr.findNow,aD,bU];omega
section
variable{P:Program}{ty:TypeId}{ρ:Operand→Value}{κ:b9}{s:aq}{w:World}(bl:dw κ s w)
include bl
theorem yx{E:Env}(bo:E.F=.not){k:ai→aq→ao}{r:ao}(bq:r≠.fail){t:TypeId}{b:Option Loc}(aQ:kG E s k b=r):∃fX s',k fX s'=r∧c7 P (.makeMap t none) ty ρ κ s w fX s':=by
 unfold kG at aQ;cases b with
 |none=>exact absurd aQ.symm bq
 |some b=>
  simp only at aQ;cases e:s.gg b (.map []) with
  |none=>rw[e] at aQ;exact absurd aQ.symm bq
  |some p=>
   obtain⟨l,s'⟩:=p;rw[e] at aQ;simp only[bo,bb.not] at aQ;obtain⟨u,y,br,h⟩:=iG.by e
   obtain⟨κ',g1,g2,B,H⟩:=bl.ai5 (w':=w.alloc (.map #[] 0)) h rfl rfl rfl rfl;refine⟨_,_,aQ,.map (some w.heap.size),κ',w.alloc (.map #[] 0),.inl (fun dst pos after guard=>?_),g2,g1,?_⟩
   ·simp [execOp,Instr.makeMap,Result.andThen]
   ·simp only[ai.ak,br];rw[←B];exact .map u y (Nat.lt_succ_of_le h.le) H
theorem BB{E:Env}(bo:E.F=.not){k:ai→aq→ao}{r:ao}(bq:r≠.fail){o:Op}{t K U:TypeId}{d:TypeDesc}{lk:Bk}(cB:P.underlying t=some (.map K U))(u:P.underlying K=some d)(bI:lm lk d=true){m x v:ai}{M X V:Value}
  (hm:c8 κ (s.aa+1) (m.ak s.aa) M)(aT:c8 κ (s.aa+1) x X)(bG:c8 κ (s.aa+1) v V)(L:∀dst pos after guard,execOp ρ ⟨dst,o,ty,pos,after,guard⟩=(do Instr.mapUpdate t M X V;pure .skip:Sem Next))(aQ:kd E s k lk m x v=r):
  ∃fX s',k fX s'=r∧c7 P o ty ρ κ s w fX s':=by
 cases m<;> simp only[kd] at aQ<;> try exact absurd aQ.symm bq
 rename_i a;simp only[ai.ak] at hm;rw[←aq.hU] at aQ;cases y:a.ak s.aa with
 |l i=>cases a<;> simp [Loc.ak] at y
 |g e i=>
  rw[y] at aQ hm;have Y:M=.map (some (κ.loc e i))∧e<s.aa+1∧i<κ.n e:=by cases hm;exact⟨rfl,by assumption,by assumption⟩
  obtain⟨rfl,he,bk⟩:=Y;cases bD:s.get (.g e i) with
  |none=>rw[bD] at aQ;exact absurd aQ.symm bq
  |some Z=>
   rw[bD] at aQ;cases Z<;> try exact absurd aQ.symm bq
   rename_i es;simp only[bo,bb.not] at aQ;obtain⟨B,h⟩:=cF aQ bq;simp only[bL] at B;cases aU:putKey x v es with
   |none=>rw[aU] at h;exact absurd h.symm bq
   |some N=>
    rw[aU] at h;simp only at h;rw[←aq.lY,y] at h;cases H:s.set (.g e i) (.map N) with
    |none=>rw[H] at h;exact absurd h.symm bq
    |some s'=>
     rw[H] at h;obtain⟨hb,clock,aD,aG⟩:=bl.obj e i _ bD;have O:=nI y (ea.cons aT (ea.cons bG (ea.nil _ _))) B.2;have Q:=O.2 0 x X rfl rfl;have ab:=O.2 1 v V rfl rfl;have J:=RR bI B.1.1 Q;rcases rh bI B.1.1 Q ab es hb.toList 0 N aG aU with⟨bU,I⟩|⟨j,R,bU,I,ac,ad⟩
     ·obtain⟨g1,g2⟩:=bl.RN (hb:=hb.push {key:=X,val:=V,born:=clock}) (clock:=clock+1) bD H (by simpa using I clock);refine⟨_,_,h,undef,κ,_,.inr ⟨fun dst pos after guard=>?_,rfl⟩,g2,g1,.dead _⟩;rw[L];simp [Instr.mapUpdate,run_underlying cB,MapKept.run_getObj_map aD,MapKept.run_checkKey u J,MapKept.run_findKey u bU,MapKept.run_setObj_map _ aD,Result.andThen]
     ·have cp:hb[j]? =some R:=by simpa using I
      obtain⟨g1,g2⟩:=bl.RN (hb:=hb.modify j fun e=>{e with key:=X,val:=V}) (clock:=clock) bD H (by
       have:(hb.modify j fun e=>{e with key:=X,val:=V}).toList=hb.toList.set j {R with key:=X,val:=V}:=by
        apply List.ext_getElem?;intro q;simp only[Array.getElem?_toList,Array.getElem?_modify,List.getElem?_set];by_cases dQ:j=q
        ·subst dQ;have ae:j<hb.toList.length:=(bZ.1 I).1;rw[if_pos rfl,if_pos rfl,if_pos ae,cp];rfl
        ·simp [dQ]
       rw[this];exact ad)
      refine⟨_,_,h,undef,κ,_,.inr ⟨fun dst pos after guard=>?_,rfl⟩,g2,g1,.dead _⟩;rw[L];simp only[cf] at bU;have af:(hb[j]?.map MapEntry.key).getD X=X:=by rw[cp];exact ac
      simp [Instr.mapUpdate,run_underlying cB,MapKept.run_getObj_map aD,MapKept.run_checkKey u J,MapKept.run_findKey u bU,MapKept.run_setObj_map _ aD,af,MapKept.run_keyThatStays J,Result.andThen]
theorem BC{E:Env}(bo:E.F=.not){k:ai→aq→ao}{r:ao}(bq:r≠.fail){t Y K:TypeId}{x y:Operand}{d:TypeDesc}{lk:Bk}{ok:Bool}{zero:ai}{i:TypeInfo}{Z:Value}(cB:P.underlying t=some (.map Y K))(I:P.underlying Y=some d)(bI:lm lk d=true)
  (bk:P.info? K=some i)(ae:i.zero=some Z)(io:g5 zero Z=true){m u:ai}
  (hm:c8 κ (s.aa+1) (m.ak s.aa) (ρ x))(aT:c8 κ (s.aa+1) u (ρ y))(aQ:ke E s k lk zero ok m u=r):∃fX,k fX s=r∧c7 P (.lookup t x y ok) ty ρ κ s w fX s:=by
 unfold ke at aQ;obtain⟨ab,h⟩:=cF aQ bq;clear aQ;have L:=RR bI ab aT;have ac:(zeroValue K).run P w=.ok Z w:=by simp [zeroValue,typeInfo,bk,ae]
 cases B:entriesOf s m with
 |none=>rw[B] at h;exact absurd h.symm bq
 |some es=>
  rw[B] at h;simp only[bo,bb.not] at h;have af:∃l:Array MapEntry,m5 κ (s.aa+1) es l.toList∧((ρ x=.map none∧l= #[])∨∃q clock,ρ x=.map (some q)∧w.heap[q]? =some (.map l clock)):=by
   cases m<;> simp only[entriesOf] at B<;> try cases B
   ·rename_i a;simp only[ai.ak] at hm;rw[←aq.hU] at B;cases H:a.ak s.aa with
    |l j=>cases a<;> simp [Loc.ak] at H
    |g e j=>
     rw[H] at B hm;have J:ρ x=.map (some (κ.loc e j))∧e<s.aa+1:=by generalize ρ x=q at hm;cases hm;exact⟨rfl,by assumption⟩
     cases bD:s.get (.g e j) with
     |none=>rw[bD] at B;cases B
     |some ag=>
      rw[bD] at B;cases ag<;> simp only[bV] at B<;> try cases B
      obtain⟨hb,clock,aD,aG⟩:=bl.obj e j _ bD;refine⟨hb,⟨aG.1,fun q p M aU ad=>⟨((aG.2 q p M aU ad).1).up (by have:=J.2;omega),((aG.2 q p M aU ad).2).up (by have:=J.2;omega)⟩⟩,?_⟩;exact .inr ⟨_,clock,J.1,aD⟩
   ·have J:ρ x=.map none:=by
     simp only[ai.ak] at hm;generalize ρ x=q at hm;cases hm;rfl
    exact⟨#[],⟨rfl,fun q p M aU=>by simp at aU⟩,.inl ⟨J,rfl⟩⟩
  obtain⟨l,br,ah⟩:=af;have hex:∀(a:Option (Nat×Value)) (V:Value),Instr.findNow d (ρ y) l.toList 0=some a→V=(match a with |some (_,v)=>v|none=>Z)→∀dst pos after guard,(execOp ρ ⟨dst,.lookup t x y ok,ty,pos,after,guard⟩).run P w=.ok (.value (if ok then .tuple #[V,.bool a.isSome] else V)) w:=by
   intro a V H N dst pos after guard;have bU:(Instr.lookup t (ρ x) (ρ y) ok).run P w=.ok (if ok then .tuple #[V,.bool a.isSome] else V) w:=by
    rcases ah with⟨e,rfl⟩|⟨q,clock,e,aD⟩
    ·cases a with
     |none=>simp [Instr.lookup,run_underlying cB,e,MapKept.run_checkKey I L,MapKept.run_findKey I H,ac,N,Result.andThen]
     |some p=>simp [Instr.findNow] at H
    ·cases a with
     |none=>simp [Instr.lookup,run_underlying cB,e,MapKept.run_getObj_map aD,MapKept.run_checkKey I L,MapKept.run_findKey I H,ac,N,Result.andThen]
     |some p=>simp [Instr.lookup,run_underlying cB,e,MapKept.run_getObj_map aD,MapKept.run_checkKey I L,MapKept.run_findKey I H,N,Result.andThen]
   simp only[execOp,Sem.run_bind,bU,Result.andThen];rfl
  cases O:findKey u es with
  |none=>rw[O] at h;exact absurd h.symm bq
  |some aj=>
   rw[O] at h;obtain⟨Q,al⟩:=oZ zero Z io;rcases pN bI ab aT es l.toList 0 aj br O with⟨rfl,R⟩|⟨v,j,e,rfl,R,am,an,U⟩
   ·simp only at h;refine⟨_,h,bJ bl _ (hex none Z R rfl) ?_⟩;cases ok with
    |true=>have:ea κ (s.aa+1) [zero,.bool false] [Z,.bool false]:=.cons (Q _ _) (.cons (.bool _) (.nil _ _));exact .cT _ _ this.1 this.2
    |false=>simp only[cond_false,co,↓reduceIte];rw[(Q κ (s.aa+1)).FY];exact Q _ _
   ·simp only at h;refine⟨_,h,bJ bl _ (hex _ e.val R rfl) ?_⟩;cases ok with
    |true=>have:ea κ (s.aa+1) [v,.bool true] [e.val,.bool true]:=.cons U (.cons (.bool _) (.nil _ _));exact .cT _ _ this.1 this.2
    |false=>simp only[cond_false,co,↓reduceIte];rw[U.FY];exact U
end
structure mQ where
 dF:Nat→Option TypeDesc
 info:Nat→Option (Nat×Nat×Value)
 avF:Nat→List ai
 eqs:Nat→Bool
structure mQ.uO (T:mQ) (P:Program):Prop where
 dF:∀t d,T.dF t=some d→P.underlying t=some d
 info:∀t n b z,T.info t=some (n,b,z)→∃i,P.info? t=some i∧i.size=n∧i.bytes=b∧i.zero=some z
 eqs:∀t,T.eqs t=true→P.stoodInHeld t=false∧P.eqGuardType P.depth t=false
def ju(T:mQ):Nat→List Bk→List Field→Bool
 |_,[],[]=>true
 |j,k::ia,f::j7=>Nat.beq f.offset j&&decide (f.name≠ "_")&&(match T.dF f.type with
   |some d=>lm k d
   |none=>false)&&ju T (j+1) ia j7
 |_,_,_=>false
def aqN(T:mQ)(e:ai3)(t:Nat)(d:TypeDesc):Bool:=
 match e,d with
 |.agg ia,.struct j7=>T.eqs t&&ju T 0 ia j7.toList
 |_,_=>false
def mQ.size(T:mQ)(t:Nat):Option Nat:=(T.info t).map (·.1)
def mQ.bytes(T:mQ)(t:Nat):Option Nat:=(T.info t).map (·.2.1)
def mQ.zero(T:mQ)(t:Nat)(z:List ai):Bool:=
 match T.info t with
 |some (_,_,v)=>nH z v.cells.toList
 |none=>false
def mQ.load(T:mQ)(t:Nat)(n:Option Nat):Bool:=
 match T.dF t with
 |some d=>match n with
  |none=>RP d==false
  |some n=>RP d==true&&T.size t==some n
 |none=>false
section
variable{P:Program}{T:mQ}(fF:T.uO P)
include fF
theorem mQ.uO.size{t n:Nat}(h:T.size t=some n):fr P t=some n:=by
 unfold mQ.size at h;cases bk:T.info t with
 |none=>rw[bk] at h;cases h
 |some p=>obtain⟨e,b,z⟩:=p;rw[bk] at h;simp only[eU,bV] at h;obtain⟨i,aD,aG,_⟩:=fF.info _ _ _ _ bk;simp [fr,aD,aG,h]
theorem mQ.uO.bytes{t n:Nat}(h:T.bytes t=some n):(P.info? t).map (·.bytes)=some n:=by
 unfold mQ.bytes at h;cases bk:T.info t with
 |none=>rw[bk] at h;cases h
 |some p=>obtain⟨e,b,z⟩:=p;rw[bk] at h;simp only[eU,bV] at h;obtain⟨i,aD,_,aG,_⟩:=fF.info _ _ _ _ bk;simp [aD,aG,h]
theorem mQ.uO.zero{t:Nat}{z:List ai}(h:T.zero t z=true):jL P t z=true:=by
 unfold mQ.zero at h;cases bk:T.info t with
 |none=>rw[bk] at h;cases h
 |some p=>obtain⟨e,b,v⟩:=p;rw[bk] at h;obtain⟨i,aD,_,_,aG⟩:=fF.info _ _ _ _ bk;simp only[jL,aD,hk,aG];exact h
theorem mQ.uO.load{t:Nat}{n:Option Nat}(h:T.load t n=true):kq P t n=true:=by
 unfold mQ.load at h;cases bI:T.dF t with
 |none=>rw[bI] at h;cases h
 |some d=>
  rw[bI] at h
  have:=fF.dF _ _ bI;cases n with
  |none=>simp only at h;simp [kq,nb,this];simpa using h
  |some n=>simp only[bL] at h;have aG:=fF.size (by simpa using h.2:T.size t=some n);simp [kq,nb,this,aG];simpa using h.1
end
def lz:Nat→List bR→List (Nat×Operand)→Bool
 |_,[],[]=>true
 |i,x::xs,(j,y)::e=>Nat.beq i j&&cr x y&&lz (i+1) xs e
 |_,_,_=>false
theorem md:∀(i:Nat) (xs:List bR) (e:List (Nat×Operand)),lz i xs e=true→∃r:List Operand,e=(r.zipIdx i).map (fun p=>(p.2,p.1))∧dr xs r=true
 |_,[],[],_=>⟨[],rfl,rfl⟩
 |_,[],_::_,h=>by simp [lz] at h
 |_,_::_,[],h=>by simp [lz] at h
 |i,x::xs,(j,y)::e,h=>by simp only[lz,bL] at h;obtain⟨r,aD,aG⟩:=md (i+1) xs e h.2;have u:=c2 h.1.1;subst u;exact⟨y::r,by simp [aD],by simp [dr,h.1.2,aG]⟩
def mR(T:mQ):List Field→Option (List (Nat×Nat))
 |[]=>some []
 |f::j7=>(T.size f.type).bind fun n=>(mR T j7).map fun l=>(f.offset,n)::l
theorem pt{P:Program}{T:mQ}(fF:T.uO P):∀(j7:List Field) (l:List (Nat×Nat)),mR T j7=some l→(j7.mapM fun f=>(fr P f.type).map fun n=>(f.offset,n))=some l
 |[],l,h=>by simp only[mR,bV] at h;subst h;rfl
 |f::j7,l,h=>by
  simp only[mR] at h;cases bX:T.size f.type with
  |none=>rw[bX] at h;cases h
  |some n=>
   rw[bX] at h;cases br:mR T j7 with
   |none=>rw[br] at h;cases h
   |some l'=>rw[br] at h;simp only[hk,eU,bV] at h;subst h;rw[List.mapM_cons];simp [fF.size bX,pt fF j7 l' br]
def Cl(a b:BinOp):Bool:=decide (a=b)
def eK(T:mQ)(K:gx)(op:Op):Bool:=
 match K with
 |.move x|.pF x=>
  match op with
  |.move y|.assign y=>cr x y
  |_=>false
 |.pick c a b=>
  match op with
  |.pick og iE L=>cr c og&&cr a iE&&cr b L
  |_=>false
 |.alloc z=>
  match op with
  |.alloc t=>T.zero t z
  |_=>false
 |.dz x|.hA x=>
  match op with
  |.box _ y=>cr x y
  |_=>false
 |.build z fk=>
  match op with
  |.build t h=>
   match T.dF t with
   |some (.struct j7)=>
    match mR T j7.toList with
    |some pl=>T.zero t z&&k1 (pl.toArray[·]?) fk h.toList
    |none=>false
   |some (.array _ el)=>
    match T.size el with
    |some sz=>T.zero t z&&k1 (fun i=>some (i*sz,sz)) fk h.toList
    |none=>false
   |_=>false
  |_=>false
 |.buildSlice sz fk=>
  match op with
  |.buildSlice t len h=>
   match T.dF t with
   |some (.slice el)=>T.size el==some sz&&T.zero el (T.avF el)&&Nat.beq (T.avF el).length sz&&Nat.beq len fk.length&&Nat.ble (len*sz) 16777216&&lz 0 fk h.toList
   |_=>false
  |_=>false
 |.load n x=>
  match op with
  |.load t y=>T.load t n&&cr x y
  |_=>false
 |.store n x v=>
  match op with
  |.store t y u=>T.size t==some n&&cr x y&&cr v u
  |_=>false
 |.nilCheck x=>
  match op with
  |.nilCheck y=>cr x y
  |_=>false
 |.bin o x y=>
  match op with
  |.binOp o' _ nD xe _=>Cl o o'&&cr x nD&&cr y xe
  |_=>false
 |.eq neg e x y=>
  match op with
  |.binOp o t nD xe _=>
   match T.dF t with
   |some d=>Cl o (if neg then .neq else .eql)&&(rb e d||aqN T e t d)&&cr x nD&&cr y xe
   |none=>false
  |_=>false
 |.un o x=>
  match op with
  |.unOp o' _ y=>decide (o=o')&&cr x y
  |_=>false
 |.lX k x=>
  match op with
  |.convert src dst y=>
   match T.dF src,T.dF dst with
   |some _,some (.int jh)=>decide (k=jh)&&cr x y
   |_,_=>false
  |_=>false
 |.oT x=>
  match op with
  |.convert src dst y=>
   match T.dF src,T.dF dst with
   |some _,some .string=>cr x y
   |_,_=>false
  |_=>false
 |.fM x=>
  match op with
  |.convert src dst y=>
   match T.dF src,T.dF dst with
   |some (.slice el),some .string=>
    match T.dF el with
    |some (.int .u8)=>cr x y
    |_=>false
   |_,_=>false
  |_=>false
 |.hQ x=>
  match op with
  |.convert src dst y=>
   match T.dF src,T.dF dst with
   |some .string,some (.slice el)=>
    match T.dF el with
    |some (.int .u8)=>cr x y
    |_=>false
   |_,_=>false
  |_=>false
 |.dA t x=>
  match op with
  |.makeInterface abh y=>
   match T.dF t with
   |some (.interface _)=>false
   |some _=>Nat.beq t abh&&cr x y
   |none=>false
  |_=>false
 |.hB f ep=>
  match op with
  |.makeFunc (.func MY) first M=>Nat.beq f MY&&Nat.beq first.size 0&&dr ep M.toList
  |_=>false
 |.makeSlice z bytes l c=>
  match op with
  |.makeSlice t l' og=>
   match T.dF t with
   |some (.slice el)=>T.zero el z&&T.size el==some z.length&&T.bytes el==some bytes&&Nat.blt 0 bytes&&cr l l'&&cr c og
   |_=>false
  |_=>false
 |.fV x eQ bk=>
  match op with
  |.slice t y r B none=>
   match T.dF t with
   |some .string=>cr x y&&ff eQ r&&ff bk B
   |_=>false
  |_=>false
 |.slice sz x eQ bk iU=>
  match op with
  |.slice t y r B I=>
   match T.dF t with
   |some (.slice el)=>T.size el==some sz&&cr x y&&ff eQ r&&ff bk B&&ff iU I&&(!iU.isSome||bk.isSome)
   |_=>false
  |_=>false
 |.jd sz len x eQ bk iU=>
  match op with
  |.slice t y r B I=>
   match T.dF t with
   |some (.array n el)=>Nat.beq n len&&T.size el==some sz&&cr x y&&ff eQ r&&ff bk B&&ff iU I&&(!iU.isSome||bk.isSome)
   |_=>false
  |_=>false
 |.j8 sz bytes _ x y=>
  match op with
  |.call {callee:=.builtin .append,args:=⟨[nD,xe]⟩,argTypes:=⟨[t,t2]⟩}=>
   match T.dF t with
   |some (.slice el)=>
    match T.info el with
    |some (n,b,z)=>
     (match T.dF t2 with
      |some (.slice _)|some .string=>true
      |_=>false)&&Nat.beq n sz&&Nat.beq b bytes&&Nat.beq z.cells.size sz&&Nat.blt 0 bytes&&Nat.ble bytes 1048576&&cr x nD&&cr y xe
    |none=>false
   |_=>false
  |_=>false
 |.kV sz bytes _ x y=>
  match op with
  |.call {callee:=.builtin .append,args:=⟨[nD,xe]⟩,argTypes:=⟨[t,t2]⟩}=>
   match T.dF t with
   |some (.slice el)=>
    match T.info el with
    |some (n,b,z)=>
     (match T.dF t2 with
      |some (.slice _)|some .string=>true
      |_=>false)&&Nat.beq n sz&&Nat.beq b bytes&&Nat.beq z.cells.size sz&&Nat.blt 0 bytes&&Nat.ble bytes 1048576&&cr x nD&&cr y xe
    |none=>false
   |_=>false
  |_=>false
 |.iL sz bytes x y=>
  match op with
  |.call {callee:=.builtin .append,args:=⟨[nD,xe]⟩,argTypes:=⟨[t,t2]⟩}=>
   match T.dF t with
   |some (.slice el)=>
    match T.info el with
    |some (n,b,z)=>
     (match T.dF t2 with
      |some (.slice _)|some .string=>true
      |_=>false)&&Nat.beq n sz&&Nat.beq b bytes&&Nat.beq z.cells.size sz&&Nat.blt 0 bytes&&Nat.ble bytes 1048576&&cr x nD&&cr y xe
    |none=>false
   |_=>false
  |_=>false
 |.g3 sz fk=>
  match op with
  |.buildSlice t len h=>
   match T.dF t with
   |some (.slice el)=>T.size el==some sz&&T.zero el (T.avF el)&&Nat.beq (T.avF el).length sz&&Nat.beq len fk.length&&Nat.ble (len*sz) 16777216&&lz 0 fk h.toList
   |_=>false
  |_=>false
 |.fieldAddr off x=>
  match op with
  |.fieldAddr t y i=>
   match T.dF t with
   |some (.struct j7)=>
    match j7[i]? with
    |some f=>
     match T.size f.type with
     |some n=>Nat.beq f.offset off&&Nat.blt 0 n&&cr x y
     |none=>false
    |none=>false
   |_=>false
  |_=>false
 |.field off n x=>
  match op with
  |.field t y i=>
   match T.dF t with
   |some (.struct j7)=>
    match j7[i]? with
    |some f=>Nat.beq f.offset off&&T.load f.type n&&cr x y
    |none=>false
   |_=>false
  |_=>false
 |.fy sz x i=>
  match op with
  |.indexAddr t y j=>
   match T.dF t with
   |some (.slice el)=>T.size el==some sz&&cr x y&&cr i j
   |_=>false
  |_=>false
 |.fW sz len x i=>
  match op with
  |.indexAddr t y j=>
   match T.dF t with
   |some (.array n el)=>Nat.beq n len&&T.size el==some sz&&cr x y&&cr i j
   |_=>false
  |_=>false
 |.cZ x i=>
  match op with
  |.index t y j=>
   match T.dF t with
   |some .string=>cr x y&&cr i j
   |_=>false
  |_=>false
 |.oU sz len n x i=>
  match op with
  |.index t y j=>
   match T.dF t with
   |some (.array m el)=>Nat.beq m len&&T.size el==some sz&&T.load el n&&cr x y&&cr i j
   |_=>false
  |_=>false
 |.extract x i=>
  match op with
  |.extract y j=>Nat.beq i j&&cr x y
  |_=>false
 |.call f xs|.gR f xs=>
  match op with
  |.call c=>
   match c.callee with
   |.value (.func MY)=>Nat.beq f MY&&dr xs c.args.toList
   |_=>false
  |_=>false
 |.cV f xs|.mo f xs=>
  match op with
  |.call c=>
   match c.callee with
   |.value g=>cr f g&&dr xs c.args.toList
   |_=>false
  |_=>false
 |.len b x=>
  match op with
  |.call {callee:=.builtin .len,args:=⟨[y]⟩,argTypes:=⟨[t]⟩}=>
   match T.dF t with
   |some .string=>b&&cr x y
   |some (.slice _)=> !b&&cr x y
   |_=>false
  |_=>false
 |.append sz bytes _ x y=>
  match op with
  |.call {callee:=.builtin .append,args:=⟨[nD,xe]⟩,argTypes:=⟨[t,t2]⟩}=>
   match T.dF t with
   |some (.slice el)=>
    match T.info el with
    |some (n,b,z)=>
     (match T.dF t2 with
      |some (.slice _)|some .string=>true
      |_=>false)&&Nat.beq n sz&&Nat.beq b bytes&&Nat.beq z.cells.size sz&&Nat.blt 0 bytes&&Nat.ble bytes 1048576&&cr x nD&&cr y xe
    |none=>false
   |_=>false
  |_=>false
 |.copy sz x y=>
  match op with
  |.call {callee:=.builtin .copy,args:=⟨[nD,xe]⟩,argTypes:=⟨[t,_]⟩}=>
   match T.dF t with
   |some (.slice el)=>T.size el==some sz&&cr x nD&&cr y xe
   |_=>false
  |_=>false
 |.min xs=>
  match op with
  |.call c=>
   match c.callee with
   |.builtin .min=>dr xs c.args.toList
   |_=>false
  |_=>false
 |.max xs=>
  match op with
  |.call c=>
   match c.callee with
   |.builtin .max=>dr xs c.args.toList
   |_=>false
  |_=>false
 |.makeMap _=>
  match op with
  |.makeMap _ none=>true
  |_=>false
 |.kn lk m x v=>
  match op with
  |.mapUpdate t H nD fX|.insert t H nD fX=>
   match T.dF t with
   |some (.map J _)=>
    match T.dF J with
    |some d=>lm lk d&&cr m H&&cr x nD&&cr v fX
    |none=>false
   |_=>false
  |_=>false
 |.lookup lk z ok m x=>
  match op with
  |.lookup t H nD N=>
   match T.dF t with
   |some (.map J O)=>
    match T.dF J,T.info O with
    |some d,some (_,_,Z)=>lm lk d&&g5 z Z&&(ok==N)&&cr m H&&cr x nD
    |_,_=>false
   |_=>false
  |_=>false
 |.jk _ f xs=>
  match op with
  |.call c=>
   match c.callee with
   |.value (.func MY)=>Nat.beq f MY&&dr xs c.args.toList
   |_=>false
  |_=>false
 |.jI _ f xs=>
  match op with
  |.call c=>
   match c.callee with
   |.value g=>cr f g&&dr xs c.args.toList
   |_=>false
  |_=>false
 |.rU neg x=>
  match op with
  |.binOp o t nD (.const .nilIface) _=>
   match T.dF t with
   |some (.interface _)=>Cl o (if neg then .neq else .eql)&&cr x nD
   |_=>false
  |_=>false
 |.no=>true
theorem c8.nJ{κ:b9}{D:Nat}{v:ai}{x:Value}(h:c8 κ D v x)(d:Nat):v.ak d=v:=by
 cases h<;> try rfl
 rename_i sz es g a cap aF bD aD aG bz cz e r;cases g<;> try rfl
 rename_i l;cases l with
 |l i=>exact absurd bD (by simp [iP])
 |g d i=>rfl
theorem Cm{P:Program}{w:World}{κ:b9}{D:Nat}(f:ai→ai→Option ai)(g:Value→Value→Sem Value)
  (B:∀x y z X Y,f x y=some z→c8 κ D x X→c8 κ D y Y→∃Z,(g X Y).run P w=.ok Z w∧c8 κ D z Z):∀(u:List ai) (e:List Value) (x v:ai) (X:Value),x6 f x u=some v→c8 κ D x X→ea κ D u e→
   ∃V,(e.foldlM g X).run P w=.ok V w∧c8 κ D v V
 |[],e,x,v,X,h,aT,r=>by
  simp only[x6,bV] at h
  have:e=[]:=kU r.1;subst this;subst h;exact⟨X,by simp,aT⟩
 |y::u,e,x,v,X,h,aT,r=>by
  cases e with
  |nil=>exact absurd r.1 (by simp)
  |cons Y e=>
   simp only[x6] at h;cases io:f x y with
   |none=>rw[io] at h;cases h
   |some z=>rw[io] at h;simp only[hk] at h;obtain⟨Z,aD,aG⟩:=B x y z X Y io aT (r.2 0 y Y rfl rfl);obtain⟨V,bz,cz⟩:=Cm f g B u e z v Z h aG ⟨by have:=r.1;simpa using this,fun j c y a9 dX=>r.2 (j+1) c y (by simpa using a9) (by simpa using dX)⟩;exact⟨V,by simp [List.foldlM_cons,aD,bz],cz⟩
section
variable{P:Program}{ty:TypeId}{κ:b9}{s:aq}{w:World}
theorem ZW(x y z:ai)(X Y:Value)(h:min2 x y=some z)(aT:c8 κ (s.aa+1) x X)(dX:c8 κ (s.aa+1) y Y):∃Z,(Builtin.min2 X Y).run P w=.ok Z w∧c8 κ (s.aa+1) z Z:=by cases x<;> cases y<;> simp [min2] at h;subst h;rw[aT.eA,dX.eA];exact⟨_,by simp only[Builtin.min2];rfl,.int _ _⟩
theorem ZX(x y z:ai)(X Y:Value)(h:max2 x y=some z)(aT:c8 κ (s.aa+1) x X)(dX:c8 κ (s.aa+1) y Y):∃Z,(Builtin.max2 X Y).run P w=.ok Z w∧c8 κ (s.aa+1) z Z:=by cases x<;> cases y<;> simp [max2] at h;subst h;rw[aT.eA,dX.eA];exact⟨_,by simp only[Builtin.max2];rfl,.int _ _⟩
theorem jv{aC:Nat→ai}{a:Act}{G:Nat→ai}(bq:Cg κ s aC a)(dL:ly κ G):∀(xs:List bR) (e:List Operand),dr xs e=true→ea κ (s.aa+1) (xs.map fun x=>(aL G aC x).ak s.aa) (e.map a.eval)
 |[],[],_=>.nil _ _
 |[],_::_,h=>by simp [dr] at h
 |_::_,[],h=>by simp [dr] at h
 |x::xs,y::e,h=>by simp only[dr,bL] at h;exact .cons (bS bq dL h.1) (jv bq dL xs e h.2)
def nc(κ:b9)(s:aq)(w:World)(v:ai)(s':aq)(x:Value)(w':World):Prop:=∃κ',gi κ s w κ' s' w'∧dw κ' s' w'∧c8 κ' (s.aa+1) (v.ak s.aa) x
def pu(P:Program)(o:Op)(ty:TypeId)(ρ:Operand→Value)(κ:b9)(s:aq)(w:World)(v:ai)(s':aq):Prop:=
 c7 P o ty ρ κ s w v s'∨∃f xs,(∀dst pos after guard,(execOp ρ ⟨dst,o,ty,pos,after,guard⟩).run P w=.ok (.enter f xs) w)∧Calls P f xs w fun e w'=>∃x,e=.returned x∧nc κ s w v s' x w'
structure o1 (P:Program) (E:Env):Prop where
 loop:∃n,∀step bf aC s k,E.loop step bf aC s k=da step bf n aC s k
 ov:∀f args s v s',E.call f args s≠.panic v s'
 ok:∀f args s v s' κ w xs,E.call f args s=.ok v s'→dw κ s w→ly κ E.aS→ea κ (s.aa+1) args xs→
  (∃x w',(callFunc f xs.toArray).run P w=.ok (.value x) w'∧nc κ s w v s' x w')∨
  ((callFunc f xs.toArray).run P w=.ok (.enter f xs.toArray) w∧Calls P f xs.toArray w fun e w'=>∃x,e=.returned x∧nc κ s w v s' x w')
theorem BD{E:Env}(ku:o1 P E)(bl:dw κ s w)(dL:ly κ E.aS){f:Nat}{args:List ai}{v:ai}{s':aq}{xs:List Value}{o:Op}{ρ:Operand→Value}(h:E.call f args s=.ok v s')(aT:ea κ (s.aa+1) args xs)
  (e:∀dst pos after guard,execOp ρ ⟨dst,o,ty,pos,after,guard⟩=callFunc f xs.toArray):pu P o ty ρ κ s w v s':=by
 rcases ku.ok f args s v s' κ w xs h bl dL aT with⟨x,w',aD,κ',aG,bz,cz⟩|⟨aD,aG⟩
 ·exact .inl ⟨x,κ',w',.inl (fun dst pos after guard=>by rw[e];exact aD),aG,bz,cz⟩
 ·exact .inr ⟨f,xs.toArray,fun dst pos after guard=>by rw[e];exact aD,aG⟩
theorem nc.pure(bl:dw κ s w){v:ai}{u:aq}{x:Value}{w':World}(h:nc {κ with n:=fun _=>0} {own:=[],up:=[],ro:=[]} w v u x w')(bG:v.bp=true):nc κ s w v s x w':=by
 obtain⟨κ',aD,aG,bz⟩:=h;have r:∀b,¬Live {κ with n:=fun _=>0} {own:=[],up:=[],ro:=[]} b:=fun b ⟨d,i,o,bD,_⟩=>by simp [aq.get] at bD
 have cg:hJ κ {κ with F:=κ'.F} (s.aa+1):=⟨fun a v h=>aD.k.F a v h,fun _ _=>aX _,fun _ _ _ _=>rfl,fun _ _ _ _ _ _ h=>h⟩;refine⟨{κ with F:=κ'.F},⟨cg,rfl,aD.size,aD.os,aD.tape,aD.output,fun b e _=>aD.ZT b e (r b),fun b e br=>?_,fun a y=>?_⟩,?_,?_⟩
 ·obtain⟨d,i,o,bD,B⟩:=br;exact⟨d,i,o,bD,B⟩
 ·rcases aD.C4 a y with q|q|q
  ·exact .inl q
  ·exact .inr (.inl q)
  ·exact absurd q (r _)
 ·refine bl.world cg rfl rfl (fun a v h=>aG.jq a v h) (fun b e=>⟨aD.ZT b (bl.kg e) (r b),fun o=>?_⟩);show κ'.F ⟨b,o,none⟩=κ.F ⟨b,o,none⟩;cases dQ:κ.F ⟨b,o,none⟩ with
  |some v=>exact aD.k.F _ _ dQ
  |none=>
   cases H:κ'.F ⟨b,o,none⟩ with
   |none=>rfl
   |some v=>
    rcases aD.C4 ⟨b,o,none⟩ (by rw[H];simp) with q|q|q
    ·exact absurd dQ q
    ·exact absurd (bl.kg e) (Nat.not_lt.2 q)
    ·exact absurd q (r _)
 ·have I:c8 κ' (({own:=[],up:=[],ro:=[]}:aq).aa+1) v x:=by rw[jK bG] at bz;exact bz
  rw[jK bG];exact I.bp bG _ (fun _ _ h=>h)
theorem yy{E:Env}(ku:o1 P E)(bl:dw κ s w)(dL:ly κ E.aS){f:Nat}{args:List ai}{v:ai}{r:aq}{xs:List Value}{o:Op}{ρ:Operand→Value}(h:E.call f args {own:=[],up:=[],ro:=[]}=.ok v r)(bG:v.bp=true)(aT:ea κ (s.aa+1) args xs)(aQ:ai.bj args=true)
  (u:∀dst pos after guard,execOp ρ ⟨dst,o,ty,pos,after,guard⟩=callFunc f xs.toArray):pu P o ty ρ κ s w v s:=by
 have y:ea {κ with n:=fun _=>0} (({own:=[],up:=[],ro:=[]}:aq).aa+1) args xs:=⟨aT.1,fun j c x a9 om=>(aT.2 j c x a9 om).bp (iW aQ a9) _ (fun _ _ h=>h)⟩;have B:ly {κ with n:=fun _=>0} E.aS:=fun n=>⟨(dL n).1.bp (dL n).2 _ (fun _ _ h=>h),(dL n).2⟩
 rcases ku.ok f args _ v r _ w xs h bl.empty B y with⟨x,w',aD,aG⟩|⟨aD,aG⟩
 ·obtain⟨κ',H,I,J⟩:=aG.pure bl bG;exact .inl ⟨x,κ',w',.inl (fun dst pos after guard=>by rw[u];exact aD),H,I,J⟩
 ·exact .inr ⟨f,xs.toArray,fun dst pos after guard=>by rw[u];exact aD,aG.mono fun e w' ⟨x,he,K⟩=>⟨x,he,K.pure bl bG⟩⟩
theorem lA{ρ:Operand→Value}{c:Call}{f:Nat}{xs:Array Value}(a9:∃y,c.callee=.value y∧ρ y=.func (.func f) #[] xs):∀dst pos after guard,execOp ρ ⟨dst,.call c,ty,pos,after,guard⟩=callFunc f (c.args.toList.map ρ++xs.toList).toArray:=by
 intro dst pos after guard;obtain⟨y,dX,e⟩:=a9;have aD:resolve ρ c ty=(Pure.pure {target:=.fn (.func f) xs,args:= #[]++c.args.map ρ}:Sem Deferred):=by simp only[resolve,dX,e,Deferred.ofValue]
 have aG:(#[]++c.args.map ρ)++xs=(c.args.toList.map ρ++xs.toList).toArray:=by apply Array.ext';simp
 show(do let d←resolve ρ c ty;invoke d.target d.args)=_;rw[aD];show invoke (.fn (.func f) xs) (#[]++c.args.map ρ)=_;simp only[invoke,aG]
end
theorem dw.M6{κ κ':b9}{s:aq}{w:World}(bl:dw κ s w)(o:bd)(cg:hJ κ κ' (s.aa+1))(bX:∀d,κ'.n d=if d=s.aa then κ.n d+1 else κ.n d)(I:∀d i m,i<κ.n d→κ'.nB d i m=κ.nB d i m)(kQ:κ'.F=κ.F)
  (J:MV κ' s.aa s.own.length w o)(H:∀b,cc κ' s.aa s.own.length o=some b→¬Live κ s b):dw κ' (s.new o) w:=by
 have B:=iG.new s o;have key:∀d i o,s.get (.g d i)=some o→MV κ' d i w o∧cc κ' d i o=cc κ d i o:=fun d i o h=>(bl.obj d i o h).bf (bl.r4 h) (cg.low (by have:=aq.jr h;omega)) (fun m=>I d i m (bl.r4 h)) (fun b K=>⟨rfl,fun x=>by rw[kQ]⟩)
 refine⟨fun a v h=>bl.jq a v (kQ ▸ h),fun d l h=>?_,fun d i o' h=>?_,fun d i u ga kf y b h r e hN=>?_⟩
 ·rw[B.aC] at h;rw[bX];split at h
  ·rename_i bI;cases bq:s.aC d with
   |none=>rw[bq] at h;cases h
   |some l'=>rw[bq] at h;simp only[eU,bV] at h;rw[←h,if_pos bI,←bl.len d l' bq];simp
  ·rename_i bI;rw[if_neg bI];exact bl.len d l h
 ·rw[B.get] at h;split at h
  ·rename_i a9;obtain⟨rfl,rfl⟩:=a9;simp only[bV] at h;exact h ▸ J
  ·exact(key d i o' h).1
 ·rw[B.get] at h r;split at h
  ·rename_i a9;obtain⟨rfl,rfl⟩:=a9;simp only[bV] at h;subst h;split at r
   ·rename_i lx;exact⟨lx.1.symm,lx.2.symm⟩
   ·rw[(key ga kf y r).2] at hN;exact absurd ⟨ga,kf,y,r,hN⟩ (H b e)
  ·split at r
   ·rename_i lx;obtain⟨rfl,rfl⟩:=lx;simp only[bV] at r;subst r;rw[(key d i u h).2] at e;exact absurd ⟨d,i,u,h,e⟩ (H b hN)
   ·rw[(key d i u h).2] at e;rw[(key ga kf y r).2] at hN;exact bl.inj d i u ga kf y b h r e hN
theorem dw.FZ{κ:b9}{s:aq}{w:World}(bl:dw κ s w){i:Nat}{o:bd}(bD:s.own[i]? =some o):dw κ {s with own:=s.own.set i .gone} w∧gi κ s w κ {s with own:=s.own.set i .gone} w:=by
 have r:s.get (.g s.aa i)=some o:=by simp [aq.get,bD]
 exact bl.setObj r (o':=.gone) (by simp [aq.set]) (.refl _ _) rfl (fun _ _ _ _=>rfl) (fun a v h=>bl.jq a v h) (fun b e cQ=>⟨rfl,fun _=>rfl⟩) (aX _) rfl rfl rfl trivial (fun b e=>by simp [cc] at e)
def b9.row(κ:b9)(D I b n cap sz:Nat):b9:=
 {κ with n:=fun d=>if d=D then κ.n d+1 else κ.n d,loc:=fun d i=>if d=D∧i=I then b else κ.loc d i,nB:=fun d i m=>if d=D∧i=I then(if m=n then some (⟨b,0,none⟩,cap,sz) else none) else κ.nB d i m}
theorem hJ.row{κ:b9}{D I b n cap sz:Nat}(e:I=κ.n D)(E:Nat):hJ κ (κ.row D I b n cap sz) E:=by
 have cQ:∀d i,i<κ.n d→¬(d=D∧i=I):=by
  rintro d i bk ⟨rfl,rfl⟩
  omega
 refine⟨fun _ _ h=>h,fun d _=>?_,fun d i _ bk=>?_,fun d i n x _ bk h=>?_⟩
 ·simp only[b9.row];split<;> omega
 ·simp only[b9.row];rw[if_neg (cQ d i bk)]
 ·simp only[b9.row];rw[if_neg (cQ d i bk)];exact h
theorem dw.newRow{κ:b9}{s:aq}{w w':World}(bl:dw κ s w)(cs:List ai)(xs:List Value)(C:Array Value)(e:TypeId)(n sz cap:Nat)(aT:ea κ (s.aa+1) cs xs)(ku:C.size=cap*sz)(hle:cs.length≤C.size)(cp:∀j,j<cs.length→C[j]? =xs[j]?)
  (hw:w'.heap=w.heap.push (.cells C e (0,0)))(u:w'.os=w.os)(cB:w'.tape=w.tape)(hu:w'.output=w.output):
  dw (κ.row s.aa s.own.length w.heap.size n cap sz) (s.new (.cells cs)) w'∧gi κ s w (κ.row s.aa s.own.length w.heap.size n cap sz) (s.new (.cells cs)) w':=by
 have y:s.own.length=κ.n s.aa:=bl.len s.aa s.own (by simp [aq.aC]);have cg:hJ κ (κ.row s.aa s.own.length w.heap.size n cap sz) (s.aa+1):=hJ.row y _;have B:w'.heap[w.heap.size]? =some (.cells C e (0,0)):=by rw[hw];simp
 have H:C.toList.take cs.length=xs:=by
  apply List.ext_getElem?;intro j;rw[List.getElem?_take];split
  ·rename_i I;rw[←cp j I];simp
  ·rw[List.getElem?_eq_none (by rw[aT.1];omega)]
 exact bl.newObj (w':=w') (.cells cs) cg (iG.new s _) (fun d=>rfl) (fun d i m bk=>if_neg (by rintro ⟨rfl,rfl⟩;omega)) (.inl rfl) (fun b r=>by rw[hw,Array.getElem?_push];simp [Nat.ne_of_lt r]) (by rw[hw];simp) u cB hu
  ⟨⟨C,e,(0,0),by simp [b9.row,B],fun j _=>by simp,by rw[H];exact aT.mono cg,fun m b c z h=>by
   simp only[b9.row,and_self,if_true] at h;split at h
   ·simp only[bV,e8] at h;obtain⟨_,rfl,rfl⟩:=h;omega
   ·cases h⟩,fun o=>bl.ru (by simp [b9.row])⟩ (fun b r=>by simp [cc,b9.row] at r;omega)
theorem dw.rename{κ:b9}{s:aq}{w:World}(bl:dw κ s w){i n m cap sz:Nat}{cs:List ai}(bD:s.own[i]? =some (.cells cs))(J:κ.nB s.aa i m=some (⟨κ.loc s.aa i,0,none⟩,cap,sz)):
  dw (κ.row s.aa s.own.length (κ.loc s.aa i) n cap sz) {s with own:=s.own.set i .gone++[.cells cs]} w∧gi κ s w (κ.row s.aa s.own.length (κ.loc s.aa i) n cap sz) {s with own:=s.own.set i .gone++[.cells cs]} w:=by
 have K:s.own.length=κ.n s.aa:=bl.len s.aa s.own (by simp [aq.aC]);have cg:hJ κ (κ.row s.aa s.own.length (κ.loc s.aa i) n cap sz) (s.aa+1):=hJ.row K _;have bk:i<s.own.length:=(bZ.1 bD).1;have u:s.get (.g s.aa i)=some (.cells cs):=by simp [aq.get,bD]
 obtain⟨aD,aG⟩:=bl.FZ bD;obtain⟨⟨C,e,lv,L,M,N,O⟩,Q⟩:=bl.obj _ _ _ u;have y:(κ.row s.aa s.own.length (κ.loc s.aa i) n cap sz).loc s.aa s.own.length=κ.loc s.aa i:=by simp [b9.row]
 have R:MV (κ.row s.aa s.own.length (κ.loc s.aa i) n cap sz) s.aa s.own.length w (.cells cs):=by
  refine⟨⟨C,e,lv,by rw[y];exact L,M,N.mono cg,fun U b c z h=>?_⟩,fun o=>by rw[y];exact Q o⟩;simp only[b9.row,and_self,if_true] at h;split at h
  ·simp only[bV,e8] at h;obtain⟨_,rfl,rfl⟩:=h;exact O m _ _ _ J
  ·cases h
 have key:=aD.M6 (κ':=κ.row s.aa s.own.length (κ.loc s.aa i) n cap sz) (.cells cs) cg (fun d=>rfl) (fun d kf U ag=>if_neg (by rintro ⟨bz,cz⟩;have r:d=s.aa:=bz;subst r;have ah:kf=s.own.length:=cz;omega)) rfl (by
   show MV _ s.aa (s.own.set i .gone).length w _;rw[List.length_set];exact R) (fun b B=>by
   have V:b=κ.loc s.aa i:=by have:cc (κ.row s.aa s.own.length (κ.loc s.aa i) n cap sz) s.aa (s.own.set i .gone).length (.cells cs)=some b:=B;rw[List.length_set] at this;simp only[cc,y,bV] at this;exact this.symm
   subst V
   rintro ⟨ga,kf,o',bz,cz⟩
   have Y:=aq.yc (s:=s) (s':={s with own:=s.own.set i .gone}) (d:=s.aa) (i:=i) (o:=.gone) (by simp [aq.set]) u ga kf;rw[Y] at bz;split at bz
   ·simp only[bV] at bz;subst bz;simp [cc] at cz
   ·rename_i cQ;obtain⟨H,I⟩:=bl.inj ga kf o' s.aa i _ _ bz u cz rfl;exact cQ ⟨H,I⟩)
 refine⟨key,⟨cg,rfl,aX _,rfl,rfl,rfl,fun _ _ _=>rfl,fun b B br=>?_,fun a Z=>.inl Z⟩⟩;obtain⟨ga,kf,o',bz,cz⟩:=br;have ab:=(iG.new {s with own:=s.own.set i .gone} (.cells cs)).get ga kf;have r:(({s with own:=s.own.set i .gone}:aq).new (.cells cs)).get (.g ga kf)=some o':=bz;rw[ab] at r;split at r
 ·rename_i a9;simp only[bV] at r;subst r;obtain⟨H,I⟩:=a9;have ac:kf=s.own.length:=by rw[I];simp
  have ad:ga=s.aa:=H;subst ac ad;simp only[cc,y,bV] at cz;exact⟨s.aa,i,_,u,by simp [cc,cz]⟩
 ·rename_i a9;have aj:=aD.r4 r;have ak:=aq.jr r;have ae:cc κ ga kf o'=some b:=by
   have cQ:¬(ga=s.aa∧kf=s.own.length):=by rintro ⟨af,al⟩;subst af;omega
   cases o' with
   |cells am=>simp only[cc,b9.row,if_neg cQ] at cz ⊢;exact cz
   |map es=>simp only[cc,b9.row,if_neg cQ] at cz ⊢;exact cz
   |tok k=>simp only[cc,b9.row,if_neg cQ] at cz ⊢;exact cz
   |gone=>simp [cc] at cz
  exact aG.live b B ⟨ga,kf,o',r,ae⟩
section
variable{P:Program}{ty:TypeId}{ρ:Operand→Value}{κ:b9}{s:aq}{w:World}(bl:dw κ s w)
include bl
theorem yz{E:Env}(bo:E.F=.not){k:ai→aq→ao}{r:ao}(bq:r≠.fail){t t2 el:TypeId}{sz bytes:Nat}{z:Value}(h:n2 P t t2 el sz bytes z){x y:Operand}{X Y:ai}
  (mP:c8 κ (s.aa+1) (X.ak s.aa) (ρ x))(aP:c8 κ (s.aa+1) (Y.ak s.aa) (ρ y))(aQ:kD E s k sz bytes X Y=r):∃fX s',k fX s'=r∧c7 P (.call {callee:=.builtin .append,args:= #[x,y],argTypes:= #[t,t2]}) ty ρ κ s w fX s':=by
 unfold kD at aQ;cases j0:dB s Y with
 |none=>rw[j0] at aQ;exact absurd aQ.symm bq
 |some p=>
  obtain⟨u,new⟩:=p;rw[j0] at aQ;obtain⟨M,bd,J⟩:=k3 bl aP j0;cases new with
  |nil=>exact absurd aQ.symm bq
  |cons aR aS=>
   simp only[bo,bb.not] at aQ;generalize aT:aR::aS=new at *;have iq:0<new.length:=by rw[←aT];simp
   have ay:s.own.length=κ.n s.aa:=bl.len s.aa s.own (by simp [aq.aC]);split at aQ
   ·
    rename_i aU;obtain⟨B,U⟩:=cF aQ bq;simp only[bL] at B;obtain⟨⟨⟨ae,af⟩,ag⟩,ah⟩:=B;have bU:=c2 ae;have aj:=(c2 af).symm;subst bU;subst aj;have bz:=dW ag;simp only[ai.ak] at mP;have V:ρ x=.slice none 0 0:=by
     rcases mP.ie with⟨_,_,e⟩|⟨A,cap,aF,e,bD,_⟩
     ·exact e
     ·cases bD
    obtain⟨hlen,xs,a9,gB⟩:=fa (P:=P) M J new.length (aX _) w.drew (fun _=>rfl);have al:=(fa (P:=P) M J new.length (aX _) w (fun _=>rfl)).1;simp only[List.take_length] at gB;have H:=eO new u J;have N:xs.length=new.length*u:=by rw[gB.1,H]
    have K:(Builtin.firstCells u 0 (.slice none 0 0)).run P w.drew=.ok (#[]:Array Value) w.drew:=by
     obtain⟨_,os,K,O⟩:=fa (P:=P) (s:=s) (κ:=κ) (w:=w) (X:=Value.slice none 0 0) (v:=.dead) (sz:=u) (es:=[]) (.inr ⟨none,0,rfl,fun _=>rfl,fun a Q=>(by cases Q)⟩) (fun e he=>(by cases he)) 0 (aX _) w.drew (fun _=>rfl)
     have:os=[]:=kU (by simpa using O.1);rw[this] at K;exact K
    obtain⟨cap,C,L,R,Z,ab⟩:=je (ty:=ty) h (base:=none) (fs:=0) (jt:=0) (os:=[]) al a9 K N (by simp) (by omega) (by rw[cf];exact bz);simp only[cf,List.nil_append] at L Z ab;obtain⟨g1,g2⟩:=bl.newRow (w':=w.drew.alloc (.cells C el)) (new.flatMap ai.cells) xs C el new.length u cap gB R (by rw[H,R];exact e7 _ L) (fun j cp=>Z j (by rw[←H];exact cp)) rfl rfl rfl rfl;refine⟨_,_,U,_,_,_,.inl (hX (by rw[V];exact ab)),g2,g1,?_⟩;simp only[ai.ak,Loc.ak];have br:(κ.row s.aa s.own.length w.heap.size new.length cap u).loc s.aa s.own.length=w.heap.size:=by simp [b9.row]
    have key:=c8.cw (κ:=κ.row s.aa s.own.length w.heap.size new.length cap u) (D:=s.aa+1) s.aa s.own.length 0 new.length 0 cap u (Nat.lt_succ_self _) (by simp [b9.row,ay]) L (.inr ⟨rfl,iq,rfl,by rw[br];simp [b9.row]⟩);rw[br] at key;exact key
   ·
    rename_i i len aU;split at aQ
    rotate_left
    ·exact absurd aQ.symm bq
    rename_i cs am;obtain⟨B,U⟩:=cF aQ bq;simp only[bL,Bool.not_eq_true'] at B;obtain⟨⟨⟨⟨⟨⟨ae,af⟩,ag⟩,ah⟩,aV⟩,aW⟩,az⟩:=B;have bU:=c2 ae;have aj:=(c2 af).symm;subst bU;subst aj;have ac:=c2 ag;have be:len≠0:=fun cL=>by rw[cL] at ah;cases ah
    have an:=dW aV;simp only[ai.ak,Loc.ak] at mP;have bD:s.get (.g s.aa i)=some (.cells cs):=by simp [aq.get,am]
    obtain⟨mN,V,bI,bk,bf,yu⟩:=mP.k0;obtain⟨_,_,_,aA⟩:(0:Nat)=0∧0<len∧(0:Nat)=0∧κ.nB s.aa i len=some (⟨κ.loc s.aa i,0,none⟩,mN,u):=by
     rcases yu with aD|aD
     ·omega
     ·exact aD
    obtain⟨⟨I,kR,ap,ar,aB,aE,aG⟩,aH⟩:=bl.obj _ _ _ bD;have aY:=aG len _ _ _ aA;have H:=eO new u J;have as:i<s.own.length:=(bZ.1 am).1;have hmul:(len+new.length)*u=len*u+new.length*u:=e0 _ _ _;have aI:=o0 bl bD 0;rw[bT] at aI;by_cases au:len+new.length≤mN
    ·
     obtain⟨hlen,xs,a9,gB⟩:=fa (P:=P) M J new.length (aX _) w (fun _=>rfl);simp only[List.take_length] at gB;have N:xs.length=new.length*u:=by rw[gB.1,H]
     have bg:(len+new.length)*u≤I.size:=Nat.le_trans (e7 _ au) aY;have aD:=ot aW gB;have aZ:=run_storeCells_cells (P:=P) (κ.loc s.aa i) (len*u) xs 0 w (fun j cp=>by rw[fz ar];simp;omega) (fun j cp=>by
      have hu:=aB (len*u+0+j) (by omega);simp only[World.frozen?,ar];rw[Bool.and_eq_false_iff];by_cases aJ:ap.1≤len*u+0+j
      ·right;simp only[decide_eq_false_iff_not];exact fun h=>hu ⟨aJ,h⟩
      ·left;simpa using aJ) aD
     have a0:=run_append_fits (ty:=ty) h (base:=some ⟨κ.loc s.aa i,0,none⟩) (fs:=len) (jt:=mN) hlen a9 au (w':=w.setCells (κ.loc s.aa i) (len*u) xs) (by
      have a1:(⟨κ.loc s.aa i,0,none⟩:Addr).add (len*u)=⟨κ.loc s.aa i,len*u,none⟩:=by rw[fN rfl];simp
      simp only[a1];simpa using aZ)
     have av:=m7 xs w (κ.loc s.aa i) (len*u) I kR ap ar (by omega);obtain⟨hG,oY,a2⟩:=m9 xs w (κ.loc s.aa i) (len*u);have w2:cs.length≤I.size:=by have:=aE.1;simp at this;omega
     have a3:(dq I.toList (len*u) xs).take (cs++new.flatMap ai.cells).length=I.toList.take cs.length++xs:=by
      rw[dm,H,ac,←N];apply List.ext_getElem?;intro j;rw[List.getElem?_take];by_cases cp:j<len*u
      ·rw[if_pos (by omega),hc _ _ _ (by simp;omega),if_neg (by omega),ev (by simp;omega),List.getElem?_take,if_pos (by omega)]
      ·rw[i9 (by simp;omega)];have BA:(I.toList.take (len*u)).length=len*u:=by simp;omega
       rw[BA];by_cases aK:j<len*u+xs.length
       ·rw[if_pos aK,hc _ _ _ (by simp;omega),if_pos (by omega)]
       ·rw[if_neg aK,List.getElem?_eq_none (by omega)]
     let s1:aq:={s with own:=s.own.set i (.cells (cs++new.flatMap ai.cells))}
     have aL:dw κ s1 (w.setCells (κ.loc s.aa i) (len*u) xs)∧gi κ s w κ s1 (w.setCells (κ.loc s.aa i) (len*u) xs):=by
      refine bl.setObj bD (o':=.cells (cs++new.flatMap ai.cells)) (by simp [aq.set,s1]) (.refl _ _) rfl (fun _ _ _ _=>rfl) (fun a v h=>?_) (fun b _ B=>⟨?_,fun _=>rfl⟩) (by rw[m8];exact aX _) hG oY a2 ⟨⟨(dq I.toList (len*u) xs).toArray,kR,ap,by rw[av];simp,by simpa [fY] using aB,?_,fun m b cap sz hm=>by simpa [fY] using aG m b cap sz hm⟩,aH⟩ (fun b B=>.inl B)
      ·obtain⟨an,a4⟩:=bl.jq a v h;refine⟨an,?_⟩;rw[gA (w:=w) ?_]
       ·exact a4
       ·rw[av,if_neg];intro bU;have a5:a=⟨κ.loc s.aa i,a.off,none⟩:=by cases a;simp_all
        rw[a5,aH] at h;cases h
      ·rw[av,if_neg (fun bU=>B (by simp [cc,bU]))]
      ·show ea κ _ _ ((dq I.toList (len*u) xs).take _);rw[a3];exact aE.append gB
     have a6:s1.own[i]? =some (.cells (cs++new.flatMap ai.cells)):=by simp [s1,as]
     obtain⟨g1,g2⟩:=aL.1.rename (n:=len+new.length) a6 aA;have aw:({s1 with own:=s1.own.set i .gone++[.cells (cs++new.flatMap ai.cells)]}:aq)= {s with own:=s.own.set i .gone++[.cells (cs++new.flatMap ai.cells)]}:=by simp [s1]
     rw[aw] at g1 g2;refine⟨_,_,U,_,_,_,.inl (hX (by rw[V];exact a0)),aL.2.trans g2,g1,?_⟩;simp only[ai.ak,Loc.ak];have ax:s1.own.length=s.own.length:=by simp [s1]
     have br:(κ.row s1.aa s1.own.length (κ.loc s1.aa i) (len+new.length) mN u).loc s.aa s.own.length=κ.loc s.aa i:=by rw[ax];show(if s.aa=s.aa∧s.own.length=s.own.length then κ.loc s.aa i else κ.loc s.aa s.own.length)=_;simp
     have key:=c8.cw (κ:=κ.row s1.aa s1.own.length (κ.loc s1.aa i) (len+new.length) mN u) (D:=s.aa+1) s.aa s.own.length 0 (len+new.length) 0 mN u (Nat.lt_succ_self _) (by
      rw[ax];show s.own.length<if s.aa=s.aa then κ.n s.aa+1 else κ.n s.aa
      rw[if_pos rfl];omega) au (.inr ⟨rfl,by omega,rfl,by
      rw[br,ax];show(if s.aa=s.aa∧s.own.length=s.own.length then(if len+new.length=len+new.length then some ((⟨κ.loc s.aa i,0,none⟩:Addr),mN,u) else none) else κ.nB s.aa s.own.length (len+new.length))=_;simp⟩)
     rw[br] at key;exact key
    ·
     obtain⟨hlen,xs,a9,gB⟩:=fa (P:=P) M J new.length (aX _) w.drew (fun _=>rfl);have al:=(fa (P:=P) M J new.length (aX _) w (fun _=>rfl)).1;simp only[List.take_length] at gB;have N:xs.length=new.length*u:=by rw[gB.1,H]
     have a7:u≠0:=fun cL=>by rw[cL] at az;cases az
     obtain⟨aM,a8⟩:=k2 u a7 len cs (by omega);obtain⟨_,os,K,O⟩:=fa (P:=P) (s:=s) (κ:=κ) (w:=w) (X:=Value.slice (some ⟨κ.loc s.aa i,0,none⟩) len mN) (v:=.dead) (sz:=u) (es:=chunk u len cs) (.inr ⟨some ⟨κ.loc s.aa i,0,none⟩,mN,by rw[fA],fun Q=>(by cases Q),fun iE Q=>(by cases Q;rw[aM,gG (by omega)];exact aI)⟩) a8 len (by rw[fA];exact aX _) w.drew (fun _=>rfl);rw[show(chunk u len cs).take len=chunk u len cs from gG (by rw[fA];exact aX _),aM,gG (by omega)] at O;have ba:os.length=len*u:=by rw[O.1,ac]
     obtain⟨ad,C,L,R,Z,ab⟩:=je (ty:=ty) h (base:=some ⟨κ.loc s.aa i,0,none⟩) (fs:=len) (jt:=mN) al a9 K N ba (by omega) an;obtain⟨g1,g2⟩:=bl.newRow (w':=w.drew.alloc (.cells C el)) (cs++new.flatMap ai.cells) (os++xs) C el (len+new.length) u ad (O.append gB) R (by rw[dm,H,ac,R,←e0];exact e7 _ L) (fun j cp=>Z j (by rw[dm,H,ac] at cp;omega)) rfl rfl rfl rfl;have bc:(s.new (.cells (cs++new.flatMap ai.cells))).own[i]? =some (.cells cs):=by simp only[aq.new];rw[ev as];exact am
     obtain⟨aN,aO⟩:=g1.FZ bc;have aw:({s.new (.cells (cs++new.flatMap ai.cells)) with own:=(s.new (.cells (cs++new.flatMap ai.cells))).own.set i .gone}:aq)= {s with own:=s.own.set i .gone++[.cells (cs++new.flatMap ai.cells)]}:=by simp only[aq.new];congr 1;exact List.set_append_left _ _ as
     rw[aw] at aN aO;refine⟨_,_,U,_,_,_,.inl (hX (by rw[V];exact ab)),g2.trans aO,aN,?_⟩;simp only[ai.ak,Loc.ak];have br:(κ.row s.aa s.own.length w.heap.size (len+new.length) ad u).loc s.aa s.own.length=w.heap.size:=by simp [b9.row]
     have key:=c8.cw (κ:=κ.row s.aa s.own.length w.heap.size (len+new.length) ad u) (D:=s.aa+1) s.aa s.own.length 0 (len+new.length) 0 ad u (Nat.lt_succ_self _) (by simp [b9.row,ay]) L (.inr ⟨rfl,by omega,rfl,by rw[br];simp [b9.row]⟩);rw[br] at key;exact key
   ·exact absurd aQ.symm bq
end
section
variable{P:Program}{ty:TypeId}{ρ:Operand→Value}{κ:b9}{s:aq}{w:World}
theorem BE{T:mQ}(fF:T.uO P){D:Nat}:∀(j7:List Field) (ia:List Bk) (j:Nat) (cs ib:List ai) (xs B:List Value) (b:Bool),ju T j ia j7=true→gz ia (cs.drop j)=true→gz ia (ib.drop j)=true→ea κ D cs xs→ea κ D ib B→iM (cs.drop j) (ib.drop j)=some b→
  ∀d,(Op.eqFields (d+1) xs.toArray B.toArray j7).run P w=.ok b w:=by
 intro j7
 induction j7 with
 |nil=>
  intro ia j cs ib xs B b aD aG bz aT dX h d;cases ia with
  |cons k ia=>simp [ju] at aD
  |nil=>
   cases a9:cs.drop j with
   |cons c I=>rw[a9] at aG;simp [gz] at aG
   |nil=>
    cases bI:ib.drop j with
    |cons c I=>rw[bI] at bz;simp [gz] at bz
    |nil=>rw[a9,bI] at h;simp only[iM,bV] at h;subst h;simp [Op.eqFields]
 |cons f j7 V=>
  intro ia j cs ib xs B b aD aG bz aT dX h d;cases ia with
  |nil=>simp [ju] at aD
  |cons k ia=>
   simp only[ju,bL,ij] at aD;obtain⟨⟨⟨bU,bX⟩,cB⟩,aQ⟩:=aD;have O:=c2 bU;cases a9:cs.drop j with
   |nil=>rw[a9] at aG;cases k<;> simp [gz] at aG
   |cons c I=>
    cases bI:ib.drop j with
    |nil=>rw[bI] at bz;cases k<;> simp [gz] at bz
    |cons og L=>
     have Q:cs.drop (j+1)=I:=by rw[←List.drop_drop,a9];rfl
     have R:ib.drop (j+1)=L:=by rw[←List.drop_drop,bI];rfl
     have Y:cs[j]? =some c:=by have:=congrArg (fun l:List ai=>l[0]?) a9;simpa using this
     have Z:ib[j]? =some og:=by have:=congrArg (fun l:List ai=>l[0]?) bI;simpa using this
     obtain⟨x,aa,M⟩:=aT.get Y;obtain⟨y,ab,N⟩:=dX.get Z;rw[a9] at aG;rw[bI] at bz;rw[a9,bI] at h;cases hu:T.dF f.type with
     |none=>rw[hu] at cB;cases cB
     |some J=>
      rw[hu] at cB;have K:=fF.dF _ _ hu;have U:nb P f.type=some false:=by cases k<;> cases J<;> simp [lm] at cB<;> simp [nb,K,RP]
      have ac:(part f.type xs.toArray f.offset).run P w=.ok x w:=by rw[O];simp [part,kI U,aa]
      have ad:(part f.type B.toArray f.offset).run P w=.ok y w:=by rw[O];simp [part,kI U,ab]
      have key:∀(e:Bool),(Op.equalIn (d+1) f.type x y).run P w=.ok e w→∀r,iM I L=some r→b=(e&&r)→gz ia I=true→gz ia L=true→(Op.eqFields (d+1) xs.toArray B.toArray (f::j7)).run P w=.ok b w:=by
       intro e he r H u gw hj;simp only[Op.eqFields,bX,ne_eq,not_false_eq_true,↓reduceIte,Sem.run_bind,ac,ad,Result.andThen_ok,he];cases e with
       |false=>simp [u]
       |true=>simp only[eV,co,↓reduceIte];rw[u,cG];exact V ia (j+1) cs ib xs B r aQ (by rw[Q];exact gw) (by rw[R];exact hj) aT dX (by rw[Q,R];exact H) d
      cases k with
      |int kk=>cases c<;> simp [gz] at aG;cases og<;> simp [gz] at bz;rename_i gw a hj iE;obtain⟨rfl,aG⟩:=aG;obtain⟨rfl,bz⟩:=bz;cases J<;> simp [lm] at cB;simp only[iM,↓reduceIte] at h;obtain⟨r,H,u⟩:=Option.map_eq_some_iff.1 h;rw[M.eA,N.eA] at key;exact key _ (run_equalIn_int w d f.type _ _ a iE K) r H u.symm aG bz
      |str=>
       cases c<;> simp [gz] at aG;cases og<;> simp [gz] at bz;rename_i a iE;cases J<;> simp [lm] at cB;simp only[iM] at h;obtain⟨r,H,u⟩:=Option.map_eq_some_iff.1 h;obtain⟨z,rfl,io⟩:=M.im;obtain⟨aqV,rfl,ae⟩:=N.im;have af:(a==iE)=(z.toList==aqV.toList):=by
        rw[←io,←ae,ByteArray.toList_eq,ByteArray.toList_eq];rw[Bool.eq_iff_iff];simp only[beq_iff_eq];constructor
        ·intro e;exact(List.map_inj_right (f:=UInt8.toNat) (fun a b h=>UInt8.toNat_inj.1 h)).1 e
        ·intro e;rw[e]
       rw[af] at u;exact key _ (run_equalIn_string w d f.type z aqV K) r H u.symm aG bz
      |bool=>cases c<;> simp [gz] at aG;cases og<;> simp [gz] at bz;rename_i a iE;cases J<;> simp [lm] at cB;simp only[iM] at h;obtain⟨r,H,u⟩:=Option.map_eq_some_iff.1 h;rw[M.hg,N.hg] at key;exact key _ (run_equalIn_bool' w d f.type a iE K) r H u.symm aG bz
theorem Di{T:mQ}(fF:T.uO P)(bl:dw κ s w){ia:List Bk}{b neg:Bool}{v u:ai}{t yt:TypeId}{x y:Operand}{j7:Array Field}{op:BinOp}(I:op=if neg then .neq else .eql)(cB:P.underlying t=some (.struct j7))(he:T.eqs t=true)(bq:ju T 0 ia j7.toList=true)
  (aT:c8 κ (s.aa+1) (v.ak s.aa) (ρ x))(dX:c8 κ (s.aa+1) (u.ak s.aa) (ρ y))(h:pA (.agg ia) v u=some b):c7 P (.binOp op t x y yt) ty ρ κ s w (.bool (bif neg then !b else b)) s:=by
 obtain⟨aD,aG⟩:=fF.eqs t he;have B:P.fieldsOf t=j7:=by simp [Program.fieldsOf,cB]
 rw[←FV (d:=s.aa)] at h;generalize K:v.ak s.aa=fX at *;generalize L:u.ak s.aa=M at *;simp only[pA] at h;split at h
 ·rename_i cs ib;cases e:gz ia cs&&gz ia ib with
  |false=>rw[e] at h;cases h
  |true=>
   rw[e] at h;rw[bL] at e;obtain⟨xs,ex,gB⟩:=aT.pK;obtain⟨r,H,J⟩:=dX.pK;have run:=BE (w:=w) fF j7.toList ia 0 cs ib xs r b bq (by simpa using e.1) (by simpa using e.2) gB J (by simpa using h) 9998;have bU:=run_equalIn_agg (P:=P) w 9999 t xs.toArray r.toArray (by rw[B];exact cB) aD;rw[B,run] at bU;have g:=fun op=>run_eqGuard_agg (P:=P) w op t x y xs.toArray r.toArray aG
   refine bJ bl _ (fun dst pos after guard=>?_) (.bool _);subst I;cases neg
   ·have ml:=run_eql_struct (P:=P) w t xs.toArray r.toArray;rw[bU] at ml;simp only[execOp,co,↓reduceIte,ex,H,Sem.run_bind,g,Result.andThen_ok,ml,Sem.run_pure,cond_false]
   ·have ml:=run_neq_struct (P:=P) w t xs.toArray r.toArray;rw[bU] at ml;simp only[execOp,↓reduceIte,ex,H,Sem.run_bind,g,Result.andThen_ok,ml,Sem.run_pure,cb]
 ·cases h
end
section
variable{P:Program}{T:mQ}(fF:T.uO P){ty:TypeId}{κ:b9}{s:aq}{w:World}(bl:dw κ s w){E:Env}(bo:E.F=.not)(ku:o1 P E){aC:Nat→ai}{a:Act}(b7:Cg κ s aC a)(dL:ly κ E.aS){k kp:ai→aq→ao}{r:ao}(bq:r≠.fail)
include bl bo b7 dL bq
theorem o2{v:Option ai}(h:w1 E s k v=r):∃fX,v=some fX∧k fX s=r:=by
 cases v with
 |none=>exact absurd h.symm bq
 |some fX=>simp only[w1,bo,bb.not] at h;exact⟨fX,rfl,h⟩
theorem M7{o:BinOp}{x y:bR}{nD xe:Operand}{t yt:TypeId}(aT:cr x nD=true)(dX:cr y xe=true)(aQ:w1 E s k (al o (aL E.aS aC x) (aL E.aS aC y))=r):∃v s',k v s'=r∧pu P (.binOp o t nD xe yt) ty a.eval κ s w v s':=by
 obtain⟨v,bG,cg⟩:=o2 bl bo b7 dL bq aQ;refine⟨v,s,cg,.inl ?_⟩;have aD:=bS b7 dL aT;have aG:=bS b7 dL dX;generalize aL E.aS aC x=X at aD bG;generalize aL E.aS aC y=Y at aG bG;unfold al at bG;split at bG
 ·exact r8 bl aD.eA aG.eA (.inl rfl) bG
 ·exact r8 bl aD.eA aG.eA (.inr rfl) bG
 ·rename_i gw h hj u _ _;split at bG
  ·rename_i e;subst e;exact yk bl aD.eA aG.eA bG
  ·cases bG
 ·exact yl bl aD aG bG
 ·cases bG
theorem ZY{o:UnOp}{x:bR}{nD:Operand}{t:TypeId}(aT:cr x nD=true)(aQ:w1 E s k (iN o (aL E.aS aC x))=r):∃v s',k v s'=r∧pu P (.unOp o t nD) ty a.eval κ s w v s':=by
 obtain⟨v,bG,cg⟩:=o2 bl bo b7 dL bq aQ;refine⟨v,s,cg,.inl ?_⟩;have aD:=bS b7 dL aT;generalize aL E.aS aC x=X at aD bG;unfold iN at bG;split at bG
 ·simp only[bV] at bG;subst bG;exact Bo bl aD.eA
 ·simp only[bV] at bG;subst bG;exact Bp bl aD.eA
 ·simp only[bV] at bG;subst bG;exact Bq bl aD.hg
 ·cases bG
theorem vL{f:ai→ai→Option ai}{g:Value→Value→Sem Value}(u:∀x y z X Y,f x y=some z→c8 κ (s.aa+1) x X→c8 κ (s.aa+1) y Y→∃Z,(g X Y).run P w=.ok Z w∧c8 κ (s.aa+1) z Z){xs:List bR}{e:List Operand}(gB:dr xs e=true)
  {o:Op}(B:∀x rest,e.map a.eval=x::rest→∀dst pos after guard,execOp a.eval ⟨dst,o,ty,pos,after,guard⟩=(do pure (.value (←rest.foldlM g x)):Sem Next))
  (aQ:lL E s k f (xs.map fun x=>(aL E.aS aC x).ak s.aa)=r):∃v s',k v s'=r∧pu P o ty a.eval κ s w v s':=by
 have bG:=jv b7 dL xs e gB;cases mP:xs.map (fun x=>(aL E.aS aC x).ak s.aa) with
 |nil=>rw[mP] at aQ;exact absurd aQ.symm bq
 |cons x l=>
  rw[mP] at aQ bG;cases h:e.map a.eval with
  |nil=>rw[h] at bG;exact absurd bG.1 (by simp)
  |cons Y L=>rw[h] at bG;simp only[lL] at aQ;obtain⟨v,aD,cg⟩:=o2 bl bo b7 dL bq aQ;obtain⟨V,aG,bz⟩:=Cm f g u l L x v Y aD (bG.2 0 x Y rfl rfl) ⟨by have:=bG.1;simpa using this,fun j c y a9 dX=>bG.2 (j+1) c y (by simpa using a9) (by simpa using dX)⟩;refine⟨v,s,cg,.inl (bJ bl V (fun dst pos after guard=>?_) (by rw[bz.nJ];exact bz))⟩;rw[B Y L h];simp [aG]
theorem cm{o:Op}{ρ:Operand→Value}{v:ai}{s':aq}(cg:k v s'=r)(h:c7 P o ty ρ κ s w v s'):∃v s',k v s'=r∧pu P o ty ρ κ s w v s':=⟨v,s',cg,.inl h⟩
theorem mw{o:Op}{ρ:Operand→Value}(h:∃v,k v s=r∧c7 P o ty ρ κ s w v s):∃v s',k v s'=r∧pu P o ty ρ κ s w v s':=by obtain⟨v,aD,aG⟩:=h;exact⟨v,s,aD,.inl aG⟩
theorem u2{o:Op}{ρ:Operand→Value}(h:∃v s',k v s'=r∧c7 P o ty ρ κ s w v s'):∃v s',k v s'=r∧pu P o ty ρ κ s w v s':=by obtain⟨v,s',aD,aG⟩:=h;exact⟨v,s',aD,.inl aG⟩
include ku in
theorem mx{f:Nat}{args:List ai}{xs:List Value}{o:Op}{ρ:Operand→Value}(aT:ea κ (s.aa+1) args xs)(e:∀dst pos after guard,execOp ρ ⟨dst,o,ty,pos,after,guard⟩=callFunc f xs.toArray)(aQ:cV E s k kp f args=r):∃v s',k v s'=r∧pu P o ty ρ κ s w v s':=by
 unfold cV at aQ;cases a9:E.call f args s with
 |fail=>rw[a9] at aQ;exact absurd aQ.symm bq
 |panic v s'=>exact absurd a9 (ku.ov _ _ _ _ _)
 |ok v s'=>rw[a9] at aQ;obtain⟨_,h⟩:=cF aQ bq;exact⟨v,s',h,BD ku bl dL a9 aT e⟩
include ku in
theorem ri{f:Nat}{args:List ai}{xs:List Value}{o:Op}{ρ:Operand→Value}(aT:ea κ (s.aa+1) args xs)(h:∀dst pos after guard,execOp ρ ⟨dst,o,ty,pos,after,guard⟩=callFunc f xs.toArray)(aQ:hD E s k f args=r):∃v s',k v s'=r∧pu P o ty ρ κ s w v s':=by
 unfold hD at aQ;obtain⟨u,e⟩:=cF aQ bq;cases a9:E.call f args {own:=[],up:=[],ro:=[]} with
 |fail=>rw[a9] at e;exact absurd e.symm bq
 |panic v s'=>exact absurd a9 (ku.ov _ _ _ _ _)
 |ok v s'=>rw[a9] at e;obtain⟨y,B⟩:=cF e bq;exact⟨v,s,B,yy ku bl dL a9 y aT u h⟩
include fF ku in
theorem F1{V:gx}{op:Op}(h:eK T V op=true)(aQ:bB E aC s k kp V=r):∃v s',k v s'=r∧pu P op ty a.eval κ s w v s':=by
 have kQ:E.F=.not:=bo;cases V with
 |move x=>
  simp only[bB,bo,bb.not] at aQ;simp only[eK] at h;split at h
  ·exact cm bl bo b7 dL bq aQ (FN bl (bS b7 dL h))
  ·exact cm bl bo b7 dL bq aQ (Bn bl (bS b7 dL h))
  ·cases h
 |pF x=>
  simp only[bB] at aQ;simp only[eK] at h;split at h
  ·exact u2 bl bo b7 dL bq (sb bl bo bq (fun _ _ _ _=>by simp [execOp]) (bS b7 dL h) aQ)
  ·exact u2 bl bo b7 dL bq (sb bl bo bq (fun _ _ _ _=>by simp [execOp]) (bS b7 dL h) aQ)
  ·cases h
 |pick c x y=>
  simp only[bB] at aQ;simp only[eK] at h;split at h
  ·simp only[bL] at h;have a9:=bS b7 dL h.1.1;generalize aL E.aS aC c=X at a9 aQ;cases X<;> simp only[pI,bo,bb.not] at aQ<;> try exact absurd aQ.symm bq
   exact cm bl bo b7 dL bq aQ (FO bl a9.hg (bS b7 dL h.1.2) (bS b7 dL h.2))
  ·cases h
 |alloc z=>
  simp only[bB,bo,bb.not] at aQ;simp only[eK] at h;split at h
  ·exact cm bl bo b7 dL bq aQ (Dd bl (fF.zero h))
  ·cases h
 |dz x=>
  simp only[bB,bo,bb.not] at aQ;simp only[eK] at h;obtain⟨I,L⟩:=cF aQ bq;split at h
  ·exact cm bl bo b7 dL bq L (De bl (bS b7 dL h) I)
  ·cases h
 |hA x=>
  simp only[bB,bo,bb.not] at aQ;simp only[eK] at h;obtain⟨I,L⟩:=cF aQ bq;split at h
  ·exact cm bl bo b7 dL bq L (Bx bl (bS b7 dL h) I)
  ·cases h
 |build z fk=>
  simp only[bB] at aQ;simp only[eK] at h;obtain⟨v,aD,cg⟩:=o2 bl bo b7 dL bq aQ;cases U:e9 E.aS s.aa aC z fk with
  |none=>rw[U] at aD;cases aD
  |some cs=>
   rw[U] at aD;simp only[eU,bV] at aD;subst aD;split at h
   ·rename_i t u;split at h
    ·rename_i j7 cB;split at h
     ·rename_i pl ag;simp only[bL] at h
      have:=q2 (ty:=ty) bl b7 dL (fF.dF _ _ cB) (fF.zero h.1) (pl:=pl.toArray) (by simpa using pt fF _ _ ag) h.2 U;exact cm bl bo b7 dL bq cg (by simpa using this)
     ·cases h
    ·rename_i n el cB;split at h
     ·rename_i sz dY;simp only[bL] at h
      have:=ry (ty:=ty) bl b7 dL (fF.dF _ _ cB) (fF.size dY) (fF.zero h.1) h.2 U;exact cm bl bo b7 dL bq cg (by simpa using this)
     ·cases h
    ·cases h
   ·cases h
 |buildSlice sz fk=>
  simp only[bB,hT,bo,bb.not] at aQ;simp only[eK] at h;obtain⟨I,L⟩:=cF aQ bq;split at h
  ·rename_i t len u;split at h
   ·rename_i el cB;simp only[bL,beq_iff_eq] at h;obtain⟨⟨⟨⟨⟨aD,aG⟩,bz⟩,cz⟩,B⟩,H⟩:=h;obtain⟨K,e,b6⟩:=md 0 fk u.toList H;have hlen:fk.length=K.length:=by
     have:∀(fk:List bR) (u:List Operand),dr fk u=true→fk.length=u.length:=by
      intro fk
      induction fk with
      |nil=>intro u h;cases u<;> simp [dr] at h ⊢
      |cons p fk Y=>intro u h;cases u with
       |nil=>simp [dr] at h
       |cons q u=>simp only[dr,bL] at h;simp [Y u h.2]
     exact this fk K b6
    have br:len=K.length:=by rw[←hlen];exact c2 cz
    simp only[bL,List.all_eq_true] at I;have ah:=dW B
    have:=r9 (ty:=ty) bl b7 dL (fF.dF _ _ cB) (fF.size aD) (fF.zero aG) (c2 bz) (by rw[←br];omega) b6 I.1 (fun e he=>⟨(I.2 e he).1,c2 (I.2 e he).2⟩);rw[←e] at this;rw[br];exact cm bl bo b7 dL bq L (by simpa using this)
   ·cases h
  ·cases h
 |load n x=>
  simp only[bB] at aQ;simp only[eK] at h;split at h
  ·simp only[bL] at h;exact mw bl bo b7 dL bq (FQ bl bo bq (fF.load h.1) (bS b7 dL h.2) aQ)
  ·cases h
 |store n x v=>
  simp only[bB] at aQ;simp only[eK] at h;split at h
  ·simp only[bL,beq_iff_eq] at h;exact u2 bl bo b7 dL bq (Df bl bo bq (fF.size h.1.1) (bS b7 dL h.1.2) (bS b7 dL h.2) aQ)
  ·cases h
 |nilCheck x=>
  simp only[bB] at aQ;simp only[eK] at h;split at h
  ·have aT:=bS b7 dL h;generalize aL E.aS aC x=X at aT aQ;unfold jn at aQ;split at aQ
   ·simp only[bo,bb.not] at aQ;exact cm bl bo b7 dL bq aQ (w3 bl aT (by assumption))
   ·exact absurd aQ.symm bq
  ·cases h
 |bin o x y=>
  simp only[bB] at aQ;simp only[eK] at h;split at h
  ·simp only[bL,Cl,ij] at h;obtain⟨⟨rfl,aG⟩,bz⟩:=h;exact M7 bl bo b7 dL bq aG bz aQ
  ·cases h
 |eq neg e x y=>
  simp only[bB] at aQ;simp only[eK] at h;obtain⟨v,aD,cg⟩:=o2 bl bo b7 dL bq aQ;split at h
  ·split at h
   ·rename_i d cB;simp only[bL,Cl,ij] at h;obtain⟨⟨⟨bU,aG⟩,bz⟩,cz⟩:=h;cases he:pA e (aL E.aS aC x) (aL E.aS aC y) with
    |none=>rw[he] at aD;cases aD
    |some b=>
     rw[he] at aD;simp only[eU,bV] at aD;subst aD;rcases(Bool.or_eq_true _ _).mp aG with aG|aG
     ·exact cm bl bo b7 dL bq cg (ZV bl bU (fF.dF _ _ cB) aG (bS b7 dL bz) (bS b7 dL cz) he)
     ·unfold aqN at aG;split at aG
      ·simp only[bL] at aG;exact cm bl bo b7 dL bq cg (Di fF bl bU (fF.dF _ _ cB) aG.1 aG.2 (bS b7 dL bz) (bS b7 dL cz) he)
      ·cases aG
   ·cases h
  ·cases h
 |un o x=>
  simp only[bB] at aQ;simp only[eK] at h;split at h
  ·simp only[bL,ij] at h;obtain⟨rfl,aG⟩:=h;exact ZY bl bo b7 dL bq aG aQ
  ·cases h
 |lX d x=>
  simp only[bB] at aQ;simp only[eK] at h;split at h
  ·split at h
   ·rename_i M N;simp only[bL,ij] at h;obtain⟨rfl,aG⟩:=h;have aT:=bS b7 dL aG;generalize aL E.aS aC x=X at aT aQ;cases X<;> simp only[kF,bo,bb.not] at aQ<;> try exact absurd aQ.symm bq
    exact cm bl bo b7 dL bq aQ (ym bl (fF.dF _ _ M) (fF.dF _ _ N) aT.eA)
   ·cases h
  ·cases h
 |oT x=>
  simp only[bB] at aQ;simp only[eK] at h;split at h
  ·split at h
   ·rename_i M N;have aT:=bS b7 dL h;generalize aL E.aS aC x=X at aT aQ;cases X<;> simp only[m0] at aQ<;> try exact absurd aQ.symm bq
    exact cm bl bo b7 dL bq aQ (Br bl (fF.dF _ _ M) (fF.dF _ _ N) aT)
   ·cases h
  ·cases h
 |fM x=>
  simp only[bB] at aQ;simp only[eK] at h;split at h
  ·split at h
   ·rename_i M N;split at h
    ·rename_i j0;exact mw bl bo b7 dL bq (sd bl bo bq (fF.dF _ _ M) (fF.dF _ _ j0) (fF.dF _ _ N) (bS b7 dL h) aQ)
    ·cases h
   ·cases h
  ·cases h
 |hQ x=>
  simp only[bB] at aQ;simp only[eK] at h;split at h
  ·split at h
   ·rename_i M N;split at h
    ·rename_i j0;exact mw bl bo b7 dL bq (sc bl bo bq (fF.dF _ _ M) (fF.dF _ _ N) (fF.dF _ _ j0) (bS b7 dL h) aQ)
    ·cases h
   ·cases h
  ·cases h
 |dA t x=>
  simp only[bB,bo,bb.not] at aQ;simp only[eK] at h;split at h
  ·split at h
   ·cases h
   ·rename_i d bI cB;simp only[bL] at h
    have:=c2 h.1;subst this;exact cm bl bo b7 dL bq aQ (yn bl (fF.dF _ _ cB) (by cases d<;> first|rfl |exact absurd rfl (bI _)) (bS b7 dL h.2))
   ·cases h
  ·cases h
 |hB f ep=>
  simp only[bB,bo,bb.not] at aQ;simp only[eK] at h;split at h
  ·rename_i MY first al
   simp only[bL] at h;have bU:=c2 h.1.1;have J:first= #[]:=Array.eq_empty_of_size_eq_zero (c2 h.1.2)
   subst bU;subst J
   have:=By (P:=P) (ty:=ty) bl (f:=f) b7 dL h.2;exact cm bl bo b7 dL bq aQ (by simpa using this)
  ·cases h
 |makeSlice z bytes l c=>
  simp only[bB] at aQ;simp only[eK] at h;split at h
  ·split at h
   ·rename_i cB;simp only[bL,beq_iff_eq] at h;obtain⟨⟨⟨⟨⟨aD,aG⟩,bz⟩,cz⟩,B⟩,H⟩:=h;exact u2 bl bo b7 dL bq (u1 bl bo bq (fF.dF _ _ cB) (fF.zero aD) (fF.size aG) (fF.bytes bz) (by simpa [Nat.blt_eq] using cz) (bS b7 dL B) (bS b7 dL H) aQ)
   ·cases h
  ·cases h
 |fV x eQ bk=>
  simp only[bB] at aQ;simp only[eK] at h;split at h
  ·split at h
   ·rename_i cB;simp only[bL] at h;exact mw bl bo b7 dL bq (Bv bl bo bq b7 dL (fF.dF _ _ cB) h.1.1 h.1.2 h.2 aQ)
   ·cases h
  ·cases h
 |slice sz x eQ bk iU=>
  simp only[bB] at aQ;simp only[eK] at h;split at h
  ·split at h
   ·rename_i cB;simp only[bL,beq_iff_eq] at h;obtain⟨⟨⟨⟨⟨aD,aG⟩,bz⟩,cz⟩,B⟩,H⟩:=h;exact mw bl bo b7 dL bq (Db bl bo bq b7 dL (fF.dF _ _ cB) (fF.size aD) aG bz cz B (by intro hm;rw[hm] at H;simpa using H) aQ)
   ·cases h
  ·cases h
 |fieldAddr off x=>
  simp only[bB] at aQ;simp only[eK] at h;split at h
  ·split at h
   ·rename_i cB;split at h
    ·rename_i ab;split at h
     ·rename_i io;simp only[bL] at h;exact mw bl bo b7 dL bq (uZ bl bo bq (fF.dF _ _ cB) ab (c2 h.1.1) (fF.size io) (by have:=h.1.2;rw[Nat.blt_eq] at this;omega) (bS b7 dL h.2) aQ)
     ·cases h
    ·cases h
   ·cases h
  ·cases h
 |field off n x=>
  simp only[bB] at aQ;simp only[eK] at h;split at h
  ·split at h
   ·rename_i cB;split at h
    ·rename_i ab;simp only[bL] at h;exact mw bl bo b7 dL bq (C9 bl bo bq (fF.dF _ _ cB) ab (c2 h.1.1) (fF.load h.1.2) (bS b7 dL h.2) aQ)
    ·cases h
   ·cases h
  ·cases h
 |fy sz x i=>
  simp only[bB] at aQ;simp only[eK] at h;split at h
  ·split at h
   ·rename_i cB;simp only[bL,beq_iff_eq] at h;exact mw bl bo b7 dL bq (Da bl bo bq (fF.dF _ _ cB) (fF.size h.1.1) (bS b7 dL h.1.2) (bS b7 dL h.2) aQ)
   ·cases h
  ·cases h
 |fW sz len x i=>
  simp only[bB] at aQ;simp only[eK] at h;split at h
  ·split at h
   ·rename_i cB;simp only[bL,beq_iff_eq] at h
    have:=c2 h.1.1.1;subst this;exact mw bl bo b7 dL bq (Bu bl bo bq (fF.dF _ _ cB) (fF.size h.1.1.2) (bS b7 dL h.1.2) (bS b7 dL h.2) aQ)
   ·cases h
  ·cases h
 |cZ x i=>
  simp only[bB] at aQ;simp only[eK] at h;split at h
  ·split at h
   ·rename_i cB;simp only[bL] at h;exact mw bl bo b7 dL bq (Bt bl bo bq (fF.dF _ _ cB) (bS b7 dL h.1) (bS b7 dL h.2) aQ)
   ·cases h
  ·cases h
 |oU sz len n x i=>
  simp only[bB] at aQ;simp only[eK] at h;split at h
  ·split at h
   ·rename_i cB;simp only[bL,beq_iff_eq] at h
    have:=c2 h.1.1.1.1;subst this;exact mw bl bo b7 dL bq (Bs bl bo bq (fF.dF _ _ cB) (fF.size h.1.1.1.2) (fF.load h.1.1.2) (bS b7 dL h.1.2) (bS b7 dL h.2) aQ)
   ·cases h
  ·cases h
 |extract x i=>
  simp only[bB] at aQ;simp only[eK] at h;split at h
  ·simp only[bL] at h
   have:=c2 h.1;subst this;have aT:=bS b7 dL h.2;generalize aL E.aS aC x=X at aT aQ;cases X<;> simp only[kE] at aQ<;> try exact absurd aQ.symm bq
   rename_i vs;obtain⟨v,aD,cg⟩:=o2 bl bo b7 dL bq aQ;obtain⟨xs,ex,br,bG⟩:=c8.yi (x:=a.eval _) aT;have bk:=(bZ.1 aD).1;exact cm bl bo b7 dL bq cg (yo bl aT aD ((bG i v _ aD (dM (by omega:i<xs.length))).nJ _))
  ·cases h
 |call f xs=>
  simp only[bB,bo,bb.not] at aQ;simp only[eK] at h;split at h
  ·rename_i c;split at h
   ·rename_i MY a9;simp only[bL] at h
    have:=c2 h.1;subst this;exact mx bl bo ku b7 dL bq (jv b7 dL _ _ h.2) (fun dst pos after guard=>by rw[lA ⟨_,a9,rfl⟩];simp) aQ
   ·cases h
  ·cases h
 |gR f xs=>
  simp only[bB,bo,bb.not] at aQ;simp only[eK] at h;split at h
  ·rename_i c;split at h
   ·rename_i MY a9;simp only[bL] at h
    have:=c2 h.1;subst this;exact ri bl bo ku b7 dL bq (jv b7 dL _ _ h.2) (fun dst pos after guard=>by rw[lA ⟨_,a9,rfl⟩];simp) aQ
   ·cases h
  ·cases h
 |cV g xs=>
  simp only[bB] at aQ;simp only[eK] at h;split at h
  ·rename_i c;split at h
   ·rename_i g' a9;simp only[bL] at h;have aT:=bS b7 dL h.1;generalize aL E.aS aC g=X at aT aQ;cases X<;> simp only[lK,bo,bb.not] at aQ<;> try exact absurd aQ.symm bq
    obtain⟨K,R,bG⟩:=c8.C7 (x:=a.eval _) aT;exact mx bl bo ku b7 dL bq ((jv b7 dL _ _ h.2).append bG) (fun dst pos after guard=>by rw[lA ⟨_,a9,R⟩]) aQ
   ·cases h
  ·cases h
 |mo g xs=>
  simp only[bB] at aQ;simp only[eK] at h;split at h
  ·rename_i c;split at h
   ·rename_i g' a9;simp only[bL] at h;have aT:=bS b7 dL h.1;generalize aL E.aS aC g=X at aT aQ;cases X<;> simp only[kc,bo,bb.not] at aQ<;> try exact absurd aQ.symm bq
    obtain⟨K,R,bG⟩:=c8.C7 (x:=a.eval _) aT;exact ri bl bo ku b7 dL bq ((jv b7 dL _ _ h.2).append bG) (fun dst pos after guard=>by rw[lA ⟨_,a9,R⟩]) aQ
   ·cases h
  ·cases h
 |len b x=>
  simp only[bB] at aQ;simp only[eK] at h;split at h
  ·split at h
   ·rename_i cB;simp only[bL] at h;exact mw bl bo b7 dL bq (yp bl bo bq (fF.dF _ _ cB) (.inl ⟨h.1,rfl⟩) (bS b7 dL h.2) aQ)
   ·rename_i el cB;simp only[bL,Bool.not_eq_true'] at h;exact mw bl bo b7 dL bq (yp bl bo bq (fF.dF _ _ cB) (.inr ⟨h.1,el,rfl⟩) (bS b7 dL h.2) aQ)
   ·cases h
  ·cases h
 |append sz bytes at_ x y=>
  simp only[bB,er] at aQ;simp only[eK] at h;split at aQ
  rotate_left
  ·exact absurd aQ.symm bq
  split at h
  ·rename_i nD xe t t2;split at h
   ·rename_i el cB;split at h
    ·rename_i n b z bk;simp only[bL] at h;obtain⟨⟨⟨⟨⟨⟨⟨aD,aG⟩,bz⟩,cz⟩,B⟩,H⟩,O⟩,Q⟩:=h;have bU:=c2 aG;have J:=c2 bz;subst bU;subst J;refine u2 bl bo b7 dL bq (re bl bo bq (z:=z) ⟨fF.dF _ _ cB,?_,fF.info _ _ _ _ bk,c2 cz,by simpa [Nat.blt_eq] using B,dW H⟩ (bS b7 dL O) (bS b7 dL Q) aQ);split at aD
     ·rename_i ou;exact .inl ⟨_,fF.dF _ _ ou⟩
     ·rename_i ou;exact .inr (fF.dF _ _ ou)
     ·cases aD
    ·cases h
   ·cases h
  ·cases h
 |j8 sz bytes at_ x y=>
  simp only[bB,lq] at aQ;split at aQ
  rotate_left
  ·exact absurd aQ.symm bq
  rename_i ai;rw[←ai] at aQ;simp only[er] at aQ;simp only[eK] at h;split at aQ
  rotate_left
  ·exact absurd aQ.symm bq
  split at h
  ·rename_i nD xe t t2;split at h
   ·rename_i el cB;split at h
    ·rename_i n b z bk;simp only[bL] at h;obtain⟨⟨⟨⟨⟨⟨⟨aD,aG⟩,bz⟩,cz⟩,B⟩,H⟩,O⟩,Q⟩:=h;have bU:=c2 aG;have J:=c2 bz;subst bU;subst J;refine u2 bl bo b7 dL bq (re bl bo bq (z:=z) ⟨fF.dF _ _ cB,?_,fF.info _ _ _ _ bk,c2 cz,by simpa [Nat.blt_eq] using B,dW H⟩ (bS b7 dL O) (bS b7 dL Q) aQ);split at aD
     ·rename_i ou;exact .inl ⟨_,fF.dF _ _ ou⟩
     ·rename_i ou;exact .inr (fF.dF _ _ ou)
     ·cases aD
    ·cases h
   ·cases h
  ·cases h
 |kV sz bytes at_ x y=>
  simp only[bB,m1] at aQ;simp only[eK] at h;split at aQ
  rotate_left
  ·exact absurd aQ.symm bq
  split at h
  ·rename_i nD xe t t2;split at h
   ·rename_i el cB;split at h
    ·rename_i n b z bk;simp only[bL] at h;obtain⟨⟨⟨⟨⟨⟨⟨aD,aG⟩,bz⟩,cz⟩,B⟩,H⟩,O⟩,Q⟩:=h;have bU:=c2 aG;have J:=c2 bz;subst bU;subst J;refine u2 bl bo b7 dL bq (yv bl bo bq (z:=z) ⟨fF.dF _ _ cB,?_,fF.info _ _ _ _ bk,c2 cz,by simpa [Nat.blt_eq] using B,dW H⟩ (bS b7 dL O) (bS b7 dL Q) aQ);split at aD
     ·rename_i ou;exact .inl ⟨_,fF.dF _ _ ou⟩
     ·rename_i ou;exact .inr (fF.dF _ _ ou)
     ·cases aD
    ·cases h
   ·cases h
  ·cases h
 |iL sz bytes x y=>
  simp only[bB] at aQ;simp only[eK] at h;split at h
  ·rename_i nD xe t t2;split at h
   ·rename_i el cB;split at h
    ·rename_i n b z bk;simp only[bL] at h;obtain⟨⟨⟨⟨⟨⟨⟨aD,aG⟩,bz⟩,cz⟩,B⟩,H⟩,O⟩,Q⟩:=h;have bU:=c2 aG;have J:=c2 bz;subst bU;subst J;refine u2 bl bo b7 dL bq (yz bl bo bq (z:=z) ⟨fF.dF _ _ cB,?_,fF.info _ _ _ _ bk,c2 cz,by simpa [Nat.blt_eq] using B,dW H⟩ (bS b7 dL O) (bS b7 dL Q) aQ);split at aD
     ·rename_i ou;exact .inl ⟨_,fF.dF _ _ ou⟩
     ·rename_i ou;exact .inr (fF.dF _ _ ou)
     ·cases aD
    ·cases h
   ·cases h
  ·cases h
 |g3 sz fk=>
  simp only[bB,kb,bo,bb.not] at aQ;simp only[eK] at h;obtain⟨I,L⟩:=cF aQ bq;split at h
  ·rename_i t len u;split at h
   ·rename_i el cB;simp only[bL,beq_iff_eq] at h;obtain⟨⟨⟨⟨⟨aD,aG⟩,bz⟩,cz⟩,B⟩,H⟩:=h;obtain⟨K,e,b6⟩:=md 0 fk u.toList H;have hlen:fk.length=K.length:=by
     have:∀(fk:List bR) (u:List Operand),dr fk u=true→fk.length=u.length:=by
      intro fk
      induction fk with
      |nil=>intro u h;cases u<;> simp [dr] at h ⊢
      |cons p fk Y=>intro u h;cases u with
       |nil=>simp [dr] at h
       |cons q u=>simp only[dr,bL] at h;simp [Y u h.2]
     exact this fk K b6
    have br:len=K.length:=by rw[←hlen];exact c2 cz
    simp only[bL,List.all_eq_true] at I;have ah:=dW B
    have:=rz (ty:=ty) bl b7 dL (fF.dF _ _ cB) (fF.size aD) (fF.zero aG) (c2 bz) (by rw[←br];omega) b6 rfl I.1 (fun e he=>⟨(I.2 e he).1,c2 (I.2 e he).2⟩);rw[←e] at this;rw[br];exact cm bl bo b7 dL bq L (by simpa using this)
   ·cases h
  ·cases h
 |jd sz len x eQ bk iU=>
  simp only[bB] at aQ;simp only[eK] at h;split at h
  ·split at h
   ·rename_i cB;simp only[bL,beq_iff_eq] at h;obtain⟨⟨⟨⟨⟨⟨cL,aD⟩,aG⟩,bz⟩,cz⟩,B⟩,H⟩:=h
    have:=c2 cL;subst this;exact mw bl bo b7 dL bq (Bw bl bo bq b7 dL (fF.dF _ _ cB) (fF.size aD) aG bz cz B (by intro hm;rw[hm] at H;simpa using H) aQ)
   ·cases h
  ·cases h
 |copy sz x y=>
  simp only[bB] at aQ;simp only[eK] at h;split at h
  ·rename_i nD xe t t2;split at h
   ·rename_i el cB;simp only[bL,beq_iff_eq] at h;have aT:=bS b7 dL h.1.2;generalize aL E.aS aC x=X at aT aQ;cases X<;> simp only[mr] at aQ<;> try exact absurd aQ.symm bq
    rename_i Dj off len cap q;obtain⟨dQ,L⟩:=cF aQ bq
    have:=c2 dQ;subst this;exact u2 bl bo b7 dL bq (FX bl bo bq (fF.dF _ _ cB) (fF.size h.1.1) (fun iE am an ao rq e=>by cases e;rfl) aT (bS b7 dL h.2) L)
   ·cases h
  ·cases h
 |min xs=>
  simp only[bB] at aQ;simp only[eK] at h;split at h
  ·rename_i c;split at h
   ·rename_i a9;refine vL bl bo b7 dL bq (g:=Builtin.min2) ZW h (fun x rest ac dst pos after guard=>?_) aQ;have ad:(c.args.map a.eval).toList=x::rest:=by rw[Array.toList_map];exact ac
    simp only[execOp,resolve,a9,pure_bind,invoke,builtin,Builtin.min_,ad]
   ·cases h
  ·cases h
 |max xs=>
  simp only[bB] at aQ;simp only[eK] at h;split at h
  ·rename_i c;split at h
   ·rename_i a9;refine vL bl bo b7 dL bq (g:=Builtin.max2) ZX h (fun x rest ac dst pos after guard=>?_) aQ;have ad:(c.args.map a.eval).toList=x::rest:=by rw[Array.toList_map];exact ac
    simp only[execOp,resolve,a9,pure_bind,invoke,builtin,Builtin.max_,ad]
   ·cases h
  ·cases h
 |makeMap at_=>
  simp only[bB] at aQ;simp only[eK] at h;split at h
  ·exact u2 bl bo b7 dL bq (yx bl bo bq aQ)
  ·cases h
 |kn lk m x v=>
  simp only[bB] at aQ;simp only[eK] at h;have key:∀{t:TypeId} {ae nD fX:Operand} {o:Op},(match T.dF t with
   |some (.map af _)=>
    match T.dF af with
    |some d=>lm lk d&&cr m ae&&cr x nD&&cr v fX
    |none=>false
   |_=>false)=true→(∀dst pos after guard,execOp a.eval ⟨dst,o,ty,pos,after,guard⟩=(do Instr.mapUpdate t (a.eval ae) (a.eval nD) (a.eval fX);pure .skip:Sem Next))→∃v s',k v s'=r∧pu P o ty a.eval κ s w v s':=by
   intro t ae nD fX o h aj;split at h
   ·rename_i af ak cB;split at h
    ·rename_i d bI;simp only[bL] at h;exact u2 bl bo b7 dL bq (BB bl bo bq (fF.dF _ _ cB) (fF.dF _ _ bI) h.1.1.1 (bS b7 dL h.1.1.2) (bS b7 dL h.1.2) (bS b7 dL h.2) aj aQ)
    ·cases h
   ·cases h
  split at h
  ·exact key h (fun _ _ _ _=>rfl)
  ·exact key h (fun _ _ _ _=>rfl)
  ·cases h
 |lookup lk z ok m x=>
  simp only[bB] at aQ;simp only[eK] at h;split at h
  ·split at h
   ·rename_i af ak cB;split at h
    ·rename_i d n b Z bI bk;simp only[bL,beq_iff_eq] at h;obtain⟨⟨⟨⟨aD,aG⟩,bz⟩,cz⟩,B⟩:=h;subst bz;obtain⟨i,i1,_,_,i2⟩:=fF.info _ _ _ _ bk;exact mw bl bo b7 dL bq (BC bl bo bq (fF.dF _ _ cB) (fF.dF _ _ bI) aD i1 i2 aG (bS b7 dL cz) (bS b7 dL B) aQ)
    ·cases h
   ·cases h
  ·cases h
 |jk ia f xs=>
  simp only[bB,bo,bb.not] at aQ;simp only[eK] at h;split at h
  ·rename_i c;split at h
   ·rename_i MY a9;simp only[bL] at h
    have:=c2 h.1;subst this;obtain⟨v,s',bU,J⟩:=mx (ty:=ty) (ρ:=a.eval) (o:=.call c) bl bo ku b7 dL bq (jv b7 dL _ _ h.2) (fun dst pos after guard=>by rw[lA ⟨_,a9,rfl⟩];simp) aQ;exact⟨v,s',cF bU bq |>.2,J⟩
   ·cases h
  ·cases h
 |jI ia g xs=>
  simp only[bB] at aQ;simp only[eK] at h;split at h
  ·rename_i c;split at h
   ·rename_i g' a9;simp only[bL] at h;have aT:=bS b7 dL h.1;generalize aL E.aS aC g=X at aT aQ;cases X<;> simp only[kY,bo,bb.not] at aQ<;> try exact absurd aQ.symm bq
    obtain⟨K,R,bG⟩:=c8.C7 (x:=a.eval _) aT;obtain⟨v,s',bU,J⟩:=mx (ty:=ty) (ρ:=a.eval) (o:=.call c) bl bo ku b7 dL bq ((jv b7 dL _ _ h.2).append bG) (fun dst pos after guard=>by rw[lA ⟨_,a9,R⟩]) aQ;exact⟨v,s',cF bU bq |>.2,J⟩
   ·cases h
  ·cases h
 |rU neg x=>
  simp only[bB] at aQ;simp only[eK] at h;obtain⟨v,aD,cg⟩:=o2 bl bo b7 dL bq aQ;split at h
  ·split at h
   ·rename_i cB;simp only[bL,Cl,ij] at h;exact cm bl bo b7 dL bq cg (FW bl h.1 (fF.dF _ _ cB) (bS b7 dL h.2) rfl aD)
   ·cases h
  ·cases h
 |no=>exact absurd aQ.symm bq
end
def ao.bind(r:ao)(k kp:ai→aq→ao):ao:=
 match r with
 |.ok v s=>k v s
 |.panic v s=>kp v s
 |.fail=>.fail
section
variable{E:Env}(bo:E.F=.not)(aC:Nat→ai)(s:aq)(k kp:ai→aq→ao)
include bo
theorem l0(v:Option ai):w1 E s k v=ao.bind (w1 E s .ok v) k kp:=by cases v<;> simp [w1,bo,bb.not,ao.bind]
theorem nK(m:Option Nat)(cs:List ai):fc E s k m cs=ao.bind (fc E s .ok m cs) k kp:=by
 cases m<;> simp only[fc,bo,bb.not]
 ·cases cs<;> rfl
 ·cases Nat.ble _ _<;> rfl
theorem Dk(a:Loc)(off:Nat)(vs:List ai):jJ E s k a off vs=ao.bind (jJ E s .ok a off vs) k kp:=by
 simp only[jJ,bo,bb.not];cases s.get a with
 |none=>rfl
 |some o=>
  cases o<;> try rfl
  simp only;cases(_&&_:Bool)<;> try rfl
  simp only[cb];cases s.set a _<;> rfl
theorem BF(x:ai)(eQ bk:Option bR):ka E aC s k x eQ bk=ao.bind (ka E aC s .ok x eQ bk) k kp:=by
 cases x<;> simp only[ka,bo,bb.not]<;> try rfl
 cases cS E.aS aC eQ 0<;> try rfl
 cases cS E.aS aC bk _<;> try rfl
 simp only;cases(_&&_:Bool)<;> rfl
theorem Dl(z:Nat)(x:ai)(eQ bk iU:Option bR):ko E aC s k z x eQ bk iU=ao.bind (ko E aC s .ok z x eQ bk iU) k kp:=by
 cases x<;> simp only[ko,bo,bb.not]<;> try rfl
 ·cases cS E.aS aC eQ 0<;> try rfl
  cases cS E.aS aC bk _<;> try rfl
  cases iU with
  |none=>simp only;cases(_&&_:Bool)<;> rfl
  |some x=>
   simp only;rename_i g _ _;cases eE (aL E.aS aC x)<;> cases g<;> try rfl
   all_goals simp only;cases(_&&_:Bool)<;> rfl
 ·cases cS E.aS aC eQ 0<;> try rfl
  cases cS E.aS aC bk _<;> try rfl
  cases cS E.aS aC iU _<;> try rfl
  simp only;cases(_&&_:Bool)<;> rfl
theorem yA(q bytes:Nat)(b:Loc)(x y:ai):kC E s k q bytes b x y=ao.bind (kC E s .ok q bytes b x y) k kp:=by
 simp only[kC,bo,bb.not];cases y<;> try rfl
 rename_i z new _;cases x<;> try rfl
 rename_i sz es g;simp only;cases(_&&_:Bool)<;> try rfl
 simp only[cb];cases new<;> try rfl
 cases g<;> try rfl
 ·simp only;cases uR s b _<;> try rfl
  simp only[cb];cases s.gg b _<;> rfl
 ·simp only;rename_i a;cases s.get a<;> try rfl
  rename_i o;cases o<;> try rfl
  simp only;cases(_&&_:Bool)<;> try rfl
  simp only[cb];cases s.set a _<;> rfl
theorem BG(z n:Nat)(x:ai)(eQ bk iU:Option bR):iO E aC s k z n x eQ bk iU=ao.bind (iO E aC s .ok z n x eQ bk iU) k kp:=by
 cases x<;> simp only[iO,bo,bb.not]<;> try rfl
 cases cS E.aS aC eQ 0<;> try rfl
 cases cS E.aS aC bk _<;> try rfl
 cases cS E.aS aC iU _<;> try rfl
 simp only;cases(_&&_:Bool)<;> rfl
theorem rj(q bytes:Nat)(b:Loc)(x y:ai):fl E s k q bytes b x y=ao.bind (fl E s .ok q bytes b x y) k kp:=by
 simp only[fl,bo,bb.not];cases dB s y with
 |none=>rfl
 |some p=>
  obtain⟨z,new⟩:=p;cases x<;> try rfl
  ·rename_i sz es g;simp only;cases(_&&_:Bool)<;> try rfl
   simp only[cb];cases new<;> try rfl
   cases g<;> try rfl
   ·simp only;cases s.gg b _<;> rfl
   ·simp only;cases s.gg b _<;> rfl
   rename_i a;simp only;cases s.get a<;> try rfl
   rename_i o;cases o<;> try rfl
   simp only;cases(_&&_:Bool)<;> try rfl
   simp only[cb];cases s.set a _<;> rfl
  ·rename_i a off len cap sz;simp only;cases s.get a<;> try rfl
   rename_i o;cases o<;> try rfl
   simp only;cases(_&&_:Bool)<;> try rfl
   simp only[cb];cases s.set a _<;> rfl
theorem BH(lk:Bk)(m x v:ai):kd E s k lk m x v=ao.bind (kd E s .ok lk m x v) k kp:=by
 cases m<;> simp only[kd,bo,bb.not]<;> try rfl
 cases s.get _<;> try rfl
 rename_i o;cases o<;> try rfl
 simp only;cases(_&&_:Bool)<;> try rfl
 simp only[cb];cases putKey x v _<;> try rfl
 simp only;cases s.set _ _<;> rfl
theorem BI(lk:Bk)(z:ai)(ok:Bool)(m x:ai):ke E s k lk z ok m x=ao.bind (ke E s .ok lk z ok m x) k kp:=by
 simp only[ke,bo,bb.not];cases isKey lk x<;> try rfl
 simp only[cb];cases entriesOf s m<;> try rfl
 simp only;cases findKey x _<;> try rfl
 rename_i o;cases o<;> rfl
theorem M8(sz:Nat)(x i:ai):mZ E s k sz x i=ao.bind (mZ E s .ok sz x i) k kp:=by
 simp only[mZ,bo,bb.not];cases eE i<;> try rfl
 cases x<;> try rfl
 ·simp only;cases Nat.beq _ _<;> try rfl
  simp only[cb];rename_i es _;split<;> rfl
 ·simp only;cases(_&&_:Bool)<;> rfl
theorem BJ(sz len:Nat)(x i:ai):jl E s k sz len x i=ao.bind (jl E s .ok sz len x i) k kp:=by
 simp only[jl,bo,bb.not];cases eE i<;> try rfl
 simp only;cases Nat.blt _ _<;> try rfl
 cases x<;> rfl
theorem vM(f:Nat)(args:List ai):cV E s k kp f args=ao.bind (cV E s .ok .panic f args) k kp:=by
 simp only[cV];cases E.call f args s<;> try rfl
 simp only;cases Nat.beq _ _<;> rfl
theorem se(xs:List (Option Nat×ai))(f:Nat)(args:List ai):hC E s k kp xs f args=ao.bind (hC E s .ok .panic xs f args) k kp:=by
 simp only[hC,cV];cases E.call f args s<;> try rfl
 simp only;cases Nat.beq _ _<;> try rfl
 simp only[cb];cases xs.all _<;> rfl
theorem sf(f:Nat)(args:List ai):hD E s k f args=ao.bind (hD E s .ok f args) k kp:=by
 simp only[hD];cases ai.bj args<;> try rfl
 simp only[cb];cases E.call f args _<;> try rfl
 rename_i v _;simp only;cases v.bp<;> rfl
theorem Dm(n:Option Nat)(v:ai):fq E s k n v=ao.bind (fq E s .ok n v) k kp:=by
 cases v<;> simp only[fq]<;> try rfl
 ·rename_i a off;cases s.get a<;> try rfl
  rename_i o;cases o<;> try rfl
  exact nK bo s k kp _ _
 ·exact nK bo s k kp _ _
theorem u3(off:Nat)(v:ai):hR E s k off v=ao.bind (hR E s .ok off v) k kp:=by cases v<;> simp only[hR,bo,bb.not]<;> rfl
theorem Dn(off:Nat)(n:Option Nat)(v:ai):mq E s k off n v=ao.bind (mq E s .ok off n v) k kp:=by
 cases v<;> simp only[mq]<;> try rfl
 exact nK bo s k kp _ _
theorem BK(v i:ai):jm E s k v i=ao.bind (jm E s .ok v i) k kp:=by
 cases v<;> simp only[jm,bo,bb.not]<;> try rfl
 cases eE i<;> try rfl
 simp only;split<;> rfl
theorem BL(sz len:Nat)(n:Option Nat)(v i:ai):kX E s k sz len n v i=ao.bind (kX E s .ok sz len n v i) k kp:=by
 cases v<;> simp only[kX]<;> try rfl
 cases eE i<;> try rfl
 simp only;cases Nat.blt _ _<;> try rfl
 exact nK bo s k kp _ _
theorem yB(i:Nat)(v:ai):kE E s k i v=ao.bind (kE E s .ok i v) k kp:=by
 cases v<;> simp only[kE]<;> try rfl
 exact l0 bo s k kp _
theorem M9(b:Bool)(v:ai):rY E s k b v=ao.bind (rY E s .ok b v) k kp:=by cases b<;> cases v<;> simp only[rY,bo,bb.not]<;> rfl
theorem F2(d x:ai):copyV E s k d x=ao.bind (copyV E s .ok d x) k kp:=by
 cases d<;> simp only[copyV,bo,bb.not]<;> try rfl
 rename_i a off len cap sz;cases dB s x<;> try rfl
 simp only;cases s.get a<;> try rfl
 rename_i o;cases o<;> try rfl
 simp only;cases(_&&_:Bool)<;> try rfl
 simp only[cb];cases s.set a _<;> rfl
theorem Dp(q:Nat)(d x:ai):mr E s k q d x=ao.bind (mr E s .ok q d x) k kp:=by
 cases d<;> simp only[mr]<;> try rfl
 cases Nat.beq _ _<;> first|rfl |skip
 simp only[cb];exact F2 bo s k kp _ _
theorem F3(zero:List ai)(bytes:Nat)(l c:ai):nY E s k zero bytes l c=ao.bind (nY E s .ok zero bytes l c) k kp:=by
 simp only[nY,bo,bb.not];cases eE l<;> try rfl
 cases eE c<;> try rfl
 simp only;cases(_&&_:Bool)<;> rfl
theorem BM(n:Nat)(a v:ai):hp E s k n a v=ao.bind (hp E s .ok n a v) k kp:=by
 cases a<;> simp only[hp]<;> try rfl
 cases(_&&_:Bool)<;> try rfl
 exact Dk bo s k kp _ _ _
theorem yC(d:IntKind)(v:ai):kF E s k d v=ao.bind (kF E s .ok d v) k kp:=by cases v<;> simp only[kF,bo,bb.not]<;> rfl
theorem BN(v:ai):m0 s k v=ao.bind (m0 s .ok v) k kp:=by cases v<;> rfl
theorem sg(v:ai):g4 E s k v=ao.bind (g4 E s .ok v) k kp:=by cases v<;> simp only[g4,bo,bb.not]<;> rfl
theorem sh(v:ai):hS E s k v=ao.bind (hS E s .ok v) k kp:=by cases v<;> first|rfl |(simp only[hS];cases dB s _<;> first|rfl |exact l0 bo s k kp _)
theorem F4(c a b:ai):pI E s k c a b=ao.bind (pI E s .ok c a b) k kp:=by cases c<;> simp only[pI,bo,bb.not]<;> rfl
theorem w5(v:ai):jn E s k v=ao.bind (jn E s .ok v) k kp:=by
 simp only[jn,bo,bb.not];cases isNil v<;> try rfl
 rename_i b;cases b<;> rfl
theorem Dq(v:ai):nG E s k v=ao.bind (nG E s .ok v) k kp:=by
 cases v<;> simp only[nG,bo,bb.not]<;> try rfl
 rename_i a off len cap sz;cases a<;> try rfl
 simp only;rename_i i;cases s.own[i]? <;> try rfl
 rename_i o;cases o<;> try rfl
 simp only;cases(_&&_:Bool)<;> rfl
theorem si(sz:Nat)(es:List ai):hT E s k sz es=ao.bind (hT E s .ok sz es) k kp:=by simp only[hT,bo,bb.not];cases(_&&_:Bool)<;> rfl
theorem Dr(f:ai)(args:List ai):lK E s k kp f args=ao.bind (lK E s .ok .panic f args) k kp:=by
 cases f<;> simp only[lK,bo,bb.not]<;> try rfl
 exact vM bo s k kp _ _
theorem BO(f:ai)(args:List ai):kc E s k f args=ao.bind (kc E s .ok f args) k kp:=by
 cases f<;> simp only[kc,bo,bb.not]<;> try rfl
 exact sf bo s k kp _ _
theorem sj(f:ai→ai→Option ai)(xs:List ai):lL E s k f xs=ao.bind (lL E s .ok f xs) k kp:=by
 cases xs<;> simp only[lL]<;> try rfl
 exact l0 bo s k kp _
theorem jM(op:gx):bB E aC s k kp op=ao.bind (bB E aC s .ok .panic op) k kp:=by
 cases op<;> simp only[bB]
 case move=>simp only[bo,bb.not];rfl
 case pF=>exact Dq bo s k kp _
 case pick=>exact F4 bo s k kp _ _ _
 case alloc=>simp only[bo,bb.not];rfl
 case dz x=>simp only[bo,bb.not];cases(aL E.aS aC x).fo<;> rfl
 case hA x=>simp only[bo,bb.not];cases(aL E.aS aC x).fo<;> rfl
 case build=>exact l0 bo s k kp _
 case buildSlice=>exact si bo s k kp _ _
 case load=>exact Dm bo s k kp _ _
 case store=>exact BM bo s k kp _ _ _
 case nilCheck=>exact w5 bo s k kp _
 case bin=>exact l0 bo s k kp _
 case eq=>exact l0 bo s k kp _
 case un=>exact l0 bo s k kp _
 case lX=>exact yC bo s k kp _ _
 case oT=>exact BN bo s k kp _
 case fM=>exact sh bo s k kp _
 case hQ=>exact sg bo s k kp _
 case dA=>simp only[bo,bb.not];rfl
 case hB=>simp only[bo,bb.not];rfl
 case makeSlice=>exact F3 bo s k kp _ _ _ _
 case fV=>exact BF bo aC s k kp _ _ _
 case slice=>exact Dl bo aC s k kp _ _ _ _ _
 case fieldAddr=>exact u3 bo s k kp _ _
 case field=>exact Dn bo s k kp _ _ _
 case fy=>exact M8 bo s k kp _ _ _
 case fW=>exact BJ bo s k kp _ _ _ _
 case cZ=>exact BK bo s k kp _ _
 case oU=>exact BL bo s k kp _ _ _ _ _
 case extract=>exact yB bo s k kp _ _
 case call=>simp only[bo,bb.not];exact vM bo s k kp _ _
 case cV=>exact Dr bo s k kp _ _
 case gR=>simp only[bo,bb.not];exact sf bo s k kp _ _
 case mo=>exact BO bo s k kp _ _
 case len=>exact M9 bo s k kp _ _
 case append=>
  simp only[er];cases ik E.aS aC _<;> try rfl
  exact rj bo s k kp _ _ _ _ _
 case kV=>
  simp only[m1];cases ik E.aS aC _<;> try rfl
  exact yA bo s k kp _ _ _ _ _
 case g3=>simp only[kb,bo,bb.not];cases(_&&_:Bool)<;> rfl
 case iL=>
  simp only[kD,bo,bb.not];cases dB s _ with
  |none=>rfl
  |some p=>
   obtain⟨z,new⟩:=p;cases new with
   |nil=>rfl
   |cons c new=>
    simp only;split
    ·cases(_&&_:Bool)<;> rfl
    ·split
     ·cases(_&&_:Bool)<;> rfl
     ·rfl
    ·rfl
 case jd=>exact BG bo aC s k kp _ _ _ _ _ _
 case j8=>
  simp only[lq];cases aL E.aS aC _<;> try rfl
  simp only[er];cases ik E.aS aC _<;> try rfl
  exact rj bo s k kp _ _ _ _ _
 case makeMap=>
  simp only[kG,bo,bb.not];cases ik E.aS aC _<;> try rfl
  simp only;cases s.gg _ _<;> rfl
 case kn=>exact BH bo s k kp _ _ _ _
 case lookup=>exact BI bo s k kp _ _ _ _ _
 case no=>rfl
 case rU=>exact l0 bo s k kp _
 case jk=>simp only[bo,bb.not];exact se bo s k kp _ _ _
 case jI=>
  simp only[kY,bo,bb.not];cases aL E.aS aC _<;> try rfl
  exact se bo s k kp _ _ _
 case copy=>exact Dp bo s k kp _ _ _
 case min=>exact sj bo s k kp _ _
 case max=>exact sj bo s k kp _ _
end
def gj(o:Option ai)(k:ai→aq→ao)(s:aq):ao:=
 match o with
 |some v=>k v s
 |none=>.fail
def gx.q3:gx→Nat
 |.load .. |.fM _|.lookup ..=>1
 |.pF _|.alloc _|.hA _|.store .. |.makeSlice .. |.append .. |.j8 .. |.kV .. |.g3 .. |.iL .. |.copy .. |.call .. |.cV .. |.makeMap _|.kn .. |.jk .. |.jI ..=>2
 |_=>0
def gx.abp:gx→List bR
 |.move x|.pF x|.dz x|.hA x|.load _ x|.nilCheck x|.un _ x|.lX _ x|.oT x|.fM x|.hQ x|.dA _ x|.fieldAddr _ x|.field _ _ x|.extract x _|.len _ x=>[x]
 |.pick a b c=>[a,b,c]
 |.rU _ x=>[x]
 |.alloc _=>[]
 |.build _ fk=>fk.map (·.2.2)
 |.buildSlice _ xs|.hB _ xs|.call _ xs|.gR _ xs|.min xs|.max xs=>xs
 |.store _ a b|.bin _ a b|.eq _ _ a b|.makeSlice _ _ a b|.fy _ a b|.fW _ _ a b|.cZ a b|.oU _ _ _ a b|.copy _ a b|.lookup _ _ _ a b=>[a,b]
 |.append _ _ c a b=>c.toList++[a,b]
 |.j8 _ _ c a b=>c.toList++[a,b]
 |.kV _ _ c a b=>c.toList++[a,b]
 |.g3 _ xs=>xs
 |.iL _ _ a b=>[a,b]
 |.makeMap c=>c.toList
 |.kn _ a b c=>[a,b,c]
 |.no=>[]
 |.cV f xs|.mo f xs=>f::xs
 |.jk ia _ xs=>ia.map (·.2)++xs
 |.jI ia f xs=>f::(ia.map (·.2)++xs)
 |.fV x eQ bk=>x::(eQ.toList++bk.toList)
 |.slice _ x eQ bk iU=>x::(eQ.toList++bk.toList++iU.toList)
 |.jd _ _ x eQ bk iU=>x::(eQ.toList++bk.toList++iU.toList)
section
variable{E:Env}(bo:E.F=.not)(aC:Nat→ai)
include bo
theorem ow(v:Option ai):∃o,∀s k,w1 E s k v=gj o k s:=⟨v,fun s k=>by cases v<;> simp only[w1,bo,bb.not,gj]⟩
theorem pO(m:Option Nat)(cs:List ai):∃o,∀s k,fc E s k m cs=gj o k s:=by
 cases m<;> simp only[fc,bo,bb.not]
 ·cases cs
  ·exact⟨none,fun _ _=>rfl⟩
  ·exact⟨some _,fun _ _=>rfl⟩
 ·cases Nat.ble _ _
  ·exact⟨none,fun _ _=>rfl⟩
  ·exact⟨some _,fun _ _=>rfl⟩
theorem BP(x:ai)(eQ bk:Option bR):∃o,∀s k,ka E aC s k x eQ bk=gj o k s:=by
 cases x<;> simp only[ka,bo,bb.not]<;> try exact⟨none,fun _ _=>rfl⟩
 cases cS E.aS aC eQ 0<;> try exact⟨none,fun _ _=>rfl⟩
 cases cS E.aS aC bk _<;> try exact⟨none,fun _ _=>rfl⟩
 simp only;cases(_&&_:Bool)
 ·exact⟨none,fun _ _=>rfl⟩
 ·exact⟨some _,fun _ _=>rfl⟩
theorem BQ(z n:Nat)(x:ai)(eQ bk iU:Option bR):∃o,∀s k,iO E aC s k z n x eQ bk iU=gj o k s:=by
 cases x<;> simp only[iO,bo,bb.not]<;> try exact⟨none,fun _ _=>rfl⟩
 cases cS E.aS aC eQ 0<;> try exact⟨none,fun _ _=>rfl⟩
 cases cS E.aS aC bk _<;> try exact⟨none,fun _ _=>rfl⟩
 cases cS E.aS aC iU _<;> try exact⟨none,fun _ _=>rfl⟩
 simp only;cases(_&&_:Bool)
 ·exact⟨none,fun _ _=>rfl⟩
 ·exact⟨some _,fun _ _=>rfl⟩
theorem Ds(z:Nat)(x:ai)(eQ bk iU:Option bR):∃o,∀s k,ko E aC s k z x eQ bk iU=gj o k s:=by
 cases x<;> simp only[ko,bo,bb.not]<;> try exact⟨none,fun _ _=>rfl⟩
 ·cases cS E.aS aC eQ 0<;> try exact⟨none,fun _ _=>rfl⟩
  cases cS E.aS aC bk _<;> try exact⟨none,fun _ _=>rfl⟩
  cases iU with
  |none=>
   simp only;cases(_&&_:Bool)
   ·exact⟨none,fun _ _=>rfl⟩
   ·exact⟨some _,fun _ _=>rfl⟩
  |some x=>
   simp only;rename_i g _ _;cases eE (aL E.aS aC x)<;> cases g<;> try exact⟨none,fun _ _=>rfl⟩
   all_goals
    simp only;cases(_&&_:Bool)
    ·exact⟨none,fun _ _=>rfl⟩
    ·exact⟨some _,fun _ _=>rfl⟩
 ·cases cS E.aS aC eQ 0<;> try exact⟨none,fun _ _=>rfl⟩
  cases cS E.aS aC bk _<;> try exact⟨none,fun _ _=>rfl⟩
  cases cS E.aS aC iU _<;> try exact⟨none,fun _ _=>rfl⟩
  simp only;cases(_&&_:Bool)
  ·exact⟨none,fun _ _=>rfl⟩
  ·exact⟨some _,fun _ _=>rfl⟩
theorem Na(sz:Nat)(x i:ai):∃o,∀s k,mZ E s k sz x i=gj o k s:=by
 simp only[mZ,bo,bb.not];cases eE i<;> try exact⟨none,fun _ _=>rfl⟩
 rename_i i;cases x<;> try exact⟨none,fun _ _=>rfl⟩
 ·simp only;cases Nat.beq _ _
  ·exact⟨none,fun _ _=>rfl⟩
  rename_i es _;simp only[cb];cases es[i]?
  ·exact⟨none,fun _ _=>rfl⟩
  ·exact⟨some _,fun _ _=>rfl⟩
 ·simp only;cases(_&&_:Bool)
  ·exact⟨none,fun _ _=>rfl⟩
  ·exact⟨some _,fun _ _=>rfl⟩
theorem BR(sz len:Nat)(x i:ai):∃o,∀s k,jl E s k sz len x i=gj o k s:=by
 simp only[jl,bo,bb.not];cases eE i<;> try exact⟨none,fun _ _=>rfl⟩
 simp only;cases Nat.blt _ _<;> try exact⟨none,fun _ _=>rfl⟩
 cases x<;> first|exact⟨none,fun _ _=>rfl⟩|exact⟨some _,fun _ _=>rfl⟩
theorem sk(f:Nat)(args:List ai):∃o,∀s k,hD E s k f args=gj o k s:=by
 simp only[hD];cases ai.bj args<;> try exact⟨none,fun _ _=>rfl⟩
 simp only[cb];cases E.call f args _<;> try exact⟨none,fun _ _=>rfl⟩
 rename_i v _;simp only;cases v.bp
 ·exact⟨none,fun _ _=>rfl⟩
 ·exact⟨some _,fun _ _=>rfl⟩
theorem u4(off:Nat)(v:ai):∃o,∀s k,hR E s k off v=gj o k s:=by cases v<;> simp only[hR,bo,bb.not]<;> first|exact⟨none,fun _ _=>rfl⟩|exact⟨some _,fun _ _=>rfl⟩
theorem Dt(off:Nat)(n:Option Nat)(v:ai):∃o,∀s k,mq E s k off n v=gj o k s:=by
 cases v<;> simp only[mq]<;> try exact⟨none,fun _ _=>rfl⟩
 exact pO bo _ _
theorem BS(v i:ai):∃o,∀s k,jm E s k v i=gj o k s:=by
 cases v<;> simp only[jm,bo,bb.not]<;> try exact⟨none,fun _ _=>rfl⟩
 cases eE i<;> try exact⟨none,fun _ _=>rfl⟩
 rename_i eB i;simp only;cases eB[i]?
 ·exact⟨none,fun _ _=>rfl⟩
 ·exact⟨some _,fun _ _=>rfl⟩
theorem BT(sz len:Nat)(n:Option Nat)(v i:ai):∃o,∀s k,kX E s k sz len n v i=gj o k s:=by
 cases v<;> simp only[kX]<;> try exact⟨none,fun _ _=>rfl⟩
 cases eE i<;> try exact⟨none,fun _ _=>rfl⟩
 simp only;cases Nat.blt _ _<;> try exact⟨none,fun _ _=>rfl⟩
 exact pO bo _ _
theorem yD(i:Nat)(v:ai):∃o,∀s k,kE E s k i v=gj o k s:=by
 cases v<;> simp only[kE]<;> try exact⟨none,fun _ _=>rfl⟩
 exact ow bo _
theorem Nb(b:Bool)(v:ai):∃o,∀s k,rY E s k b v=gj o k s:=by cases b<;> cases v<;> simp only[rY,bo,bb.not]<;> first|exact⟨none,fun _ _=>rfl⟩|exact⟨some _,fun _ _=>rfl⟩
theorem yE(d:IntKind)(v:ai):∃o,∀s k,kF E s k d v=gj o k s:=by cases v<;> simp only[kF,bo,bb.not]<;> first|exact⟨none,fun _ _=>rfl⟩|exact⟨some _,fun _ _=>rfl⟩
omit bo in
theorem BU(v:ai):∃o,∀s k,m0 s k v=gj o k s:=by cases v<;> simp only[m0]<;> first|exact⟨none,fun _ _=>rfl⟩|exact⟨some _,fun _ _=>rfl⟩
theorem sl(v:ai):∃o,∀s k,g4 E s k v=gj o k s:=by cases v<;> simp only[g4,bo,bb.not]<;> first|exact⟨none,fun _ _=>rfl⟩|exact⟨some _,fun _ _=>rfl⟩
theorem F5(c a b:ai):∃o,∀s k,pI E s k c a b=gj o k s:=by cases c<;> simp only[pI,bo,bb.not]<;> first|exact⟨none,fun _ _=>rfl⟩|exact⟨some _,fun _ _=>rfl⟩
theorem w6(v:ai):∃o,∀s k,jn E s k v=gj o k s:=by
 simp only[jn,bo,bb.not];cases isNil v<;> try exact⟨none,fun _ _=>rfl⟩
 rename_i b;cases b
 ·exact⟨some _,fun _ _=>rfl⟩
 ·exact⟨none,fun _ _=>rfl⟩
theorem sm(sz:Nat)(es:List ai):∃o,∀s k,hT E s k sz es=gj o k s:=by
 simp only[hT,bo,bb.not];cases(_&&_:Bool)
 ·exact⟨none,fun _ _=>rfl⟩
 ·exact⟨some _,fun _ _=>rfl⟩
theorem BV(f:ai)(args:List ai):∃o,∀s k,kc E s k f args=gj o k s:=by
 cases f<;> simp only[kc,bo,bb.not]<;> try exact⟨none,fun _ _=>rfl⟩
 exact sk bo _ _
theorem sn(f:ai→ai→Option ai)(xs:List ai):∃o,∀s k,lL E s k f xs=gj o k s:=by
 cases xs<;> simp only[lL]<;> try exact⟨none,fun _ _=>rfl⟩
 exact ow bo _
theorem yF{op:gx}(a9:op.q3=0)(d:Nat):∃o,∀(s:aq) k kp,s.aa=d→bB E aC s k kp op=gj o k s:=by
 have key:∀{f:aq→(ai→aq→ao)→ao},(∃o,∀s k,f s k=gj o k s)→∃o,∀(s:aq) (k kp:ai→aq→ao),s.aa=d→f s k=gj o k s:=fun⟨o,h⟩=>⟨o,fun s k kp _=>h s k⟩
 cases op<;> simp only[gx.q3] at a9<;> first|exact absurd a9 (by decide)|skip
 all_goals simp only[bB]
 case move x=>exact⟨some (aL E.aS aC x),fun s k kp _=>by simp only[bo,bb.not,gj]⟩
 case pick c a b=>exact key (F5 bo _ _ _)
 case dz x=>
  cases bG:(aL E.aS aC x).fo
  ·exact⟨none,fun s k kp _=>by simp only[bo,bb.not,gj,cond_false]⟩
  ·exact⟨some (.bM ((aL E.aS aC x).ak d).cells),fun s k kp h=>by simp only[bo,bb.not,gj,cb,h]⟩
 case build zero parts=>exact⟨(e9 E.aS d aC zero parts).map .agg,fun s k kp h=>by rw[h];cases e9 E.aS d aC zero parts<;> simp only[w1,bo,bb.not,gj,eU,Option.map_none]⟩
 case buildSlice=>exact key (sm bo _ _)
 case nilCheck=>exact key (w6 bo _)
 case bin=>exact key (ow bo _)
 case eq=>exact key (ow bo _)
 case un=>exact key (ow bo _)
 case lX=>exact key (yE bo _ _)
 case oT=>exact key (BU _)
 case hQ=>exact key (sl bo _)
 case dA t x=>exact⟨some (.iface t ((aL E.aS aC x).ak d)),fun s k kp h=>by simp only[bo,bb.not,gj,h]⟩
 case hB f ep=>exact⟨some (.fn f (ep.map fun x=>(aL E.aS aC x).ak d)),fun s k kp h=>by simp only[bo,bb.not,gj,h]⟩
 case fV=>exact key (BP bo aC _ _ _)
 case slice=>exact key (Ds bo aC _ _ _ _ _)
 case jd=>exact key (BQ bo aC _ _ _ _ _ _)
 case fieldAddr=>exact key (u4 bo _ _)
 case field=>exact key (Dt bo _ _ _)
 case fy=>exact key (Na bo _ _ _)
 case fW=>exact key (BR bo _ _ _ _)
 case cZ=>exact key (BS bo _ _)
 case oU=>exact key (BT bo _ _ _ _ _)
 case extract=>exact key (yD bo _ _)
 case gR f args=>obtain⟨o,h⟩:=sk bo f (args.map fun x=>(aL E.aS aC x).ak d);exact⟨o,fun s k kp bI=>by simp only[bo,bb.not,bI];exact h s k⟩
 case mo f args=>obtain⟨o,h⟩:=BV bo (aL E.aS aC f) (args.map fun x=>(aL E.aS aC x).ak d);exact⟨o,fun s k kp bI=>by simp only[bI];exact h s k⟩
 case no=>exact⟨none,fun s k kp _=>rfl⟩
 case rU=>exact key (ow bo _)
 case len=>exact key (Nb bo _ _)
 case min xs=>obtain⟨o,h⟩:=sn bo min2 (xs.map fun x=>(aL E.aS aC x).ak d);exact⟨o,fun s k kp bI=>by simp only[bI];exact h s k⟩
 case max xs=>obtain⟨o,h⟩:=sn bo max2 (xs.map fun x=>(aL E.aS aC x).ak d);exact⟨o,fun s k kp bI=>by simp only[bI];exact h s k⟩
theorem vN{op:gx}(a9:op.q3=1){s s':aq}{v:ai}(h:bB E aC s .ok .panic op=.ok v s'):s'=s:=by
 have me:∀{m:Option ai},w1 E s .ok m=.ok v s'→s'=s:=fun {m} h=>by cases m<;> simp [w1,bo,bb.not] at h;exact h.2.symm
 have e:∀{n:Option Nat} {cs:List ai},fc E s .ok n cs=.ok v s'→s'=s:=fun {n cs} h=>by obtain⟨o,r⟩:=pO bo n cs;rw[r] at h;cases o<;> simp [gj] at h;exact h.2.symm
 cases op<;> simp only[gx.q3] at a9<;> first|exact absurd a9 (by decide)|skip
 all_goals simp only[bB] at h
 case load n a=>
  unfold fq at h;split at h
  ·exact e h
  ·split at h
   ·exact e h
   ·cases h
  ·cases h
 case fM x=>
  unfold hS at h;split at h
  ·cases h
  ·split at h
   ·exact me h
   ·cases h
 case lookup lk z ok m x=>
  unfold ke at h;simp only[bo,bb.not] at h;cases cg:isKey lk (ai.ak s.aa (aL E.aS aC x)) with
  |false=>rw[cg] at h;cases h
  |true=>
   rw[cg,cb] at h;split at h
   ·split at h
    ·simp only[ao.ok.injEq] at h;exact h.2.symm
    ·simp only[ao.ok.injEq] at h;exact h.2.symm
    ·cases h
   ·cases h
end
theorem aq.kv{s s':aq}{a:Loc}{o:bd}(h:s.set a o=some s'):s'.aa=s.aa:=by
 unfold aq.set at h;split at h
 ·simp only[bV] at h;subst h;rfl
 ·split at h
  ·simp only[bV] at h;subst h;rfl
  ·split at h
   ·simp only[bV] at h;subst h;simp [aq.aa]
   ·cases h
theorem aq.my{s s':aq}{a l:Loc}{o:bd}(h:s.gg a o=some (l,s')):s'.aa=s.aa:=by
 unfold aq.gg at h;split at h
 ·simp only[bV,e8] at h;rw[←h.2];rfl
 ·split at h
  ·simp only[bV,e8] at h;rw[←h.2];rfl
  ·split at h
   ·split at h
    ·simp only[bV,e8] at h;rw[←h.2];simp [aq.aa]
    ·cases h
   ·cases h
section
variable{E:Env}(bo:E.F=.not)(aC:Nat→ai)
include bo
theorem BW{s s':aq}{v:ai}{a:Loc}{off:Nat}{vs:List ai}(h:jJ E s .ok a off vs=.ok v s'):s'.aa=s.aa:=by
 simp only[jJ,bo,bb.not] at h;split at h
 ·cases e:(Nat.ble (off+vs.length) _&&s.ho a vs&&vs.all ai.dZ) with
  |false=>rw[e] at h;cases h
  |true=>
   rw[e,cb] at h;split at h
   ·rename_i r;simp only[ao.ok.injEq] at h;rw[←h.2];exact aq.kv r
   ·cases h
 ·cases h
theorem mz{s s':aq}{v:ai}{f:Nat}{args:List ai}(h:cV E s .ok .panic f args=.ok v s'):s'.aa=s.aa:=by
 simp only[cV] at h;split at h
 ·rename_i fX r a9;cases e:Nat.beq r.aa s.aa with
  |false=>rw[e] at h;cases h
  |true=>rw[e,cb] at h;simp only[ao.ok.injEq] at h;rw[←h.2];exact c2 e
 ·cases h
 ·cases h
theorem o3{s s':aq}{v:ai}{xs:List (Option Nat×ai)}{f:Nat}{args:List ai}(h:hC E s .ok .panic xs f args=.ok v s'):cV E s .ok .panic f args=.ok v s'∧∀x,x∈xs→∃l,dH s x.1 x.2=some l∧dH s' x.1 x.2=some l:=by
 simp only[hC,cV] at h ⊢;cases a9:E.call f args s<;> rw[a9] at h<;> try cases h
 rename_i fX r;simp only at h ⊢;cases u:Nat.beq r.aa s.aa with
 |false=>rw[u] at h;cases h
 |true=>
  rw[u,cb] at h;cases e:xs.all fun x=>nX (dH s x.1 x.2) (dH r x.1 x.2) with
  |false=>rw[e] at h;cases h
  |true=>rw[e,cb] at h;simp only[ao.ok.injEq] at h;obtain⟨rfl,rfl⟩:=h;refine⟨by simp,fun x aT=>?_⟩;exact mL.1 (List.all_eq_true.1 e x aT)
theorem hE{b:Bool}{x:ao}{v:ai}{s':aq}(h:(bif b then x else .fail)=.ok v s'):x=.ok v s':=by
 cases b with
 |true=>exact h
 |false=>cases h
theorem Du{s s':aq}{v:ai}{d x:ai}(h:copyV E s .ok d x=.ok v s'):s'.aa=s.aa:=by
 simp only[copyV,bo,bb.not] at h;split at h
 ·split at h
  ·split at h
   ·have h:=hE bo h;split at h
    ·rename_i e;simp only[ao.ok.injEq] at h;rw[←h.2];exact aq.kv e
    ·cases h
   ·cases h
  ·cases h
 ·cases h
theorem w7{s s':aq}{v:ai}{q b:Nat}{l:Loc}{x y:ai}(h:kC E s .ok q b l x y=.ok v s'):s'.aa=s.aa:=by
 simp only[kC,bo,bb.not] at h;split at h
 ·split at h
  ·have h:=hE bo h;split at h
   ·cases h
   ·split at h
    ·have h:=hE bo h;split at h
     ·rename_i e;simp only[ao.ok.injEq] at h;rw[←h.2];exact aq.my e
     ·cases h
    ·split at h
     ·have h:=hE bo h;split at h
      ·rename_i r;simp only[ao.ok.injEq] at h;rw[←h.2];exact aq.kv r
      ·cases h
     ·cases h
    ·cases h
  ·cases h
 ·cases h
theorem pP{s s':aq}{v:ai}{q b:Nat}{l:Loc}{x y:ai}(h:fl E s .ok q b l x y=.ok v s'):s'.aa=s.aa:=by
 simp only[fl,bo,bb.not] at h;split at h
 ·cases h
 ·split at h
  ·have h:=hE bo h;split at h
   ·simp only[ao.ok.injEq] at h;rw[←h.2]
   ·split at h
    ·split at h
     ·rename_i e;simp only[ao.ok.injEq] at h;rw[←h.2];exact aq.my e
     ·cases h
    ·split at h
     ·rename_i e;simp only[ao.ok.injEq] at h;rw[←h.2];exact aq.my e
     ·cases h
    ·split at h
     ·have h:=hE bo h;split at h
      ·rename_i r;simp only[ao.ok.injEq] at h;rw[←h.2];exact aq.kv r
      ·cases h
     ·cases h
    ·cases h
  ·split at h
   ·have h:=hE bo h;split at h
    ·rename_i r;simp only[ao.ok.injEq] at h;rw[←h.2];exact aq.kv r
    ·cases h
   ·cases h
  ·cases h
theorem F6{op:gx}{s s':aq}{v:ai}(h:bB E aC s .ok .panic op=.ok v s'):s'.aa=s.aa:=by
 by_cases cL:op.q3=0
 ·obtain⟨o,e⟩:=yF bo aC cL s.aa;rw[e s _ _ rfl] at h;cases o<;> simp [gj] at h;rw[h.2]
 by_cases aD:op.q3=1
 ·rw[vN bo aC aD h]
 cases op<;> simp only[gx.q3] at cL aD<;> first|exact absurd trivial cL|exact absurd trivial aD|skip
 all_goals simp only[bB] at h
 case pF x=>
  unfold nG at h;split at h
  ·split at h
   ·simp only[bo,bb.not] at h;have h:=hE bo h;simp only[ao.ok.injEq] at h;rw[←h.2];rfl
   ·cases h
  ·cases h
 case alloc z=>simp only[bo,bb.not,ao.ok.injEq] at h;rw[←h.2];rfl
 case hA x=>simp only[bo,bb.not] at h;have h:=hE bo h;simp only[ao.ok.injEq] at h;rw[←h.2];rfl
 case store n a u=>
  unfold hp at h;split at h
  ·exact BW bo (hE bo h)
  ·cases h
 case makeSlice z b l c=>
  unfold nY at h;split at h
  ·split at h
   ·simp only[bo,bb.not] at h;have h:=hE bo h;simp only[ao.ok.injEq] at h;rw[←h.2];rfl
   ·cases h
  ·cases h
 case call f xs=>simp only[bo,bb.not] at h;exact mz bo h
 case cV f xs=>
  unfold lK at h;split at h
  ·simp only[bo,bb.not] at h;exact mz bo h
  ·cases h
 case jk ia f xs=>simp only[bo,bb.not] at h;exact mz bo (o3 bo h).1
 case jI ia f xs=>
  unfold kY at h;split at h
  ·simp only[bo,bb.not] at h;exact mz bo (o3 bo h).1
  ·cases h
 case append=>
  unfold er at h;split at h
  ·exact pP bo h
  ·cases h
 case kV=>
  unfold m1 at h;split at h
  ·exact w7 bo h
  ·cases h
 case g3=>unfold kb at h;simp only[bo,bb.not] at h;have h:=hE bo h;simp only[ao.ok.injEq] at h;rw[←h.2];rfl
 case iL=>
  unfold kD at h;simp only[bo,bb.not] at h;split at h
  ·cases h
  split at h
  ·cases h
  split at h
  ·have h:=hE bo h;simp only[ao.ok.injEq] at h;rw[←h.2];rfl
  ·split at h
   ·have h:=hE bo h;simp only[ao.ok.injEq] at h;rw[←h.2];rfl
   ·cases h
  ·cases h
 case j8=>
  unfold lq at h;split at h
  ·unfold er at h;split at h
   ·exact pP bo h
   ·cases h
  ·cases h
 case makeMap=>
  unfold kG at h;split at h
  ·split at h
   ·rename_i r;simp only[bo,bb.not,ao.ok.injEq] at h;rw[←h.2];exact aq.my r
   ·cases h
  ·cases h
 case kn lk m x u=>
  unfold kd at h;split at h
  ·split at h
   ·have h:=hE bo h;split at h
    ·split at h
     ·rename_i y;simp only[bo,bb.not,ao.ok.injEq] at h;rw[←h.2];exact aq.kv y
     ·cases h
    ·cases h
   ·cases h
  ·cases h
 case copy q d x=>
  unfold mr at h;split at h
  ·exact Du bo (hE bo h)
  ·cases h
end
theorem hY{G g g':Nat→ai}{o:Option bR}{d:Nat}(h:∀x,x∈o.toList→aL G g x=aL G g' x):cS G g o d=cS G g' o d:=by
 cases o with
 |none=>rfl
 |some x=>simp only[cS,h x (by simp)]
theorem ox{G g g':Nat→ai}{d:Nat}:∀(fk:List (Nat×Nat×bR)) (cs:List ai),(∀x,x∈fk.map (·.2.2)→aL G g x=aL G g' x)→e9 G d g cs fk=e9 G d g' cs fk
 |[],_,_=>rfl
 |(off,sz,x)::fk,cs,h=>by simp only[e9,h x (by simp)];congr 1;exact ox fk _ (fun y dX=>h y (by simp only[fU,List.mem_cons];exact .inr dX))
theorem map_congr{G g g':Nat→ai}{f:ai→ai}(xs:List bR)(h:∀x,x∈xs→aL G g x=aL G g' x):xs.map (fun x=>f (aL G g x))=xs.map fun x=>f (aL G g' x):=List.map_congr_left fun x aT=>by rw[h x aT]
theorem F7{E:Env}{g g':Nat→ai}{op:gx}(h:∀x,x∈op.abp→aL E.aS g x=aL E.aS g' x)(s:aq)(k kp:ai→aq→ao):bB E g s k kp op=bB E g' s k kp op:=by
 cases op<;> simp only[gx.abp,List.mem_cons,mc,or_false,forall_eq_or_imp,forall_eq,List.mem_append] at h<;> simp only[bB]
 case build z fk=>rw[ox fk z h]
 case buildSlice sz fk=>have:fk.map (aL E.aS g)=fk.map (aL E.aS g'):=List.map_congr_left h;rw[this]
 case hB f xs=>rw[map_congr xs h]
 case call f xs=>rw[map_congr xs h]
 case gR f xs=>rw[map_congr xs h]
 case min xs=>rw[map_congr xs h]
 case max xs=>rw[map_congr xs h]
 case cV f xs=>rw[h.1,map_congr xs h.2]
 case mo f xs=>rw[h.1,map_congr xs h.2]
 case fV x eQ bk=>
  unfold ka;rw[h.1];cases aL E.aS g' x<;> try rfl
  simp only;rw[hY (o:=eQ) (fun x aT=>h.2 x (.inl aT)),hY (o:=bk) (fun x aT=>h.2 x (.inr aT))]
 case slice z x eQ bk iU=>
  unfold ko;rw[h.1];have bU:∀d,cS E.aS g eQ d=cS E.aS g' eQ d:=fun d=>hY (fun x aT=>h.2 x (.inl (.inl aT)))
  have e:∀d,cS E.aS g bk d=cS E.aS g' bk d:=fun d=>hY (fun x aT=>h.2 x (.inl (.inr aT)))
  have r:∀d,cS E.aS g iU d=cS E.aS g' iU d:=fun d=>hY (fun x aT=>h.2 x (.inr aT))
  cases aL E.aS g' x<;> try rfl
  ·simp only[bU,e];cases iU with
   |none=>rfl
   |some y=>have:=h.2 y (.inr (by simp));simp only[this]
  ·simp only[bU,e,r]
 case append q b at_ x y=>
  have bU:ik E.aS g at_=ik E.aS g' at_:=by
   cases at_ with
   |none=>rfl
   |some z=>simp only[ik,h z (.inl (by simp))]
  rw[bU,h x (.inr (.inl rfl)),h y (.inr (.inr rfl))]
 case kV q b at_ x y=>
  have bU:ik E.aS g at_=ik E.aS g' at_:=by
   cases at_ with
   |none=>rfl
   |some z=>simp only[ik,h z (.inl (by simp))]
  rw[bU,h x (.inr (.inl rfl)),h y (.inr (.inr rfl))]
 case g3 sz fk=>rw[map_congr fk h]
 case iL q b x y=>rw[h.1,h.2]
 case j8 q b at_ x y=>
  have bU:ik E.aS g at_=ik E.aS g' at_:=by
   cases at_ with
   |none=>rfl
   |some z=>simp only[ik,h z (.inl (by simp))]
  rw[bU,h x (.inr (.inl rfl)),h y (.inr (.inr rfl))]
 case jd z n x eQ bk iU=>
  unfold iO;rw[h.1];have bU:∀d,cS E.aS g eQ d=cS E.aS g' eQ d:=fun d=>hY (fun x aT=>h.2 x (.inl (.inl aT)))
  have e:∀d,cS E.aS g bk d=cS E.aS g' bk d:=fun d=>hY (fun x aT=>h.2 x (.inl (.inr aT)))
  have r:∀d,cS E.aS g iU d=cS E.aS g' iU d:=fun d=>hY (fun x aT=>h.2 x (.inr aT))
  simp only[bU,e,r]
 case jk ia f xs=>
  have bU:(ia.map fun x=>(x.1,aL E.aS g x.2))=ia.map fun x=>(x.1,aL E.aS g' x.2):=List.map_congr_left fun x aT=>by rw[h x.2 (.inl (List.mem_map.2 ⟨x,aT,rfl⟩))]
  rw[map_congr xs (fun x aT=>h x (.inr aT)),bU]
 case jI ia f xs=>
  have bU:(ia.map fun x=>(x.1,aL E.aS g x.2))=ia.map fun x=>(x.1,aL E.aS g' x.2):=List.map_congr_left fun x aT=>by rw[h.2 x.2 (.inl (List.mem_map.2 ⟨x,aT,rfl⟩))]
  rw[h.1,map_congr xs (fun x aT=>h.2 x (.inr aT)),bU]
 case makeMap at_=>
  have bU:ik E.aS g at_=ik E.aS g' at_:=by
   cases at_ with
   |none=>rfl
   |some z=>simp only[ik,h z (by simp)]
  rw[bU]
 all_goals first|rfl |simp only[h]
def hq(g:Nat→ai)(d:Option Nat)(v:ai):Nat→ai:=
 match d with
 |none=>g
 |some n=>fun m=>if m=n then v else g m
def hr(e:Option (Nat×Bool))(g:Nat→ai):Option Bool:=
 match e with
 |none=>some true
 |some (t,w)=>
  match g t with
  |.bool b=>some (b==w)
  |.cT _=>some false
  |_=>none
def lB(E:Env)(o:cN)(g:Nat→ai)(s:aq):Option (ai×aq):=
 match hr o.guard g with
 |none=>none
 |some false=>some (.cT [],s)
 |some true=>
  match bB E g s .ok .panic o.op with
  |.ok v s'=>some (v,s')
  |_=>none
def mm(E:Env):List cN→(Nat→ai)→aq→Option ((Nat→ai)×aq)
 |[],g,s=>some (g,s)
 |o::os,g,s=>(lB E o g s).bind fun p=>mm E os (hq g o.dst p.1) p.2
def bR.tmp:bR→List Nat
 |.t n=>[n]
 |.at m e _=>[m,e]
 |.C1 e _=>[e]
 |_=>[]
def cN.looks(o:cN):List Nat:=o.op.abp.flatMap bR.tmp++(o.guard.map (·.1)).toList
def bR.same:bR→bR→Bool
 |.t n,.t m=>Nat.beq n m
 |.g n,.g m=>Nat.beq n m
 |.at _ b o,.C1 e o'=>Nat.beq b e&&Nat.beq o o'
 |_,_=>false
theorem bR.jo{a b:bR}(h:a.same b=true)(G g:Nat→ai):aL G g a=.dead∨aL G g a=aL G g b:=by
 cases a<;> cases b<;> simp [bR.same] at h
 ·rw[h];exact .inr rfl
 ·rw[h];exact .inr rfl
 ·rw[h.1,h.2];rename_i t _ _ b off;rcases RL (g t) (g b) off with e|⟨_,e⟩
  ·exact .inl e
  ·exact .inr e
def Dv:Option Nat→Option Nat→Bool
 |none,none=>true
 |some a,some b=>Nat.beq a b
 |_,_=>false
theorem ZZ{a b:Option Nat}(h:Dv a b=true):a=b:=by cases a<;> cases b<;> simp [Dv] at h<;> simp [h]
def leaves(a b:gx):Bool:=
 match a with
 |.load n x=>
  match b with
  |.jk ia _ _|.jI ia _ _=>ia.any fun y=>Dv n y.1&&x.same y.2
  |.j8 ..=>true
  |_=>false
 |_=>false
def indep(a b:cN):Bool:=
 (match a.dst with
  |some d=> !b.looks.contains d
  |none=>true) &&
 (match b.dst with
  |some d=> !a.looks.contains d
  |none=>true) &&
 (match a.dst,b.dst with
  |some d,some e=> !Nat.beq d e
  |_,_=>true) &&
 (Nat.beq a.op.q3 0||Nat.beq b.op.q3 0||(Nat.beq a.op.q3 1&&Nat.beq b.op.q3 1)||leaves a.op b.op||leaves b.op a.op)
theorem Z0{G g:Nat→ai}{d:Option Nat}{v:ai}{x:bR}(h:∀n,d=some n→n ∉ x.tmp):aL G (hq g d v) x=aL G g x:=by
 cases d with
 |none=>rfl
 |some n=>
  have e:=h n rfl;cases x<;> try rfl
  ·rename_i t
   have:n≠t:=by simpa [bR.tmp] using e
   simp [aL,hq,Ne.symm this]
  ·rename_i t b off
   have:n≠t∧n≠b:=by simpa [bR.tmp,not_or] using e
   simp [aL,hq,Ne.symm this.1,Ne.symm this.2]
  ·rename_i b off
   have:n≠b:=by simpa [bR.tmp] using e
   simp [aL,hq,Ne.symm this]
theorem F8{E:Env}{o:cN}{g:Nat→ai}{d:Option Nat}{v:ai}(h:∀n,d=some n→n ∉ o.looks)(s:aq):lB E o (hq g d v) s=lB E o g s:=by
 have aD:hr o.guard (hq g d v)=hr o.guard g:=by
  unfold hr;cases bD:o.guard with
  |none=>rfl
  |some p=>
   obtain⟨t,w⟩:=p;cases d with
   |none=>rfl
   |some n=>
    have:n≠t:=fun e=>h n rfl (by rw[cN.looks,bD];simp [e])
    simp [hq,Ne.symm this]
 unfold lB;rw[aD,F7 (g':=g) (fun x aT=>Z0 (fun n bX r=>h n bX (by rw[cN.looks];exact List.mem_append_left _ (List.mem_flatMap.2 ⟨x,aT,r⟩))))]
theorem Z1{g:Nat→ai}{d e:Option Nat}{v u:ai}(h:∀n m,d=some n→e=some m→n≠m):hq (hq g d v) e u=hq (hq g e u) d v:=by
 cases d with
 |none=>rfl
 |some n=>
  cases e with
  |none=>rfl
  |some m=>
   have:=h n m rfl rfl;funext t;simp only[hq];by_cases aD:t=m
   ·by_cases aG:t=n
    ·exact absurd (aG.symm.trans aD) this
    ·simp [aD,Ne.symm this]
   ·simp [aD]
section
variable{E:Env}(bo:E.F=.not)
include bo
theorem Cn{o:cN}(a9:o.op.q3=0){g:Nat→ai}{s s':aq}{v:ai}(h:lB E o g s=some (v,s')):s'=s∧∀e:aq,e.aa=s.aa→lB E o g e=some (v,e):=by
 unfold lB at h ⊢;cases hw:hr o.guard g with
 |none=>rw[hw] at h;cases h
 |some b=>
  rw[hw] at h;cases b with
  |false=>simp only[bV,e8] at h;exact⟨h.2.symm,fun e _=>by rw[←h.1]⟩
  |true=>
   simp only at h;obtain⟨x,aT⟩:=yF bo g a9 s.aa;rw[aT s _ _ rfl] at h;cases x with
   |none=>simp [gj] at h
   |some y=>simp only[gj,bV,e8] at h;refine⟨h.2.symm,fun e bI=>?_⟩;simp only;rw[aT e _ _ bI];simp [gj,h.1]
theorem o4{o:cN}(a9:o.op.q3=1){g:Nat→ai}{s s':aq}{v:ai}(h:lB E o g s=some (v,s')):s'=s:=by
 unfold lB at h;cases hw:hr o.guard g with
 |none=>rw[hw] at h;cases h
 |some b=>
  rw[hw] at h;cases b with
  |false=>simp only[bV,e8] at h;exact h.2.symm
  |true=>
   simp only at h;split at h
   ·rename_i fX r e;simp only[bV,e8] at h;rw[←h.2];exact vN bo g a9 e
   ·cases h
theorem yG{o:cN}{g:Nat→ai}{s s':aq}{v:ai}(h:lB E o g s=some (v,s')):s'.aa=s.aa:=by
 unfold lB at h;cases hw:hr o.guard g with
 |none=>rw[hw] at h;cases h
 |some b=>
  rw[hw] at h;cases b with
  |false=>simp only[bV,e8] at h;rw[h.2]
  |true=>
   simp only at h;split at h
   ·rename_i fX r e;simp only[bV,e8] at h;rw[←h.2];exact F6 bo g e
   ·cases h
theorem o5{n:Option Nat}{cs e:List ai}{s s':aq}{u:ai}{t:aq}(h:cs.take (n.getD 1)=e.take (n.getD 1))(br:fc E s .ok n cs=.ok u t):fc E s' .ok n e=.ok u s':=by
 cases n with
 |none=>
  simp only[Option.getD_none] at h;cases cs with
  |nil=>simp [fc] at br
  |cons c cs=>
   cases e with
   |nil=>simp at h
   |cons og e=>simp only[hI,hn,List.cons.injEq,and_true] at h;subst h;simp only[fc,bo,bb.not,ao.ok.injEq] at br ⊢;exact⟨br.1,trivial⟩
 |some n=>
  simp only[Option.getD_some] at h;simp only[fc,bo,bb.not] at br ⊢;cases r:Nat.ble n cs.length with
  |false=>rw[r] at br;cases br
  |true=>
   rw[r,cb] at br;simp only[ao.ok.injEq] at br;have aD:=dW r;have aG:n≤e.length:=by have:=congrArg List.length h;simp only[List.length_take] at this;omega
   rw[show Nat.ble n e.length=true from dN aG,cb,←h,br.1]
theorem rk{n:Option Nat}{v:ai}{s s':aq}{l:List ai}{u:ai}{t:aq}(aD:dH s n v=some l)(aG:dH s' n v=some l)(br:fq E s .ok n v=.ok u t):fq E s' .ok n v=.ok u s':=by
 unfold dH at aD aG;cases v<;> simp only[cellsOf] at aD aG<;> try cases aD
 case bM cs=>exact o5 bo rfl br
 case ref a off=>
  simp only[fq] at br ⊢;cases bD:s.get a with
  |none=>rw[bD] at aD;cases aD
  |some o=>
   rw[bD] at aD br;cases o<;> try cases aD
   rename_i cs;cases e:s'.get a with
   |none=>rw[e] at aG;cases aG
   |some o'=>
    rw[e] at aG;cases o'<;> try cases aG
    rename_i h;simp only[eU,bV] at aG;exact o5 bo aG.symm br
theorem yH{s:aq}{n:Option Nat}{v:ai}{k:ai→aq→ao}:fq E s k n v=match cellsOf s v with |some cs=>fc E s k n cs|none=>.fail:=by cases v<;> simp only[fq,cellsOf];split<;> rfl
theorem so{s s':aq}{n:Option Nat}{v u:ai}{t:aq}(h:cellsOf s v=cellsOf s' v)(br:fq E s .ok n v=.ok u t):fq E s' .ok n v=.ok u s':=by
 rw[yH bo,h] at br;rw[yH bo];cases a9:cellsOf s' v with
 |none=>rw[a9] at br;cases br
 |some cs=>rw[a9] at br;exact o5 bo rfl br
theorem sp{s s':aq}(h:∀d i,s'.get (.g d i)=s.get (.g d i)∨((∀cs,s.get (.g d i)≠some (.cells cs))∧∀cs,s'.get (.g d i)≠some (.cells cs)))(bI:s'.aa=s.aa)(v:ai):cellsOf s v=cellsOf s' v:=by
 cases v<;> simp only[cellsOf];rename_i a off;have bU:=aq.hU s a;have r:=aq.hU s' a;rw[bI] at r;cases aU:a.ak s.aa with
 |l i=>cases a<;> simp [Loc.ak] at aU
 |g d i=>
  rw[aU] at bU r;rw[←bU,←r];rcases h d i with e|⟨h5,hW⟩
  ·rw[e]
  ·cases aD:s.get (.g d i) with
   |none=>
    cases aG:s'.get (.g d i) with
    |none=>rfl
    |some o=>
     cases o<;> try rfl
     exact absurd aG (hW _)
   |some o=>
    cases o
    ·exact absurd aD (h5 _)
    all_goals
     cases aG:s'.get (.g d i) with
     |none=>rfl
     |some o=>
      cases o<;> try rfl
      exact absurd aG (hW _)
theorem yI{q b:Nat}{l:Loc}{sz:Nat}{es:List ai}{g:cd}{y:ai}{s s':aq}{v:ai}(h:fl E s .ok q b l (.aW sz es g) y=.ok v s')(w:ai):cellsOf s w=cellsOf s' w:=by
 simp only[fl,bo,bb.not] at h;split at h
 ·cases h
 ·rename_i z new _;have h:=hE bo h;cases new with
  |nil=>simp only[ao.ok.injEq] at h;rw[h.2]
  |cons c cs=>
   have new:∀{o:bd} {l':Loc} {u:aq},(∀cs,o≠.cells cs)→s.gg l o=some (l',u)→cellsOf s w=cellsOf u w:=fun {o l' u} K bX=>by
    obtain⟨d,i,_,B⟩:=iG.by bX
    refine sp bo (fun ga kf=>?_) B.aa w;rw[B.get];split
    ·rename_i H;obtain⟨rfl,rfl⟩:=H;obtain⟨M,aD,aG⟩:=B.here;refine .inr ⟨fun cs a9=>?_,fun cs a9=>K cs (Option.some.inj a9)⟩;rw[aq.oW,aD] at a9;simp only[hk] at a9;rw[←aG,List.getElem?_eq_none (aX _)] at a9;cases a9
    ·exact .inl rfl
   cases g with
   |any=>cases h
   |nil=>
    simp only at h;split at h
    ·rename_i bX;simp only[ao.ok.injEq] at h;rw[←h.2];exact new (fun cs e=>by cases e) bX
    ·cases h
   |exact=>
    simp only at h;split at h
    ·rename_i bX;simp only[ao.ok.injEq] at h;rw[←h.2];exact new (fun cs e=>by cases e) bX
    ·cases h
   |bQ a=>
    simp only at h;split at h
    ·rename_i n L;have h:=hE bo h;split at h
     ·rename_i J;simp only[ao.ok.injEq] at h;rw[←h.2];have I:=J;have r:=L;rw[←aq.lY] at I;rw[←aq.hU] at r;cases aU:a.ak s.aa with
      |l i=>cases a<;> simp [Loc.ak] at aU
      |g d i=>
       rw[aU] at I r;refine sp bo (fun ga kf=>?_) (aq.kv J) w;rw[aq.yc I r];split
       ·rename_i H;obtain⟨rfl,rfl⟩:=H;refine .inr ⟨fun cs a9=>?_,fun cs a9=>by cases a9⟩;rw[r] at a9;cases a9
       ·exact .inl rfl
     ·cases h
    ·cases h
theorem BX{a b:gx}(h:leaves a b=true){g:Nat→ai}{s s':aq}{v:ai}(r:bB E g s .ok .panic b=.ok v s'):∃n x,a=.load n x∧(cellsOf s (aL E.aS g x)=cellsOf s' (aL E.aS g x)∨aL E.aS g x=.dead∨∃l,dH s n (aL E.aS g x)=some l∧dH s' n (aL E.aS g x)=some l):=by
 unfold leaves at h;split at h
 ·rename_i n x;refine⟨n,x,rfl,?_⟩;have key:∀(ia:List (Option Nat×bR)),(ia.any fun y=>Dv n y.1&&x.same y.2)=true→(∀y,y∈ia.map (fun x=>(x.1,aL E.aS g x.2))→∃l,dH s y.1 y.2=some l∧dH s' y.1 y.2=some l)→aL E.aS g x=.dead∨∃l,dH s n (aL E.aS g x)=some l∧dH s' n (aL E.aS g x)=some l:=fun ia aD aG=>by
   obtain⟨y,dX,u⟩:=List.any_eq_true.1 aD;simp only[bL] at u;rcases bR.jo u.2 E.aS g with e|e
   ·exact .inl e
   rw[ZZ u.1,e];exact .inr (aG _ (List.mem_map.2 ⟨y,dX,rfl⟩))
  split at h
  ·rename_i ia f args;simp only[bB,bo,bb.not] at r;exact .inr (key ia h (o3 bo r).2)
  ·rename_i ia f args;simp only[bB] at r;unfold kY at r;split at r
   ·simp only[bo,bb.not] at r;exact .inr (key ia h (o3 bo r).2)
   ·cases r
  ·rename_i q b at_ x y;simp only[bB] at r;unfold lq at r;split at r
   ·unfold er at r;split at r
    ·exact .inl (yI bo r _)
    ·cases r
   ·cases r
  ·cases h
 ·cases h
theorem vO{a b:cN}(h:leaves a.op b.op=true){g:Nat→ai}{s s':aq}{v:ai}(r:lB E b g s=some (v,s')){u:ai}:lB E a g s=some (u,s)↔lB E a g s'=some (u,s'):=by
 unfold lB at r;cases hw:hr b.guard g with
 |none=>rw[hw] at r;cases r
 |some w=>
  rw[hw] at r;cases w with
  |false=>simp only[bV,e8] at r;rw[r.2]
  |true=>
   simp only at r;split at r
   ·rename_i fX J B;simp only[bV,e8] at r;rw[r.2] at B;obtain⟨n,x,H,I⟩:=BX bo h B;unfold lB;cases K:hr a.guard g with
    |none=>simp
    |some w=>
     cases w with
     |false=>simp
     |true=>
      simp only[H,bB];rcases I with kR|e|⟨l,aD,aG⟩
      ·constructor
       ·intro dQ;split at dQ
        ·rename_i y;simp only[bV,e8] at dQ;rw[so bo kR y,dQ.1]
        ·cases dQ
       ·intro dQ;split at dQ
        ·rename_i y;simp only[bV,e8] at dQ;rw[so bo kR.symm y,dQ.1]
        ·cases dQ
      ·rw[e];simp [fq]
      constructor
      ·intro dQ;split at dQ
       ·rename_i y;simp only[bV,e8] at dQ;rw[rk bo aD aG y,dQ.1]
       ·cases dQ
      ·intro dQ;split at dQ
       ·rename_i y;simp only[bV,e8] at dQ;rw[rk bo aG aD y,dQ.1]
       ·cases dQ
   ·cases r
theorem vP{a b:gx}(h:leaves a b=true):a.q3=1:=by
 unfold leaves at h;split at h
 ·rfl
 ·cases h
theorem Z2{a b:cN}(bk:indep a b=true){rest:List cN}{g:Nat→ai}{s:aq}{r:(Nat→ai)×aq}(h:mm E (a::b::rest) g s=some r):mm E (b::a::rest) g s=some r:=by
 simp only[indep,bL,Bool.or_eq_true] at bk;obtain⟨⟨⟨aD,aG⟩,bz⟩,cz⟩:=bk;have d1:∀n,a.dst=some n→n ∉ b.looks:=fun n bX=>by rw[bX] at aD;simpa using aD
 have d2:∀n,b.dst=some n→n ∉ a.looks:=fun n bX=>by rw[bX] at aG;simpa using aG
 have d3:∀n m,a.dst=some n→b.dst=some m→n≠m:=fun n m bX hm e=>by rw[bX,hm,e] at bz;simp at bz
 simp only[mm] at h ⊢;cases y:lB E a g s with
 |none=>rw[y] at h;cases h
 |some p=>
  obtain⟨H,s1⟩:=p;rw[y] at h;simp only[hk] at h;cases u:lB E b (hq g a.dst H) s1 with
  |none=>rw[u] at h;cases h
  |some q=>
   obtain⟨J,s2⟩:=q;rw[u] at h;simp only[hk] at h;rw[F8 d1] at u;have key:∃S,lB E b g s=some (J,S)∧lB E a g S=some (H,s2):=by
    by_cases a9:a.op.q3=0
    ·refine⟨s2,?_⟩;obtain⟨bU,B⟩:=Cn bo a9 y;subst bU;exact⟨u,B s2 (yG bo u)⟩
    ·by_cases I:b.op.q3=0
     ·refine⟨s,?_⟩;obtain⟨bU,B⟩:=Cn bo I u;subst bU;exact⟨B s (yG bo y).symm,y⟩
     ·rcases cz with(((cz|cz)|cz)|cz)|cz
      ·exact absurd (c2 cz) a9
      ·exact absurd (c2 cz) I
      ·have bU:=o4 bo (c2 cz.1) y;subst bU;have B:=o4 bo (c2 cz.2) u;subst B;exact⟨_,u,y⟩
      ·have bU:=o4 bo (vP bo cz) y;subst bU;exact⟨s2,u,(vO bo cz u).1 y⟩
      ·have B:=o4 bo (vP bo cz) u;subst B;exact⟨s,(vO bo cz y).2 u,y⟩
   obtain⟨S,K,L⟩:=key;rw[K];simp only[hk];rw[F8 d2,L];simp only[hk];rw[←Z1 d3];exact h
theorem yJ{o:cN}:∀(pre:List cN) {post:List cN} {g:Nat→ai} {s:aq} {r:(Nat→ai)×aq},(∀a,a∈pre→indep a o=true)→mm E (pre++o::post) g s=some r→mm E (o::(pre++post)) g s=some r
 |[],_,_,_,_,_,h=>h
 |a::pre,post,g,s,r,bk,h=>by
  refine Z2 bo (bk a List.mem_cons_self) ?_;simp only[List.cons_append,mm] at h ⊢;cases e:lB E a g s with
  |none=>rw[e] at h;cases h
  |some p=>rw[e] at h;simp only[hk] at h ⊢;exact yJ pre (fun x aT=>bk x (List.mem_cons_of_mem _ aT)) h
end
end Go.Ab
