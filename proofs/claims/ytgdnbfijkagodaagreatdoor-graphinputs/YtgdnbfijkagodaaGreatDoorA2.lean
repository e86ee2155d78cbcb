/- A part of the proof: no condition. -/
import Derived.Test.YtgdnbfijkagodaaGreatDoorA1
import Derived.Test.YtgdnbfijkagodaaGreatDoorA0
import Derived.OrdersIn
import Derived.TacticsIn
import Derived.Scope
import Derived.KernelRfl
import Derived.IntWalk
set_option linter.unusedSectionVars false
set_option linter.unusedSimpArgs false
set_option linter.unusedVariables false
section
namespace Go.Ab
theorem hV{G g g':Nat→af}{o:Option bC}{d:Nat}(h:∀x,x∈o.toList→aq G g x=aq G g' x):dH G g o d=dH G g' o d:=by
 cases o with
 |none=>rfl
 |some x=>simp only[dH,h x (by simp)]
theorem nD{G g g':Nat→af}{d:Nat}:∀(ec:List (Nat×Nat×bC)) (cs:List af),(∀x,x∈ec.map (·.2.2)→aq G g x=aq G g' x)→fk G d g cs ec=fk G d g' cs ec
 |[],_,_=>rfl
 |(off,sz,x)::ec,cs,h=>by simp only[fk,h x (by simp)];congr 1;exact nD ec _ (fun y eT=>h y (by simp only[fK,List.mem_cons];exact .inr eT))
theorem map_congr{G g g':Nat→af}{f:af→af}(xs:List bC)(h:∀x,x∈xs→aq G g x=aq G g' x):xs.map (fun x=>f (aq G g x))=xs.map fun x=>f (aq G g' x):=List.map_congr_left fun x a8=>by rw[h x a8]
theorem Ac{E:Env}{g g':Nat→af}{op:gg}(h:∀x,x∈op.Ki→aq E.aw g x=aq E.aw g' x)(s:ag)(k kp:af→ag→ah):aJ E g s k kp op=aJ E g' s k kp op:=by
 cases op<;> simp only[gg.Ki,List.mem_cons,mi,or_false,forall_eq_or_imp,forall_eq,List.mem_append] at h<;> simp only[aJ]
 case build z ec=>rw[nD ec z h]
 case buildSlice sz ec=>have:ec.map (aq E.aw g)=ec.map (aq E.aw g'):=List.map_congr_left h;rw[this]
 case ko f xs=>rw[map_congr xs h]
 case call f xs=>rw[map_congr xs h]
 case hA f xs=>rw[map_congr xs h]
 case min xs=>rw[map_congr xs h]
 case max xs=>rw[map_congr xs h]
 case eA f xs=>rw[h.1,map_congr xs h.2]
 case lM f xs=>rw[h.1,map_congr xs h.2]
 case kq x gn bX=>
  unfold jN;rw[h.1];cases aq E.aw g' x<;> try rfl
  simp only;rw[hV (o:=gn) (fun x a8=>h.2 x (.inl a8)),hV (o:=bX) (fun x a8=>h.2 x (.inr a8))]
 case slice z x gn bX iJ=>
  unfold jZ;rw[h.1];have dU:∀d,dH E.aw g gn d=dH E.aw g' gn d:=fun d=>hV (fun x a8=>h.2 x (.inl (.inl a8)))
  have e:∀d,dH E.aw g bX d=dH E.aw g' bX d:=fun d=>hV (fun x a8=>h.2 x (.inl (.inr a8)))
  have r:∀d,dH E.aw g iJ d=dH E.aw g' iJ d:=fun d=>hV (fun x a8=>h.2 x (.inr a8))
  cases aq E.aw g' x<;> try rfl
  ·simp only[dU,e];cases iJ with
   |none=>rfl
   |some y=>have:=h.2 y (.inr (by simp));simp only[this]
  ·simp only[dU,e,r]
 case append q b at_ x y=>
  have dU:h6 E.aw g at_=h6 E.aw g' at_:=by
   cases at_ with
   |none=>rfl
   |some z=>simp only[h6,h z (.inl (by simp))]
  rw[dU,h x (.inr (.inl rfl)),h y (.inr (.inr rfl))]
 case jK q b at_ x y=>
  have dU:h6 E.aw g at_=h6 E.aw g' at_:=by
   cases at_ with
   |none=>rfl
   |some z=>simp only[h6,h z (.inl (by simp))]
  rw[dU,h x (.inr (.inl rfl)),h y (.inr (.inr rfl))]
 case gB sz ec=>rw[map_congr ec h]
 case gC sz ec=>rw[map_congr ec h]
 case jL q b x y=>rw[h.1,h.2]
 case jJ q b at_ x y=>
  have dU:h6 E.aw g at_=h6 E.aw g' at_:=by
   cases at_ with
   |none=>rfl
   |some z=>simp only[h6,h z (.inl (by simp))]
  rw[dU,h x (.inr (.inl rfl)),h y (.inr (.inr rfl))]
 case iS z n x gn bX iJ=>
  unfold iD;rw[h.1];have dU:∀d,dH E.aw g gn d=dH E.aw g' gn d:=fun d=>hV (fun x a8=>h.2 x (.inl (.inl a8)))
  have e:∀d,dH E.aw g bX d=dH E.aw g' bX d:=fun d=>hV (fun x a8=>h.2 x (.inl (.inr a8)))
  have r:∀d,dH E.aw g iJ d=dH E.aw g' iJ d:=fun d=>hV (fun x a8=>h.2 x (.inr a8))
  simp only[dU,e,r]
 case lA iq f xs=>
  have dU:(iq.map fun x=>(x.1,aq E.aw g x.2))=iq.map fun x=>(x.1,aq E.aw g' x.2):=List.map_congr_left fun x a8=>by rw[h x.2 (.inl (List.mem_map.2 ⟨x,a8,rfl⟩))]
  rw[map_congr xs (fun x a8=>h x (.inr a8)),dU]
 case jY iq f xs=>
  have dU:(iq.map fun x=>(x.1,aq E.aw g x.2))=iq.map fun x=>(x.1,aq E.aw g' x.2):=List.map_congr_left fun x a8=>by rw[h.2 x.2 (.inl (List.mem_map.2 ⟨x,a8,rfl⟩))]
  rw[h.1,map_congr xs (fun x a8=>h.2 x (.inr a8)),dU]
 case makeMap at_=>
  have dU:h6 E.aw g at_=h6 E.aw g' at_:=by
   cases at_ with
   |none=>rfl
   |some z=>simp only[h6,h z (by simp)]
  rw[dU]
 all_goals first|rfl |simp only[h]
def cN(g:Nat→af)(d:Option Nat)(v:af):Nat→af:=
 match d with
 |none=>g
 |some n=>fun m=>if m=n then v else g m
def f3(abh:Option (Nat×Bool))(g:Nat→af):Option Bool:=
 match abh with
 |none=>some true
 |some (t,w)=>
  match g t with
  |.bool b=>some (b==w)
  |.ea _=>some false
  |_=>none
def jv(E:Env)(o:cT)(g:Nat→af)(s:ag):Option (af×ag):=
 match f3 o.guard g with
 |none=>none
 |some false=>some (.ea [],s)
 |some true=>
  match aJ E g s .ok .panic o.op with
  |.ok v s'=>some (v,s')
  |_=>none
def g2(E:Env):List cT→(Nat→af)→ag→Option ((Nat→af)×ag)
 |[],g,s=>some (g,s)
 |o::os,g,s=>(jv E o g s).bind fun p=>g2 E os (cN g o.dst p.1) p.2
def bC.tmp:bC→List Nat
 |.t n=>[n]
 |.at m e _=>[m,e]
 |.Py e _=>[e]
 |_=>[]
def cT.looks(o:cT):List Nat:=o.op.Ki.flatMap bC.tmp++(o.guard.map (·.1)).toList
def bC.same:bC→bC→Bool
 |.t n,.t m=>Nat.beq n m
 |.g n,.g m=>Nat.beq n m
 |.at _ b o,.Py e o'=>Nat.beq b e&&Nat.beq o o'
 |_,_=>false
theorem bC.iE{a b:bC}(h:a.same b=true)(G g:Nat→af):aq G g a=.dead∨aq G g a=aq G g b:=by
 cases a<;> cases b<;> simp [bC.same] at h
 ·rw[h];exact .inr rfl
 ·rw[h];exact .inr rfl
 ·rw[h.1,h.2];rename_i t _ _ b off;rcases FB (g t) (g b) off with e|⟨_,e⟩
  ·exact .inl e
  ·exact .inr e
def uY:Option Nat→Option Nat→Bool
 |none,none=>true
 |some a,some b=>Nat.beq a b
 |_,_=>false
theorem xA{a b:Option Nat}(h:uY a b=true):a=b:=by cases a<;> cases b<;> simp [uY] at h<;> simp [h]
def leaves(a b:gg):Bool:=
 match a with
 |.load n x=>
  match b with
  |.lA iq _ _|.jY iq _ _=>iq.any fun y=>uY n y.1&&x.same y.2
  |.jJ ..=>true
  |.la m y _ _ _=>uY n m&&x.same y
  |_=>false
 |_=>false
def indep(a b:cT):Bool:=
 (match a.dst with
  |some d=> !b.looks.contains d
  |none=>true) &&
 (match b.dst with
  |some d=> !a.looks.contains d
  |none=>true) &&
 (match a.dst,b.dst with
  |some d,some e=> !Nat.beq d e
  |_,_=>true) &&
 (Nat.beq a.op.pG 0||Nat.beq b.op.pG 0||(Nat.beq a.op.pG 1&&Nat.beq b.op.pG 1)||leaves a.op b.op||leaves b.op a.op)
theorem IS{G g:Nat→af}{d:Option Nat}{v:af}{x:bC}(h:∀n,d=some n→n ∉ x.tmp):aq G (cN g d v) x=aq G g x:=by
 cases d with
 |none=>rfl
 |some n=>
  have e:=h n rfl;cases x<;> try rfl
  ·rename_i t
   have:n≠t:=by simpa [bC.tmp] using e
   simp [aq,cN,Ne.symm this]
  ·rename_i t b off
   have:n≠t∧n≠b:=by simpa [bC.tmp,not_or] using e
   simp [aq,cN,Ne.symm this.1,Ne.symm this.2]
  ·rename_i b off
   have:n≠b:=by simpa [bC.tmp] using e
   simp [aq,cN,Ne.symm this]
theorem Ad{E:Env}{o:cT}{g:Nat→af}{d:Option Nat}{v:af}(h:∀n,d=some n→n ∉ o.looks)(s:ag):jv E o (cN g d v) s=jv E o g s:=by
 have au:f3 o.guard (cN g d v)=f3 o.guard g:=by
  unfold f3;cases cC:o.guard with
  |none=>rfl
  |some p=>
   obtain⟨t,w⟩:=p;cases d with
   |none=>rfl
   |some n=>
    have:n≠t:=fun e=>h n rfl (by rw[cT.looks,cC];simp [e])
    simp [cN,Ne.symm this]
 unfold jv;rw[au,Ac (g':=g) (fun x a8=>IS (fun n dp q=>h n dp (by rw[cT.looks];exact List.mem_append_left _ (List.mem_flatMap.2 ⟨x,a8,q⟩))))]
theorem IT{g:Nat→af}{d e:Option Nat}{v u:af}(h:∀n m,d=some n→e=some m→n≠m):cN (cN g d v) e u=cN (cN g e u) d v:=by
 cases d with
 |none=>rfl
 |some n=>
  cases e with
  |none=>rfl
  |some m=>
   have:=h n m rfl rfl;funext t;simp only[cN];by_cases au:t=m
   ·by_cases az:t=n
    ·exact absurd (az.symm.trans au) this
    ·simp [au,Ne.symm this]
   ·simp [au]
section
variable{E:Env}(bq:E.F=.not)
include bq
theorem xB{o:cT}(a3:o.op.pG=0){g:Nat→af}{s s':ag}{v:af}(h:jv E o g s=some (v,s')):s'=s∧∀e:ag,e.aa=s.aa→jv E o g e=some (v,e):=by
 unfold jv at h ⊢;cases hw:f3 o.guard g with
 |none=>rw[hw] at h;cases h
 |some b=>
  rw[hw] at h;cases b with
  |false=>simp only[bj,e0] at h;exact⟨h.2.symm,fun e _=>by rw[←h.1]⟩
  |true=>
   simp only at h;obtain⟨x,a8⟩:=uX bq g a3 s.aa;rw[a8 s _ _ rfl] at h;cases x with
   |none=>simp [gi] at h
   |some y=>simp only[gi,bj,e0] at h;refine⟨h.2.symm,fun e cS=>?_⟩;simp only;rw[a8 e _ _ cS];simp [gi,h.1]
theorem n5{o:cT}(a3:o.op.pG=1){g:Nat→af}{s s':ag}{v:af}(h:jv E o g s=some (v,s')):s'=s:=by
 unfold jv at h;cases hw:f3 o.guard g with
 |none=>rw[hw] at h;cases h
 |some b=>
  rw[hw] at h;cases b with
  |false=>simp only[bj,e0] at h;exact h.2.symm
  |true=>
   simp only at h;split at h
   ·rename_i fG q e;simp only[bj,e0] at h;rw[←h.2];exact sW bq g a3 e
   ·cases h
theorem uZ{o:cT}{g:Nat→af}{s s':ag}{v:af}(h:jv E o g s=some (v,s')):s'.aa=s.aa:=by
 unfold jv at h;cases hw:f3 o.guard g with
 |none=>rw[hw] at h;cases h
 |some b=>
  rw[hw] at h;cases b with
  |false=>simp only[bj,e0] at h;rw[h.2]
  |true=>
   simp only at h;split at h
   ·rename_i fG q e;simp only[bj,e0] at h;rw[←h.2];exact Aa bq g e
   ·cases h
theorem n6{n:Option Nat}{cs e:List af}{s s':ag}{u:af}{t:ag}(h:cs.take (n.getD 1)=e.take (n.getD 1))(bK:eV E s .ok n cs=.ok u t):eV E s' .ok n e=.ok u s':=by
 cases n with
 |none=>
  simp only[Option.getD_none] at h;cases cs with
  |nil=>simp [eV] at bK
  |cons c cs=>
   cases e with
   |nil=>simp at h
   |cons nS e=>simp only[cV,cX,List.cons.injEq,and_true] at h;subst h;simp only[eV,bq,aW.not,ah.ok.injEq] at bK ⊢;exact⟨bK.1,trivial⟩
 |some n=>
  simp only[Option.getD_some] at h;simp only[eV,bq,aW.not] at bK ⊢;cases q:Nat.ble n cs.length with
  |false=>rw[q] at bK;cases bK
  |true=>
   rw[q,b2] at bK;simp only[ah.ok.injEq] at bK;have au:=d0 q;have az:n≤e.length:=by have:=congrArg List.length h;simp only[List.length_take] at this;omega
   rw[show Nat.ble n e.length=true from eQ az,b2,←h,bK.1]
theorem pX{n:Option Nat}{v:af}{s s':ag}{l:List af}{u:af}{t:ag}(au:e3 s n v=some l)(az:e3 s' n v=some l)(bK:d8 E s .ok n v=.ok u t):d8 E s' .ok n v=.ok u s':=by
 unfold e3 at au az;cases v<;> simp only[cellsOf] at au az<;> try cases au
 case bI cs=>exact n6 bq rfl bK
 case ref a off=>
  simp only[d8] at bK ⊢;cases cC:s.get a with
  |none=>rw[cC] at au;cases au
  |some o=>
   rw[cC] at au bK;cases o<;> try cases au
   rename_i cs;cases e:s'.get a with
   |none=>rw[e] at az;cases az
   |some o'=>
    rw[e] at az;cases o'<;> try cases az
    rename_i h;simp only[ew,bj] at az;exact n6 bq az.symm bK
theorem u0{s:ag}{n:Option Nat}{v:af}{k:af→ag→ah}:d8 E s k n v=match cellsOf s v with |some cs=>eV E s k n cs|none=>.fail:=by cases v<;> simp only[d8,cellsOf];split<;> rfl
theorem q9{s s':ag}{n:Option Nat}{v u:af}{t:ag}(h:cellsOf s v=cellsOf s' v)(bK:d8 E s .ok n v=.ok u t):d8 E s' .ok n v=.ok u s':=by
 rw[u0 bq,h] at bK;rw[u0 bq];cases a3:cellsOf s' v with
 |none=>rw[a3] at bK;cases bK
 |some cs=>rw[a3] at bK;exact n6 bq rfl bK
theorem ra{s s':ag}(h:∀d i,s'.get (.g d i)=s.get (.g d i)∨((∀cs,s.get (.g d i)≠some (.cells cs))∧∀cs,s'.get (.g d i)≠some (.cells cs)))(cS:s'.aa=s.aa)(v:af):cellsOf s v=cellsOf s' v:=by
 cases v<;> simp only[cellsOf];rename_i a off;have dU:=ag.hT s a;have q:=ag.hT s' a;rw[cS] at q;cases fC:a.ap s.aa with
 |l i=>cases a<;> simp [Loc.ap] at fC
 |g d i=>
  rw[fC] at dU q;rw[←dU,←q];rcases h d i with e|⟨jA,r⟩
  ·rw[e]
  ·cases au:s.get (.g d i) with
   |none=>
    cases az:s'.get (.g d i) with
    |none=>rfl
    |some o=>
     cases o<;> try rfl
     exact absurd az (r _)
   |some o=>
    cases o
    ·exact absurd au (jA _)
    all_goals
     cases az:s'.get (.g d i) with
     |none=>rfl
     |some o=>
      cases o<;> try rfl
      exact absurd az (r _)
theorem u1{q b:Nat}{l:Loc}{sz:Nat}{es:List af}{g:fi}{y:af}{s s':ag}{v:af}(h:h7 E s .ok q b l (.bG sz es g) y=.ok v s')(w:af):cellsOf s w=cellsOf s' w:=by
 simp only[h7,bq,aW.not] at h;split at h
 ·cases h
 ·rename_i z new _;have h:=g1 bq h;cases new with
  |nil=>simp only[ah.ok.injEq] at h;rw[h.2]
  |cons c cs=>
   have new:∀{o:du} {l':Loc} {u:ag},(∀cs,o≠.cells cs)→s.hi l o=some (l',u)→cellsOf s w=cellsOf u w:=fun {o l' u} I dp=>by
    obtain⟨d,i,_,A⟩:=iv.by dp
    refine ra bq (fun fL hI=>?_) A.aa w;rw[A.get];split
    ·rename_i B;obtain⟨rfl,rfl⟩:=B;obtain⟨K,au,az⟩:=A.here;refine .inr ⟨fun cs a3=>?_,fun cs a3=>I cs (Option.some.inj a3)⟩;rw[ag.ms,au] at a3;simp only[f6] at a3;rw[←az,List.getElem?_eq_none (aC _)] at a3;cases a3
    ·exact .inl rfl
   cases g with
   |any=>cases h
   |nil=>
    simp only at h;split at h
    ·rename_i dp;simp only[ah.ok.injEq] at h;rw[←h.2];exact new (fun cs e=>by cases e) dp
    ·cases h
   |exact=>
    simp only at h;split at h
    ·rename_i dp;simp only[ah.ok.injEq] at h;rw[←h.2];exact new (fun cs e=>by cases e) dp
    ·cases h
   |dB a=>
    simp only at h;split at h
    ·rename_i n J;have h:=g1 bq h;split at h
     ·rename_i H;simp only[ah.ok.injEq] at h;rw[←h.2];have F:=H;have r:=J;rw[←ag.ln] at F;rw[←ag.hT] at r;cases fC:a.ap s.aa with
      |l i=>cases a<;> simp [Loc.ap] at fC
      |g d i=>
       rw[fC] at F r;refine ra bq (fun fL hI=>?_) (ag.j6 H) w;rw[ag.us F r];split
       ·rename_i B;obtain⟨rfl,rfl⟩:=B;refine .inr ⟨fun cs a3=>?_,fun cs a3=>by cases a3⟩;rw[r] at a3;cases a3
       ·exact .inl rfl
     ·cases h
    ·cases h
theorem xi{a b:gg}(h:leaves a b=true){g:Nat→af}{s s':ag}{v:af}(r:aJ E g s .ok .panic b=.ok v s'):∃n x,a=.load n x∧(cellsOf s (aq E.aw g x)=cellsOf s' (aq E.aw g x)∨aq E.aw g x=.dead∨∃l,e3 s n (aq E.aw g x)=some l∧e3 s' n (aq E.aw g x)=some l):=by
 unfold leaves at h;split at h
 ·rename_i n x;refine⟨n,x,rfl,?_⟩;have key:∀(iq:List (Option Nat×bC)),(iq.any fun y=>uY n y.1&&x.same y.2)=true→(∀y,y∈iq.map (fun x=>(x.1,aq E.aw g x.2))→∃l,e3 s y.1 y.2=some l∧e3 s' y.1 y.2=some l)→aq E.aw g x=.dead∨∃l,e3 s n (aq E.aw g x)=some l∧e3 s' n (aq E.aw g x)=some l:=fun iq au az=>by
   obtain⟨y,eT,A⟩:=List.any_eq_true.1 au;simp only[bn] at A;rcases bC.iE A.2 E.aw g with e|e
   ·exact .inl e
   rw[xA A.1,e];exact .inr (az _ (List.mem_map.2 ⟨y,eT,rfl⟩))
  split at h
  ·rename_i iq f args;simp only[aJ,bq,aW.not] at r;exact .inr (key iq h (n4 bq r).2)
  ·rename_i iq f args;simp only[aJ] at r;unfold ks at r;split at r
   ·simp only[bq,aW.not] at r;exact .inr (key iq h (n4 bq r).2)
   ·cases r
  ·rename_i q b at_ x y;simp only[aJ] at r;unfold kR at r;split at r
   ·unfold gX at r;split at r
    ·exact .inl (u1 bq r _)
    ·cases r
   ·cases r
  ·rename_i m y q a u;simp only[bn] at h;rcases bC.iE h.2 E.aw g with e|e
   ·exact .inr (.inl e)
   ·rw[xA h.1,e];exact .inr (.inr (sX bq r).2)
  ·cases h
 ·cases h
theorem sY{a b:cT}(h:leaves a.op b.op=true){g:Nat→af}{s s':ag}{v:af}(q:jv E b g s=some (v,s')){u:af}:jv E a g s=some (u,s)↔jv E a g s'=some (u,s'):=by
 unfold jv at q;cases hw:f3 b.guard g with
 |none=>rw[hw] at q;cases q
 |some w=>
  rw[hw] at q;cases w with
  |false=>simp only[bj,e0] at q;rw[q.2]
  |true=>
   simp only at q;split at q
   ·rename_i fG F y;simp only[bj,e0] at q;rw[q.2] at y;obtain⟨n,x,A,B⟩:=xi bq h y;unfold jv;cases H:f3 a.guard g with
    |none=>simp
    |some w=>
     cases w with
     |false=>simp
     |true=>
      simp only[A,aJ];rcases B with oG|e|⟨l,au,az⟩
      ·constructor
       ·intro gh;split at gh
        ·rename_i r;simp only[bj,e0] at gh;rw[q9 bq oG r,gh.1]
        ·cases gh
       ·intro gh;split at gh
        ·rename_i r;simp only[bj,e0] at gh;rw[q9 bq oG.symm r,gh.1]
        ·cases gh
      ·rw[e];simp [d8]
      constructor
      ·intro gh;split at gh
       ·rename_i r;simp only[bj,e0] at gh;rw[pX bq au az r,gh.1]
       ·cases gh
      ·intro gh;split at gh
       ·rename_i r;simp only[bj,e0] at gh;rw[pX bq az au r,gh.1]
       ·cases gh
   ·cases q
theorem sZ{a b:gg}(h:leaves a b=true):a.pG=1:=by
 unfold leaves at h;split at h
 ·rfl
 ·cases h
theorem IU{a b:cT}(bX:indep a b=true){rest:List cT}{g:Nat→af}{s:ag}{r:(Nat→af)×ag}(h:g2 E (a::b::rest) g s=some r):g2 E (b::a::rest) g s=some r:=by
 simp only[indep,bn,Bool.or_eq_true] at bX;obtain⟨⟨⟨au,az⟩,b3⟩,dJ⟩:=bX;have d1:∀n,a.dst=some n→n ∉ b.looks:=fun n dp=>by rw[dp] at au;simpa using au
 have d2:∀n,b.dst=some n→n ∉ a.looks:=fun n dp=>by rw[dp] at az;simpa using az
 have d3:∀n m,a.dst=some n→b.dst=some m→n≠m:=fun n m dp hm e=>by rw[dp,hm,e] at b3;simp at b3
 simp only[g2] at h ⊢;cases y:jv E a g s with
 |none=>rw[y] at h;cases h
 |some p=>
  obtain⟨B,s1⟩:=p;rw[y] at h;simp only[f6] at h;cases u:jv E b (cN g a.dst B) s1 with
  |none=>rw[u] at h;cases h
  |some q=>
   obtain⟨H,s2⟩:=q;rw[u] at h;simp only[f6] at h;rw[Ad d1] at u;have key:∃S,jv E b g s=some (H,S)∧jv E a g S=some (B,s2):=by
    by_cases a3:a.op.pG=0
    ·refine⟨s2,?_⟩;obtain⟨dU,A⟩:=xB bq a3 y;subst dU;exact⟨u,A s2 (uZ bq u)⟩
    ·by_cases F:b.op.pG=0
     ·refine⟨s,?_⟩;obtain⟨dU,A⟩:=xB bq F u;subst dU;exact⟨A s (uZ bq y).symm,y⟩
     ·rcases dJ with(((dJ|dJ)|dJ)|dJ)|dJ
      ·exact absurd (dk dJ) a3
      ·exact absurd (dk dJ) F
      ·have dU:=n5 bq (dk dJ.1) y;subst dU;have A:=n5 bq (dk dJ.2) u;subst A;exact⟨_,u,y⟩
      ·have dU:=n5 bq (sZ bq dJ) y;subst dU;exact⟨s2,u,(sY bq dJ u).1 y⟩
      ·have A:=n5 bq (sZ bq dJ) u;subst A;exact⟨s,(sY bq dJ y).2 u,y⟩
   obtain⟨S,I,J⟩:=key;rw[I];simp only[f6];rw[Ad d2,J];simp only[f6];rw[←IT d3];exact h
theorem u2{o:cT}:∀(pre:List cT) {post:List cT} {g:Nat→af} {s:ag} {r:(Nat→af)×ag},(∀a,a∈pre→indep a o=true)→g2 E (pre++o::post) g s=some r→g2 E (o::(pre++post)) g s=some r
 |[],_,_,_,_,_,h=>h
 |a::pre,post,g,s,r,bX,h=>by
  refine IU bq (bX a List.mem_cons_self) ?_;simp only[List.cons_append,g2] at h ⊢;cases e:jv E a g s with
  |none=>rw[e] at h;cases h
  |some p=>rw[e] at h;simp only[f6] at h ⊢;exact u2 pre (fun x a8=>bX x (List.mem_cons_of_mem _ a8)) h
end
theorem kh:∀(d n:Nat) (v:af) (k:eL→ah) (ao:eL) (r:ah),eL.iX d n v k ao=r→r≠.fail→∃ep,k ep=r∧∀m,ep.get m=if m=n then v else ao.get m
 |0,n,v,k,ao,r,h,bB=>absurd h.symm bB
 |d+1,n,v,k,ao,r,h,bB=>by
  have H:∀m,Nat.beq (m%2) 1=true→∃q,m=2*q+1:=fun m h=>⟨m/2,by have:=dk h;omega⟩
  have even:∀m,Nat.beq (m%2) 1=false→Nat.beq m 0=false→∃q,m=2*q+2:=fun m h I=>⟨(m-2)/2,by
   have au:m%2≠1:=fun e=>by rw[e] at h;simp at h
   have az:m≠0:=fun e=>by rw[e] at I;simp at I
   omega⟩
  have u:∀(l:eL) (x:af) (r:eL) (q:Nat),(eL.n l x r).get (2*q+1)=l.get q:=fun l x r q=>by
   have au:Nat.beq (2*q+1) 0=false:=by rfl
   have az:Nat.beq ((2*q+1)%2) 1=true:=by rw[show(2*q+1)%2=1 by omega];rfl
   simp only[eL.get,au,az,cond_false,b2];congr 1;omega
  have y:∀(l:eL) (x:af) (r:eL) (q:Nat),(eL.n l x r).get (2*q+2)=r.get q:=fun l x r q=>by
   have au:Nat.beq (2*q+2) 0=false:=by rfl
   have az:Nat.beq ((2*q+2)%2) 1=false:=by rw[show(2*q+2)%2=0 by omega];rfl
   simp only[eL.get,au,az,cond_false];congr 1;omega
  have B:∀(l:eL) (x:af) (r:eL),(eL.n l x r).get 0=x:=fun l x r=>rfl
  have F:∀m,m=0∨(∃q,m=2*q+1)∨∃q,m=2*q+2:=fun m=>by
   by_cases eZ:m=0
   ·exact .inl eZ
   ·by_cases au:m%2=1
    ·exact .inr (.inl ⟨m/2,by omega⟩)
    ·exact .inr (.inr ⟨(m-2)/2,by omega⟩)
  cases ao with
  |e=>
   simp only[eL.iX] at h;cases eZ:Nat.beq n 0 with
   |true=>
    rw[eZ,b2] at h
    have:=dk eZ;subst this;refine⟨_,h,fun m=>?_⟩;rcases F m with rfl |⟨q,rfl⟩|⟨q,rfl⟩
    ·simp [B]
    ·rw[u];simp [eL.get]
    ·rw[y];simp [eL.get]
   |false=>
    rw[eZ,cond_false] at h;cases au:Nat.beq (n%2) 1 with
    |true=>
     rw[au,b2] at h;obtain⟨p,rfl⟩:=H n au;obtain⟨l',e,bK⟩:=kh d _ v _ _ r h bB;refine⟨_,e,fun m=>?_⟩;rcases F m with rfl |⟨q,rfl⟩|⟨q,rfl⟩
     ·simp [B,eL.get]
     ·rw[u,bK q];have dU:(2*p+1-1)/2=p:=by omega
      have A:2*q+1=2*p+1↔q=p:=by omega
      simp only[dU,A];simp [eL.get]
     ·rw[y,if_neg (by omega)];simp [eL.get]
    |false=>
     rw[au,cond_false] at h;obtain⟨p,rfl⟩:=even n au eZ;obtain⟨l',e,bK⟩:=kh d _ v _ _ r h bB;refine⟨_,e,fun m=>?_⟩;rcases F m with rfl |⟨q,rfl⟩|⟨q,rfl⟩
     ·simp [B,eL.get]
     ·rw[u,if_neg (by omega)];simp [eL.get]
     ·rw[y,bK q];have dU:(2*p+2-1)/2=p:=by omega
      have A:2*q+2=2*p+2↔q=p:=by omega
      simp only[dU,A];simp [eL.get]
  |n l x J=>
   simp only[eL.iX] at h;cases eZ:Nat.beq n 0 with
   |true=>
    rw[eZ,b2] at h
    have:=dk eZ;subst this;refine⟨_,h,fun m=>?_⟩;rcases F m with rfl |⟨q,rfl⟩|⟨q,rfl⟩
    ·simp [B]
    ·rw[u,u];simp
    ·rw[y,y];simp
   |false=>
    rw[eZ,cond_false] at h;cases au:Nat.beq (n%2) 1 with
    |true=>
     rw[au,b2] at h;obtain⟨p,rfl⟩:=H n au;obtain⟨l',e,bK⟩:=kh d _ v _ _ r h bB;refine⟨_,e,fun m=>?_⟩;rcases F m with rfl |⟨q,rfl⟩|⟨q,rfl⟩
     ·simp [B]
     ·rw[u,u,bK q];have dU:(2*p+1-1)/2=p:=by omega
      have A:2*q+1=2*p+1↔q=p:=by omega
      simp only[dU,A]
     ·rw[y,y,if_neg (by omega)]
    |false=>
     rw[au,cond_false] at h;obtain⟨p,rfl⟩:=even n au eZ;obtain⟨l',e,bK⟩:=kh d _ v _ _ r h bB;refine⟨_,e,fun m=>?_⟩;rcases F m with rfl |⟨q,rfl⟩|⟨q,rfl⟩
     ·simp [B]
     ·rw[u,u,if_neg (by omega)]
     ·rw[y,y,bK q];have dU:(2*p+2-1)/2=p:=by omega
      have A:2*q+2=2*p+2↔q=p:=by omega
      simp only[dU,A]
def nl(fR:Nat):Option Nat→Option Nat→Bool
 |none,none=>true
 |some a,some b=>Nat.beq a b&&Nat.blt a fR
 |_,_=>false
def oW(ops:Array Oper):Option (Nat×Bool)→Option (Nat×Bool)→Bool
 |none,none=>true
 |some (t,w),some (j,w')=>
  match (ops[j]?).bind (·.dst) with
  |some d=>Nat.beq d t&&w==w'
  |none=>false
 |_,_=>false
def n7(T:kO)(fR:Nat)(ops:Array Oper)(e:cT)(o:Oper):Bool:=nl fR e.dst o.dst&&oW ops e.guard o.guard&&eH T e.op o.op
def Marks(B:Nat)(w:World)(ib:List Deferred):Prop:=B≤w.heap.size∧∃oB:List Nat,ib=oB.map (fun D=>{target:=.collected D,args:= #[]})∧oB.Nodup∧∀D,D∈oB→B≤D∧w.heap[D]? =some (.deferred (some []))
theorem Marks.nil{B:Nat}{w:World}(h:B≤w.heap.size):Marks B w []:=⟨h,[],rfl,List.nodup_nil,fun D h=>by cases h⟩
theorem c3.mc{κ:bi}{s:ag}{w:World}(a6:c3 κ s w){b:Nat}(h:Live κ s b):(∃C e i7,w.heap[b]? =some (.cells C e i7))∨∃fm clock,w.heap[b]? =some (.map fm clock):=by
 obtain⟨d,i,o,au,az⟩:=h;have q:=a6.obj d i o au;cases o with
 |cells cs=>obtain⟨⟨C,e,i7,b3,_⟩,_⟩:=q;simp only[bh,bj] at az;exact .inl ⟨C,e,i7,az ▸ b3⟩
 |tok n=>obtain⟨r,cap,sz,b3,_,⟨C,e,i7,dJ,_⟩,_⟩:=q;simp only[bh,b3,ew,bj] at az;exact .inl ⟨C,e,i7,az ▸ dJ⟩
 |gone=>cases az
 |map es=>obtain⟨fm,clock,b3,_⟩:=q;simp only[bh,bj] at az;exact .inr ⟨fm,clock,az ▸ b3⟩
theorem Marks.ext{κ κ':bi}{s s':ag}{w w':World}{ib:List Deferred}{B:Nat}(h:Marks B w ib)(a6:c3 κ s w)(he:fx κ s w κ' s' w'):Marks B w' ib:=by
 obtain⟨eZ,oB,au,az,b3⟩:=h;refine⟨Nat.le_trans eZ he.size,oB,au,az,fun D r=>⟨(b3 D r).1,?_⟩⟩;have dJ:=(b3 D r).2;rw[he.kU D (Array.getElem?_eq_some_iff.1 dJ).1 fun bK=>?_]
 ·exact dJ
 ·rcases a6.mc bK with⟨C,e,i7,q⟩|⟨fm,clock,q⟩<;> rw[dJ] at q<;> cases q
structure fE (κ:bi) (s:ag) (w:World) (g:Nat→af) (a:Act) (fR:Nat) (B:Nat) (G:Nat→af):Prop where
 iR:c3 κ s w
 ao:wB κ s g a
 defers:Marks B w a.defers
 size:a.tmps.size=fR
 aw:km κ G
theorem oX{ao:eL}{d:Option Nat}{v:af}{k:eL→ah}{r:ah}(aT:i5 ao d v k=r)(bB:r≠.fail):∃ep,k ep=r∧ep.get=cN ao.get d v:=by
 cases d with
 |none=>exact⟨ao,aT,rfl⟩
 |some n=>obtain⟨ep,au,az⟩:=kh 12 n v k ao r aT bB;exact⟨ep,au,funext az⟩
theorem u3{g:Option (Nat×Bool)}{ao:eL}{k:Bool→ah}{r:ah}(aT:mn g ao k=r)(bB:r≠.fail):∃b,f3 g ao.get=some b∧k b=r:=by
 cases g with
 |none=>exact⟨true,rfl,aT⟩
 |some p=>obtain⟨t,w⟩:=p;simp only[mn] at aT;simp only[f3];cases bO:ao.get t<;> rw[bO] at aT<;> simp only at aT<;> first|exact absurd aT.symm bB|exact⟨_,rfl,aT⟩
theorem Kj{E:Env}(dp:∀f args s v s',E.call f args s≠.panic v s'){g:Nat→af}{s:ag}{k kp e:af→ag→ah}(op:gg):aJ E g s k kp op=aJ E g s k e op:=by
 have a3:∀f args,eA E s k kp f args=eA E s k e f args:=fun f args=>by
  unfold eA;cases h:E.call f args s with
  |panic v s'=>exact absurd h (dp _ _ _ _ _)
  |_=>rfl
 have kV:∀(k:af→ag→ah) f args,eA E s k kp f args=eA E s k e f args:=fun k f args=>by
  unfold eA;cases h:E.call f args s with
  |panic v s'=>exact absurd h (dp _ _ _ _ _)
  |_=>rfl
 cases op<;> simp only[aJ]
 case call=>simp only[a3]
 case eA=>unfold lb;simp only[a3]
 case lA=>simp only[h3];congr;funext args;exact kV _ _ _
 case jY=>unfold ks h3;congr;funext f dI;congr;funext args;exact kV _ _ _
theorem xj{E:Env}(bq:E.F=.not)(dp:∀f args s v s',E.call f args s≠.panic v s'){g:Nat→af}{s s':ag}{v:af}(op:gg):aJ E g s .ok .panic op≠.panic v s':=fun h=>by have au:=ju bq g s .ok .panic op;have az:=ju bq g s .ok (fun _ _=>.fail) op;rw[h] at az;rw[←Kj dp (kp:=.panic) op,h] at az;cases az
theorem lY{E:Env}(bq:E.F=.not)(dp:∀f args s v s',E.call f args s≠.panic v s'){fin:eL→ag→ah}{B:af→eL→ag→ah}{r:ah}(bB:r≠.fail):∀(A:List cT) {ao:eL} {s:ag},fw E A ao s fin B=r→∃ep s',g2 E A ao.get s=some (ep.get,s')∧fin ep s'=r
 |[],ao,s,h=>⟨ao,s,rfl,h⟩
 |o::os,ao,s,h=>by
  simp only[fw] at h;obtain⟨b,au,az⟩:=u3 h bB;cases b with
  |false=>simp only[cond_false] at az;obtain⟨ep,b3,dJ⟩:=oX az bB;obtain⟨q,s',u,y⟩:=lY bq dp bB os b3;exact⟨q,s',by simp only[g2,jv,au,f6,←dJ,u],y⟩
  |true=>
   simp only[b2] at az;rw[ju bq] at az;cases e:aJ E ao.get s .ok .panic o.op with
   |fail=>rw[e] at az;exact absurd az.symm bB
   |panic v s'=>exact absurd e (xj bq dp o.op)
   |ok v s'=>rw[e] at az;simp only[ah.bind] at az;obtain⟨ep,b3,dJ⟩:=oX az bB;obtain⟨q,H,u,y⟩:=lY bq dp bB os b3;exact⟨q,H,by simp only[g2,jv,au,e,f6,←dJ,u],y⟩
section
variable{P:Program}{κ:bi}{s:ag}{w:World}{g:Nat→af}{a:Act}{fR:Nat}{B:Nat}{G:Nat→af}
theorem fE.put(h:fE κ s w g a fR B G){κ':bi}{s':ag}{w':World}(he:fx κ s w κ' s' w')(a6:c3 κ' s' w'){v:af}{x:Value}(a8:dF κ' (s.aa+1) (v.ap s.aa) x){d fL:Option Nat}(cS:nl fR d fL=true):fE κ' s' w' (cN g d v) (a.put fL x) fR B G:=by
 have bZ:=h.ao.ext he;cases d with
 |none=>
  cases fL with
  |none=>exact⟨a6,bZ,h.defers.ext h.iR he,h.size,h.aw.mono he.k⟩
  |some b=>simp [nl] at cS
 |some n=>
  cases fL with
  |none=>simp [nl] at cS
  |some b=>
   simp only[nl,bn] at cS;have e:=dk cS.1;subst e;have dp:n<a.tmps.size:=by rw[h.size];have:=cS.2;rw[Nat.blt_eq] at this;exact this
   refine⟨a6,fun t=>?_,h.defers.ext h.iR he,?_,h.aw.mono he.k⟩
   ·simp only[cN];by_cases eh:t=n
    ·subst eh;rw[if_pos rfl,he.aa];simp only[Act.put,Array.getD_eq_getD_getElem?,Array.getElem?_setIfInBounds_self_of_lt dp,Option.getD_some];exact a8
    ·rw[if_neg eh]
     have:=bZ t;simp only[Act.put,Array.getD_eq_getD_getElem?,Array.getElem?_setIfInBounds_ne (Ne.symm eh)] at this ⊢;exact this
   ·simp [Act.put,h.size]
theorem fE.skip(h:fE κ s w g a fR B G){d fL:Option Nat}(cS:nl fR d fL=true):fE κ s w (cN g d (.ea [])) (a.put fL undef) fR B G:=
 h.put (.refl _ _ _) h.iR (v:=.ea []) (x:=undef) (.ea [] [] rfl (fun j c x a3=>by simp at a3)) cS
theorem fE.wanted(h:fE κ s w g a fR B G){ops:Array Oper}{abh:Option (Nat×Bool)}{o:Oper}(cC:oW ops abh o.guard=true){b:Bool}(u:f3 abh g=some b):Region.wanted o (yielded ops a.tmps)=b:=by
 unfold Region.wanted;cases abh with
 |none=>
  cases A:o.guard with
  |none=>simpa [f3] using u
  |some p=>rw[A] at cC;simp [oW] at cC
 |some p=>
  obtain⟨t,want⟩:=p;cases A:o.guard with
  |none=>rw[A] at cC;simp [oW] at cC
  |some q=>
   obtain⟨j,H⟩:=q;rw[A] at cC;simp only[oW] at cC;split at cC
   ·rename_i d cS;simp only[bn,beq_iff_eq] at cC;have e:=dk cC.1;subst e;obtain rfl:=cC.2;have a8:=h.ao d;simp only[f3] at u;simp only[yielded,cS,f6];cases bO:g d<;> rw[bO] at u a8<;> simp only[bj,reduceCtorEq] at u
    ·rename_i F;have r:=dF.gY (b:=F) a8
     have:a.tmps[d]? =some (.bool F):=by
      rw[Array.getD_eq_getD_getElem?] at r;cases gh:a.tmps[d]? with
      |none=>rw[gh] at r;cases r
      |some y=>rw[gh] at r;simp only[Option.getD_some] at r;rw[r]
     rw[this];simpa using u
    ·rename_i vs;obtain⟨xs,r,_⟩:=dF.uz (cs:=vs) a8
     have:∀b,a.tmps[d]?≠some (.bool b):=fun b gh=>by rw[Array.getD_eq_getD_getElem?,gh] at r;cases r
     split
     ·rename_i F gh;exact absurd gh (this F)
     ·simpa using u
   ·cases cC
theorem Ae{T:kO}{x:gg}{op:Op}(h:eH T x op=true)(a8:x≠.no):∀c,op≠.defer c:=by
 rintro c rfl
 cases x<;> first|exact a8 rfl |simp [eH] at h
theorem Af{ro:Option Nat}{m:Nat}{P:Program}{f:FuncId}{args:Array Value}{w:World}{R:Ending→World→Prop}(h:Calls P f args w R):CallsIn (wY ro) m P f args w R:=callsIn_wide.2 h
variable{ro:Option Nat}{B:Nat}{T:kO}(eR:T.pw P){E:Env}(bq:E.F=.not)(jT:mW P E)
include eR bq jT
theorem oY(h:fE κ s w g a fR B E.aw){ops:Array Oper}{r:cT}{i:Nat}{o:Oper}(bX:ops[i]? =some o)(dg:n7 T fR ops r o=true){v:af}{s':ag}(aT:jv E r g s=some (v,s'))
  {K:Act→World→Prop}{Q:Exit→Act→World→Prop}(u:∀κ' w' fT,fx κ s w κ' s' w'→fE κ' s' w' (cN g r.dst v) fT fR B E.aw→K fT w'):wpOpIn (wY ro) 0 P ops Q i K a w:=by
 unfold wpOpIn;simp only[bX];simp only[n7,bn] at dg;unfold jv at aT;cases hw:f3 r.guard g with
 |none=>rw[hw] at aT;cases aT
 |some b=>
  rw[hw] at aT;rw[h.wanted dg.1.2 hw];cases b with
  |false=>simp only[bj,e0] at aT;obtain⟨rfl,rfl⟩:=aT;simp only[bW,↓reduceIte];exact⟨fun _ _=>trivial,u κ w _ (.refl _ _ _) (h.skip dg.1.1)⟩
  |true=>
   simp only at aT;simp only[↓reduceIte];cases q:aJ E g s .ok .panic r.op with
   |fail=>rw[q] at aT;cases aT
   |panic v s'=>rw[q] at aT;cases aT
   |ok fG F=>
    rw[q] at aT;simp only[bj,e0] at aT;obtain⟨rfl,rfl⟩:=aT;obtain⟨v1,s1,dl,cS⟩:=z5 (ty:=o.type) eR h.iR bq jT h.ao h.aw (by simp) dg.2 q;simp only[ah.ok.injEq] at dl;obtain⟨rfl,rfl⟩:=dl;have A:∀(R:Result Next),(∀dst pos after guard,(execOp a.eval ⟨dst,o.op,o.type,pos,after,guard⟩).run P w=R)→(Oper.semAt ro a.eval o).run P w=R:=fun R h=>by
     rw[show Oper.semAt ro a.eval o=execOp a.eval o from by
      cases ro with
      |none=>rfl
      |some l=>exact Oper.semAt_some l _ o (Ae dg.2 fun dp=>by rw[dp] at q;cases q)]
     exact h o.dst o.pos o.after o.guard
    unfold Oper.wpIn;refine⟨fun _ _=>trivial,?_⟩;rcases cS with⟨x,κ',w',a8|⟨a8,rfl⟩,he,y,bO⟩|⟨f,xs,a8,a3⟩
    ·rw[A _ a8,Oper.uponIn_value];exact u κ' w' _ he (h.put he y bO dg.1.1)
    ·rw[A _ a8,Oper.uponIn_skip];exact u κ' w' _ he (h.put he y bO dg.1.1)
    ·rw[A _ a8,Oper.uponIn_enter];refine⟨fun a8=>(by cases a8),(Af a3).mono fun e w' ⟨x,hex,κ',he,y,bO⟩=>?_⟩;subst hex;exact u κ' w' _ he (h.put he y bO dg.1.1)
theorem ql{ops:Array Oper}{Q:Exit→Act→World→Prop}{g':Nat→af}{s':ag}:∀(l:List Nat) (q:List cT) {κ:bi} {s:ag} {w:World} {g:Nat→af} {a:Act},l.length=q.length→
  (∀(j i:Nat) (e:cT),l[j]? =some i→q[j]? =some e→∃o,ops[i]? =some o∧n7 T fR ops e o=true)→fE κ s w g a fR B E.aw→g2 E q g s=some (g',s')→
  (∀κ' w' fT,fx κ s w κ' s' w'→fE κ' s' w' g' fT fR B E.aw→Q .normal fT w')→wpOpsIn (wY ro) 0 P ops Q l a w
 |[],[],κ,s,w,g,a,_,_,h,aT,r=>by simp only[g2,bj,e0] at aT;obtain⟨rfl,rfl⟩:=aT;exact r κ w a (.refl _ _ _) h
 |[],_::_,_,_,_,_,_,bK,_,_,_,_=>by simp at bK
 |_::_,[],_,_,_,_,_,bK,_,_,_,_=>by simp at bK
 |i::l,e::q,κ,s,w,g,a,bK,dg,h,aT,r=>by
  obtain⟨o,bX,u⟩:=dg 0 i e rfl rfl;rw[wpOpsIn_cons];simp only[g2] at aT;cases he:jv E e g s with
  |none=>rw[he] at aT;cases aT
  |some p=>
   rw[he] at aT;refine oY eR bq jT h bX u he fun κ' w' fT y A=>?_
   exact ql l q (by simpa using bK) (fun j i e au az=>dg (j+1) i e (by simpa using au) (by simpa using az)) A aT
    fun F H I J K=>r F H I (y.trans J) K
end
def n8(o:Oper):List Nat:=(o.after.toList.filter (Region.binds .any)).map (·.on)
def mY(acc:List Nat):List Nat→Nat
 |[]=>0
 |e::es=>mY acc es ||| ((1 <<< e) ||| acc.getD e 0)
def qm:List Nat→List Oper→List Nat
 |acc,[]=>acc
 |acc,o::os=>qm (acc++[mY acc (n8 o)]) os
def yC(bits:Nat)(b:cT):Nat→List cT→Bool
 |_,[]=>true
 |m,a::as=>(bits.testBit m||indep a b)&&yC bits b (m+1) as
def rb:List cT→List Nat→List cT→Bool
 |_,_,[]=>true
 |pre,m::zY,b::fc=>yC m b 0 pre&&rb (pre++[b]) zY fc
 |_,[],_::_=>false
def yD:Nat→List Oper→Bool
 |_,[]=>true
 |i,o::os=>(n8 o).all (fun e=>Nat.blt e i)&&yD (i+1) os
def je(T:kO)(fR:Nat)(ops:Array Oper):List cT→List Oper→Bool
 |[],[]=>true
 |a::as,o::os=>n7 T fR ops a o&&je T fR ops as os
 |_,_=>false
def rc(T:kO)(fR:Nat)(ops:Array Oper)(e:List cT):Bool:=je T fR ops e ops.toList&&yD 0 ops.toList&&rb [] (qm [] ops.toList) e
theorem ie{T:kO}{fR:Nat}{ops:Array Oper}:∀{as:List cT} {os:List Oper},je T fR ops as os=true→as.length=os.length∧∀(i:Nat) (a:cT) (o:Oper),as[i]? =some a→os[i]? =some o→n7 T fR ops a o=true
 |[],[],_=>⟨rfl,fun i a o h=>by simp at h⟩
 |[],_::_,h=>by simp [je] at h
 |_::_,[],h=>by simp [je] at h
 |a::as,o::os,h=>by
  simp only[je,bn] at h;obtain⟨au,az⟩:=ie h.2;refine⟨by simp [au],fun i fT o' e q=>?_⟩;cases i with
  |zero=>simp at e q;subst e;subst q;exact h.1
  |succ i=>exact az i fT o' (by simpa using e) (by simpa using q)
theorem re:∀{i:Nat} {os:List Oper},yD i os=true→∀(j:Nat) (o:Oper),os[j]? =some o→∀e,e∈n8 o→e<i+j
 |i,[],_,j,o,h=>by simp at h
 |i,o'::os,h,j,o,q=>by
  simp only[yD,bn,List.all_eq_true] at h;cases j with
  |zero=>
   simp at q;subst q;intro e he
   have:=h.1 e he;rw[Nat.blt_eq] at this;omega
  |succ j=>
   intro e he
   have:=re h.2 j o (by simpa using q) e he;omega
theorem rf{bits:Nat}{b:cT}:∀{m:Nat} {as:List cT},yC bits b m as=true→∀(j:Nat) (a:cT),as[j]? =some a→bits.testBit (m+j)=true∨indep a b=true
 |m,[],_,j,a,h=>by simp at h
 |m,fT::as,h,j,a,e=>by
  simp only[yC,bn,Bool.or_eq_true] at h;cases j with
  |zero=>simp at e;subst e;exact h.1
  |succ j=>have:=rf h.2 j a (by simpa using e);rw[show m+(j+1)=m+1+j by omega];exact this
theorem pY:∀{pre:List cT} {zY:List Nat} {rest:List cT},rb pre zY rest=true→∀(i m:Nat) (a b:cT),pre.length≤i→m<i→(pre++rest)[m]? =some a→(pre++rest)[i]? =some b→(zY.getD (i-pre.length) 0).testBit m=true∨indep a b=true
 |pre,zY,[],_,i,m,a,b,bX,hm,r,q=>by
  rw[oJ] at q
  have:=(ey.1 q).1;omega
 |pre,[],u::fc,h,i,m,a,b,bX,hm,r,q=>by simp [rb] at h
 |pre,jt::zY,u::fc,h,i,m,a,b,bX,hm,r,q=>by
  simp only[rb,bn] at h;by_cases he:i=pre.length
  ·subst he;rw[Nat.sub_self];have y:b=u:=by simpa using q.symm
   subst y
   have:=rf h.1 m a (by rw[hn hm] at r;exact r);simpa using this
  ·have:=pY (pre:=pre++[u]) h.2 i m a b (by simp;omega) hm (by simpa using r) (by simpa using q);have e:i-pre.length=(i-(pre++[u]).length)+1:=by simp;omega
   rw[e];simpa using this
theorem oC(acc:List Nat)(m:Nat):∀(es:List Nat),(mY acc es).testBit m=true→∃e,e∈es∧(m=e∨(acc.getD e 0).testBit m=true)
 |[],h=>by simp [mY] at h
 |e::es,h=>by
  simp only[mY,Nat.testBit_or,Bool.or_eq_true] at h;rcases h with h|h|h
  ·obtain⟨hZ,au,az⟩:=oC acc m es h;exact⟨hZ,List.mem_cons_of_mem _ au,az⟩
  ·refine⟨e,List.mem_cons_self,.inl ?_⟩;rw[Nat.one_shiftLeft,Nat.testBit_two_pow] at h;simpa using (of_decide_eq_true h).symm
  ·exact⟨e,List.mem_cons_self,.inr h⟩
def Kk(M:List Nat)(os:List Oper):Prop:=M.length=os.length∧∀i m,(M.getD i 0).testBit m=true→∃o e,os[i]? =some o∧e∈n8 o∧(m=e∨(M.getD e 0).testBit m=true)
theorem rh:∀(os:List Oper) (acc:List Nat) (pre:List Oper),Kk acc pre→Kk (qm acc os) (pre++os)
 |[],acc,pre,h=>by simpa [qm] using h
 |o::os,acc,pre,h=>by
  have:=rh os (acc++[mY acc (n8 o)]) (pre++[o]) ?_
  ·simpa [qm] using this
  refine⟨by simp [h.1],fun i m hm=>?_⟩;have up:∀e,(acc.getD e 0).testBit m=true→((acc++[mY acc (n8 o)]).getD e 0).testBit m=true:=fun e he=>by
   have r:e<acc.length:=by
    rcases Nat.lt_or_ge e acc.length with q|q
    ·exact q
    ·rw[List.getD_eq_getElem?_getD,List.getElem?_eq_none q] at he;simp at he
   rw[List.getD_eq_getElem?_getD,hn r,←List.getD_eq_getElem?_getD];exact he
  rcases Nat.lt_trichotomy i acc.length with q|q|q
  ·rw[List.getD_eq_getElem?_getD,hn q,←List.getD_eq_getElem?_getD] at hm;obtain⟨o',e,au,az,b3⟩:=h.2 i m hm;refine⟨o',e,?_,az,b3.imp id (up e)⟩;rw[hn (by rw[←h.1];exact q)];exact au
  ·subst q;have u:(mY acc (n8 o)).testBit m=true:=by simpa using hm
   obtain⟨e,au,az⟩:=oC acc m _ u;refine⟨o,e,?_,au,az.imp id (up e)⟩;rw[h.1];simp
  ·rw[List.getD_eq_getElem?_getD,List.getElem?_eq_none (by simp;omega)] at hm;simp at hm
section
variable{P:Program}{fR:Nat}{B:Nat}{ro:Option Nat}{T:kO}(eR:T.pw P){E:Env}(bq:E.F=.not)(jT:mW P E)
include eR bq jT
theorem Di{ops:Array Oper}{r:List cT}(dg:rc T fR ops r=true){Q:Exit→Act→World→Prop}{g':Nat→af}{s':ag}:∀(fuel:Nat) (L:List Nat) (listed:Array Bool) {κ:bi} {s:ag} {w:World} {g:Nat→af} {a:Act},
  L.length=fuel→L.Pairwise (· < ·)→listed.size=ops.size→(∀i,i∈L↔i<ops.size∧listed.getD i true=false)→
  (∀i m,listed.getD i false=true→((qm [] ops.toList).getD i 0).testBit m=true→listed.getD m false=true)→fE κ s w g a fR B E.aw→g2 E (L.map (r.getD · default)) g s=some (g',s')→
  (∀κ' w' fT,fx κ s w κ' s' w'→fE κ' s' w' g' fT fR B E.aw→Q .normal fT w')→wpAnyIn (wY ro) 0 P .any ops Q fuel listed a w:=by
 simp only[rc,bn] at dg;obtain⟨⟨Z,aa⟩,ab⟩:=dg;obtain⟨hlen,ac⟩:=ie Z;have ad:=re aa;have ae:=pY ab;have ah:=rh ops.toList [] [] ⟨rfl,fun i m h=>by simp at h⟩;have ai:∀(o:Oper) (e:Edge),e∈o.after→Region.binds .any e=true→e.on∈n8 o:=fun o e he I=>List.mem_map.2 ⟨e,List.mem_filter.2 ⟨by simpa using he,I⟩,rfl⟩
 have aj:∀(o:Oper) (n:Nat),n∈n8 o→∃e,e∈o.after∧Region.binds .any e=true∧e.on=n:=fun o n dp=>by obtain⟨e,he,ak⟩:=List.mem_map.1 dp;obtain⟨au,az⟩:=List.mem_filter.1 he;exact⟨e,by simpa using au,az,ak⟩
 have O:∀(listed:Array Bool) (i:Nat),i<listed.size→listed.getD i true=listed.getD i false:=fun listed i h=>by simp [Array.getD_eq_getD_getElem?,h]
 intro fuel
 induction fuel with
 |zero=>
  intro L listed κ s w g a oI fC e4 kf J h aT K
  have:L=[]:=kQ oI;subst this;refine⟨?_,?_⟩
  ·cases M:Region.ready .any ops listed with
   |nil=>rfl
   |cons i l=>
    have bX:i∈Region.ready .any ops listed:=by rw[M];exact List.mem_cons_self
    obtain⟨au,o,az,_⟩:=mem_ready.1 bX
    have:=(kf i).2 ⟨(Array.getElem?_eq_some_iff.1 az).1,au⟩;cases this
  ·simp only[List.map_nil,g2,bj,e0] at aT;obtain⟨rfl,rfl⟩:=aT;exact K κ w a (.refl _ _ _) h
 |succ fuel al=>
  intro L listed κ s w g a oI fC e4 kf J h aT K;refine⟨fun M=>?_,fun i bX=>?_⟩
  ·cases L with
   |nil=>simp at oI
   |cons i0 l=>
    obtain⟨au,az⟩:=(kf i0).1 List.mem_cons_self
    have:i0∈Region.ready .any ops listed:=by
     refine mem_ready.2 ⟨az,ops[i0],Array.getElem?_eq_getElem au,fun e he I=>?_⟩;have am:=ad i0 ops[i0] (by simp [au]) e.on (ai _ _ he I);rw[bg] at am;rw[←O listed e.on (by omega)];cases gh:listed.getD e.on true with
     |true=>rfl
     |false=>
      have:=(kf e.on).2 ⟨by omega,gh⟩;rcases List.mem_cons.1 this with q|q
      ·omega
      ·have:=List.rel_of_pairwise_cons fC q;omega
    rw[M] at this;cases this
  ·obtain⟨au,o,az,b3⟩:=mem_ready.1 bX;have H:i<ops.size:=(Array.getElem?_eq_some_iff.1 az).1;have an:=(kf i).2 ⟨H,au⟩;have U:∀m,((qm [] ops.toList).getD i 0).testBit m=true→listed.getD m false=true:=fun m hm=>by
    obtain⟨o',e,ao,ap,A⟩:=ah.2 i m hm
    have:o'=o:=by
     have V:ops[i]? =some o':=by simpa using ao
     rw[az] at V;exact(Option.some.inj V).symm
    subst this;obtain⟨hZ,pE,qO,C3⟩:=aj _ _ ap;have bK:=b3 hZ pE qO;rw[C3] at bK;rcases A with A|A
    ·rw[A];exact bK
    ·exact J e m bK A
   obtain⟨pre,post,rfl⟩:=List.append_of_mem an;have F:=List.pairwise_append.1 fC;have Y:∀m,m∈pre→m<i:=fun m hm=>F.2.2 m hm i List.mem_cons_self
   have aq:∀m,m∈post→i<m:=fun m hm=>List.rel_of_pairwise_cons F.2.1 hm
   have N:∀m,m<ops.size→r[m]? =some (r.getD m default):=fun m hm=>by
    have:m<r.length:=by rw[hlen];simpa using hm
    simp [List.getD_eq_getElem?_getD,this]
   have ar:∀x,x∈pre.map (r.getD · default)→indep x (r.getD i default)=true:=fun x a8=>by
    obtain⟨m,hm,rfl⟩:=List.mem_map.1 a8;have as:=Y m hm;obtain⟨av,jw⟩:=(kf m).1 (List.mem_append_left _ hm);rcases ae i m _ _ (Nat.zero_le _) as (N m av) (N i H) with q|q
    ·have:=U m (by simpa using q);rw[O listed m (by omega),this] at jw;cases jw
    ·exact q
   rw[List.map_append,fK] at aT;have io:=u2 bq _ ar aT;rw[←List.map_append] at io;simp only[g2] at io;cases he:jv E (r.getD i default) g s with
   |none=>rw[he] at io;cases io
   |some p=>
    obtain⟨v,s1⟩:=p;rw[he] at io;simp only[f6] at io;refine oY eR bq jT h az (ac i _ o (N i H) (by simpa using az)) he fun κ' w' fT ax ay=>?_
    refine al (pre++post) _ (by simp at oI ⊢;omega) (List.pairwise_append.2 ⟨F.1,F.2.1.of_cons,fun x a8 y eT=>F.2.2 x a8 y (List.mem_cons_of_mem _ eT)⟩) (by simp [e4]) (fun j=>?_) (fun j m df hm=>?_) ay io
     (fun aA aB aC aD aE=>K aA aB aC (ax.trans aD) aE)
    ·by_cases u:j=i
     ·subst u;constructor
      ·intro hm;rcases List.mem_append.1 hm with q|q
       ·exact absurd (Y j q) (Nat.lt_irrefl _)
       ·exact absurd (aq j q) (Nat.lt_irrefl _)
      ·intro hm
       have:=hm.2;simp [Array.getD_eq_getD_getElem?,e4,H] at this
     ·rw[getD_set_ne true (Ne.symm u),←kf j];simp only[List.mem_append,List.mem_cons];constructor
      ·rintro (q|q)
       ·exact .inl q
       ·exact .inr (.inr q)
      ·rintro (q|q|q)
       ·exact .inl q
       ·exact absurd q u
       ·exact .inr q
    ·by_cases u:j=i
     ·subst u;exact getD_set_true (U m hm)
     ·rw[getD_set_ne false (Ne.symm u)] at df;exact getD_set_true (J j m df hm)
theorem xk{κ:bi}{s:ag}{w:World}{ao:eL}{a:Act}{ops:Array Oper}{e:List cT}(dg:je T fR ops e ops.toList=true)(h:fE κ s w ao.get a fR B E.aw){fin:eL→ag→ah}{y:af→eL→ag→ah}{r:ah}(bB:r≠.fail)(aT:fw E e ao s fin y=r){Q:Exit→Act→World→Prop}
  (A:∀κ' s' w' ep fT,fx κ s w κ' s' w'→fE κ' s' w' ep.get fT fR B E.aw→fin ep s'=r→Q .normal fT w')(id:Nat):(Code.region id ops false).wpIn (wY ro) 0 P Q a w:=by
 obtain⟨ep,s',au,az⟩:=lY bq jT.nB bB e aT;obtain⟨hlen,F⟩:=ie dg;refine wpIn_region (ql eR bq jT (List.range ops.size) e (by rw[hlen];simp) (fun j i H df I=>?_) h au (fun κ' w' fT he J=>A κ' s' w' ep fT he J az));obtain⟨K,q⟩:=ey.1 df;rw[List.getElem_range] at q;subst q;have u:j<ops.size:=by simpa using K
 exact⟨ops[j],Array.getElem?_eq_getElem u,F j H _ I (by simp [u])⟩
theorem fE.drawn{κ:bi}{s:ag}{w:World}{g:Nat→af}{a:Act}(h:fE κ s w g a fR B E.aw):fE κ s {w with drawn:=w.drawn+1} g a fR B E.aw∧fx κ s w κ s {w with drawn:=w.drawn+1}:=
 ⟨⟨h.iR.world (.refl _ _) rfl rfl (fun a v e=>h.iR.iG a v e) (fun _ _=>⟨rfl,fun _=>rfl⟩),h.ao,h.defers,h.size,h.aw⟩,
  ⟨.refl _ _,rfl,aC _,rfl,rfl,rfl,fun _ _ _=>rfl,fun _ _ h=>h,fun _ h=>.inl h⟩⟩
theorem Ag{κ:bi}{s:ag}{w:World}{ao:eL}{a:Act}{ops:Array Oper}{e:List cT}(hm:P.follows .mixedOrders=true)(dg:rc T fR ops e=true)(h:fE κ s w ao.get a fR B E.aw){fin:eL→ag→ah}{u:af→eL→ag→ah}{r:ah}(bB:r≠.fail)(aT:fw E e ao s fin u=r){Q:Exit→Act→World→Prop}
  (y:∀κ' s' w' ep fT,fx κ s w κ' s' w'→fE κ' s' w' ep.get fT fR B E.aw→fin ep s'=r→Q .normal fT w')(id:Nat):(Code.region id ops true).wpIn (wY ro) 0 P Q a w:=by
 obtain⟨ep,s',au,az⟩:=lY bq jT.nB bB e aT;have hlen:=(ie (by simp only[rc,bn] at dg;exact dg.1.1)).1;obtain⟨cS,A⟩:=h.drawn eR bq jT;refine wpIn_region_any hm (Di eR bq jT dg ops.size (List.range ops.size) _ (by simp) List.pairwise_lt_range (by simp) (fun i=>?_) (fun i m bX=>?_) cS ?_ (fun κ' w' fT he F=>y κ' s' w' ep fT (A.trans he) F az))
 ·rw[List.mem_range];constructor
  ·intro bX;exact⟨bX,by simp [Array.getD_eq_getD_getElem?,bX]⟩
  ·exact fun bX=>bX.1
 ·by_cases q:i<ops.size
  ·simp [Array.getD_eq_getD_getElem?,q] at bX
  ·simp [Array.getD_eq_getD_getElem?,q] at bX
 ·have:(List.range ops.size).map (e.getD · default)=e:=by
   apply List.ext_getElem
   ·rw[hlen];simp
   ·intro i I H;simp [List.getD_eq_getElem?_getD,H]
  rw[this];exact au
end
inductive abn:qb→Exit→Prop
 |norm:abn .norm .normal
 |exit (i:Nat):abn (.exit i) (.exit i)
 |ret:abn .ret .ret
def ki(κ:bi)(s:ag)(w:World)(fR:Nat)(B:Nat)(G:Nat→af)(k:qb→eL→ag→ah)(r:ah):Exit→Act→World→Prop:=fun e fT w'=>∃x κ' s' ep,abn x e∧fx κ s w κ' s' w'∧fE κ' s' w' ep.get fT fR B G∧k x ep s'=r
theorem ki.trans{κ κ':bi}{s s':ag}{w w':World}{fR:Nat}{B:Nat}{G:Nat→af}{k:qb→eL→ag→ah}{r:ah}(he:fx κ s w κ' s' w'){e:Exit}{a:Act}{q:World}(h:ki κ' s' w' fR B G k r e a q):ki κ s w fR B G k r e a q:=by obtain⟨x,u,y,ep,au,az,b3,dJ⟩:=h;exact⟨x,u,y,ep,au,he.trans az,b3,dJ⟩
theorem hq.ext{l:Nat}{κ κ':bi}{s s':ag}{w w':World}(h:hq l κ s w κ' s' w')(bK:w'.heap[l]? =w.heap[l]?):fx κ s w κ' s' w':=
 ⟨h.k,h.aa,h.size,h.os,h.tape,h.output,fun b q dp=>by
  by_cases e:b=l
  ·rw[e,bK]
  ·exact h.kU b q e dp,h.live,h.oN⟩
theorem hq.ri{l:Nat}{κ κ':bi}{s s':ag}{w w':World}(h:hq l κ s w κ' s' w')(bK:w.heap.size≤l):fx κ s w κ' s' w':=
 ⟨h.k,h.aa,h.size,h.os,h.tape,h.output,fun b e dp=>h.kU b e (by omega) dp,h.live,h.oN⟩
theorem hq.put{κ:bi}{s:ag}{w:World}(l:Nat)(o:Obj):hq l κ s w κ s (w.putObj l o):=
 ⟨.refl _ _,rfl,Nat.le_of_eq World.putObj_size.symm,rfl,rfl,rfl,fun b _ dp _=>World.putObj_heap_other dp,fun _ _ h=>h,fun _ h=>.inl h⟩
theorem c3.heap{κ:bi}{s:ag}{w w':World}(a6:c3 κ s w)(h:∀(q:Nat) (o:Obj),w.heap[q]? =some o→((∃C e i7,o=.cells C e i7)∨∃fm clock,o=.map fm clock)→w'.heap[q]? =some o):c3 κ s w':=by
 refine a6.world (.refl _ _) rfl rfl (fun a v e=>?_) (fun b r=>⟨?_,fun _=>rfl⟩)
 ·obtain⟨au,az⟩:=a6.iG a v e;refine⟨au,?_⟩;unfold World.cell? at az ⊢;split at az
  ·rename_i c hZ i7 a3;rw[h _ _ a3 (.inl ⟨_,_,_,rfl⟩)];exact az
  ·cases az
 ·rcases a6.mc r with⟨C,e,i7,au⟩|⟨fm,clock,au⟩
  ·rw[au,h _ _ au (.inl ⟨_,_,_,rfl⟩)]
  ·rw[au,h _ _ au (.inr ⟨_,_,rfl⟩)]
theorem c3.put{κ:bi}{s:ag}{w:World}(a6:c3 κ s w){l:Nat}{r:Loop}(bK:w.heap[l]? =some (.loop r))(o:Obj):c3 κ s (w.putObj l o):=
 a6.heap fun b o' au az=>by
  rw[World.putObj_heap_other,au]
  rintro rfl
  rw[bK] at au;cases au;rcases az with⟨C,e,i7,az⟩|⟨fm,clock,az⟩<;> cases az
theorem c3.nE{κ:bi}{s:ag}{w:World}(a6:c3 κ s w){l:Nat}{r:Loop}(bK:w.heap[l]? =some (.loop r)):¬Live κ s l:=fun h=>by rcases a6.mc h with⟨C,e,i7,q⟩|⟨fm,clock,q⟩<;> rw[bK] at q<;> cases q
theorem c3.xC{κ:bi}{s:ag}{w:World}(a6:c3 κ s w){l:Nat}{r:Option (List Deferred)}(bK:w.heap[l]? =some (.deferred r)):¬Live κ s l:=fun h=>by rcases a6.mc h with⟨C,e,i7,q⟩|⟨fm,clock,q⟩<;> rw[bK] at q<;> cases q
theorem World.kZ(w:World)(o:Obj)(k:Nat)(h:k<w.heap.size):(w.alloc o).heap[k]? =w.heap[k]?:=by show(w.heap.push o)[k]? =_;rw[Array.getElem?_push,if_neg (by omega)]
theorem c3.alloc{κ:bi}{s:ag}{w:World}(a6:c3 κ s w)(o:Obj):c3 κ s (w.alloc o):=
 a6.heap fun b o' au _=>by rw[World.kZ w o b (Array.getElem?_eq_some_iff.1 au).1,au]
theorem fx.alloc(κ:bi)(s:ag)(w:World)(o:Obj):fx κ s w κ s (w.alloc o):=
 ⟨.refl _ _,rfl,by rw[World.size_alloc];omega,rfl,rfl,rfl,fun b e _=>World.kZ w o b e,fun _ _ h=>h,fun _ h=>.inl h⟩
section
variable{P:Program}{fR:Nat}{B:Nat}{E:Env}
def Kl(p fR:Nat)(ec:Array Tmp):Bool:=match ec.toList with
 |[q]=>Nat.beq p q&&Nat.blt p fR
 |_=>false
def Km(P:Program)(fR:Nat)(E:Env)(ro:Option Nat)(c:ad)(code:Code):Prop:=∀{κ:bi} {s:ag} {w:World} {ao:eL} {a:Act} {B:Nat} {k:qb→eL→ag→ah} {r:ah},r≠.fail→fE κ s w ao.get a fR B E.aw→exec E c ao s k=r→code.wpIn (wY ro) 0 P (ki κ s w fR B E.aw k r) a w
theorem tJ{step:af→ag→(qb→ag→ah)→ah}{hN:ag}{dI:List af}{x:af}{xs:List af}{s:ag}{k:qb→ag→ah}:g5 step hN dI (x::xs) s k=step x s fun e s=>match e with
  |.norm=>bif dI.all (fY hN s) then g5 step hN dI xs s k else .fail
  |e=>k e s:=rfl
theorem yE{j f p:Nat}{g:bC}{x y:ad}{g':Operand}{ec:Array Tmp}{ap aq:Code}(aE:z2 P f j)(cC:cH g g'=true)(M:Kl p fR ec=true)(a8:∀l,Km P fR E (some l) x ap)(eT:∀l,Km P fR E (some l) y aq)
  {κ:bi}{s:ag}{w:World}{ao:eL}{a:Act}{k:qb→eL→ag→ah}{r:ah}(bB:r≠.fail)(h:fE κ s w ao.get a fR B E.aw)(aT:exec E (.range j f g p x y) ao s k=r):
  (Code.rangeFunc g' ec ap aq).wpIn (wY none) 0 P (ki κ s w fR B E.aw k r) a w:=by
 simp only[exec] at aT;have aQ:=bp h.ao h.aw cC;unfold nY at aT;split at aT
 ·rename_i wF dI a7;rw[a7] at aQ;cases N:Nat.beq f wF with
  |false=>rw[N] at aT;exact absurd aT.symm bB
  |true=>
  rw[N] at aT;simp only[b2] at aT;have a9:=dk N;subst a9;split at aT
  ·rename_i xs f0;obtain⟨dw,ba,bb⟩:=dF.tP (cs:=dI) aQ;obtain⟨bc,bx⟩:ec= #[p]∧p<fR:=by
    unfold Kl at M;split at M
    ·rename_i q gh;simp only[bn] at M;have au:=dk M.1;have az:=M.2;rw[Nat.blt_eq] at az;subst au;exact⟨by rw[←Array.toArray_toList (xs:=ec),gh],az⟩
    ·cases M
   subst bc;obtain⟨⟨aR,bd,aS,be⟩,aE⟩:=aE;refine wpIn_rangeFunc ?_;intro fn bz;obtain⟨rec,H⟩:∃rec:LoopState→Option Code→Loop,rec=fun gT O=>{state:=gT,pending:=O,fn,tmps:=a.tmps,params:= #[p],assign:=ap,body:=aq,defers:=w.heap.size}:=⟨_,rfl⟩
   obtain⟨A,ab⟩:∃A,(w.alloc (.deferred (some []))).alloc (.loop (rec .ready none))=A:=⟨_,rfl⟩;obtain⟨l,bK⟩:∃l,l=w.heap.size+1:=⟨_,rfl⟩;have I:A.heap[l]? =some (.loop (rec .ready none)):=by rw[←ab,bK];have:=World.alloc_heap_new (w.alloc (.deferred (some []))) (.loop (rec .ready none));rwa [World.size_alloc] at this
   have aF:A.heap[w.heap.size]? =some (.deferred (some [])):=by rw[←ab];exact(World.kZ _ _ _ (by simp)).trans (World.alloc_heap_new w _)
   have ar:fx κ s w κ s A:=by rw[←ab];exact(fx.alloc _ _ _ _).trans (fx.alloc _ _ _ _)
   have ac:c3 κ s A:=by rw[←ab];exact(h.iR.alloc _).alloc _
   refine⟨w.heap.size+1,[{target:=.collected w.heap.size,args:= #[]}],A,{target:=.fn (.func f) dw.toArray,args:= #[.func (.yield (w.heap.size+1)) #[] #[]]},A,f,
    #[.func (.yield (w.heap.size+1)) #[] #[]]++dw.toArray,A,?_,?_,fun _ _=>trivial,?_,fun bf=>(by cases bf),?_⟩
   ·rw[←ab,H];exact run_enterLoop_outer _ _ _ _ _
   ·simp only[resolve,ba];simp [go_sem]
   ·have bg:¬aR.name= "runtime.NumGoroutine" :=by simpa using be
    cases N:aR.body with
    |none=>rw[N] at aS;cases aS
    |some c=>simp [invoke,go_sem,callFunc,bd,bg,N]
   ·rw[←bK];obtain⟨step,aU⟩:∃step:af→ag→(qb→ag→ah)→ah,step=fun kH s lN=>i5 ao (some p) kH fun ep=>exec E x ep s (C0 (exec E y) fun u _ s=>lN u s):=⟨_,rfl⟩
    obtain⟨eu,aV⟩:∃eu:qb→ag→ah,eu=fun u s=>k u ao s:=⟨_,rfl⟩
    rw[←aU,←aV] at aT;refine(aE dI xs κ s A dw l f0 ac bb (Array.getElem?_eq_some_iff.1 I).1 (ac.nE I) (fun o ae=>by rw[I] at ae;cases ae;rfl)
     (fun i s'=>g5 step s dI (xs.drop i) s' eu=r) (fun s' o=>∃(u:qb) (c:Code),eu u s'=r∧o=some (.loop (rec .done (some c)))∧((∃i,u=.exit i∧c=.exit i)∨(u=.ret∧c=.ret))) aT ?_).mono ?_
    ·
     intro i aW oS κ' s' w' bX he J ai bA bO;have bh:xs.drop i=aW::xs.drop (i+1):=by obtain⟨au,az⟩:=ey.1 bX;rw[iW au,az]
     rw[bh,tJ] at ai;obtain⟨as,av⟩:∃as:qb→ag→ah,as=fun u aG=>match u with
      |.norm=>bif dI.all (fY s aG) then g5 step s dI (xs.drop (i+1)) aG eu else .fail
      |u=>eu u aG:=⟨_,rfl⟩
     have aj:step aW s' as=r:=by rw[av];exact ai
     rw[aU] at aj;simp only at aj;obtain⟨ep,bj,bk⟩:=oX aj bB;have F:w'.heap[l]? =some (.loop (rec .ready none)):=by rw[he.kU l (Array.getElem?_eq_some_iff.1 I).1 (ac.nE I)];exact I
     have aX:=run_yield (P:=P) (args:= #[oS]) F (by rw[H];rfl);rw[H] at aX;refine⟨fn,_,ap,aq,aX,roundIn_of_wpIn trivial ?_⟩;have e4:a.tmps.size=fR:=h.size;have bl:fE κ' s' w' ep.get {tmps:=((#[p]:Array Tmp).zip #[oS]).foldl (fun tmps x=>tmps.setIfInBounds x.1 x.2) a.tmps,defers:=[]} fR w'.heap.size E.aw:=by
      refine⟨J,fun t=>?_,Marks.nil (aC _),by simp [e4],h.aw.mono (ar.trans he).k⟩;rw[bk];simp only[cN];have fC:p<a.tmps.size:=by omega
      by_cases eh:t=p
      ·subst eh;rw[if_pos rfl,bO.ld];simp only[List.zip_toArray,List.zip_cons_cons,List.zip_nil_right,List.foldl_toArray',List.foldl_cons,List.foldl_nil,Array.getD_eq_getD_getElem?,Array.getElem?_setIfInBounds_self_of_lt fC,Option.getD_some];exact bO
      ·rw[if_neg eh]
       have:=(h.ao.ext (ar.trans he)) t;simp only[List.zip_toArray,List.zip_cons_cons,List.zip_nil_right,List.foldl_toArray',List.foldl_cons,List.foldl_nil,Array.getD_eq_getD_getElem?,Array.getElem?_setIfInBounds_ne (Ne.symm eh)] at this ⊢;exact this
     refine wpIn_mono (a8 l bB bl bj) ?_
     rintro e aY aH ⟨u,ax,s1,aZ,aI,a0,ak,aJ⟩
     cases aI with
     |exit i=>exact absurd aJ.symm bB
     |ret=>exact absurd aJ.symm bB
     |norm=>
      have ay:aH.heap[l]? =some (.loop (rec .ready none)):=by rw[a0.kU l (Array.getElem?_eq_some_iff.1 F).1 (J.nE F)];exact F
      obtain⟨K,U⟩:∃K,aH.putObj l (.loop {rec .ready none with state:=.busy})=K:=⟨_,rfl⟩;refine⟨K,by rw[←U];exact run_beginRound ay (by rw[H]),?_⟩;have bm:hq l ax s1 aH ax s1 K:=by rw[←U];exact .put _ _
      have aK:K.heap[l]? =some (.loop {rec .ready none with state:=.busy}):=by rw[←U];exact World.putObj_heap_same (Array.getElem?_eq_some_iff.1 ay).1
      have a1:c3 ax s1 K:=by rw[←U];exact ak.iR.put ay _
      have bo:Marks w'.heap.size K aY.defers:=by
       obtain⟨aA,oB,al,aB,V⟩:=ak.defers;refine⟨by rw[←U,World.putObj_size];exact aA,oB,al,aB,fun D L=>⟨(V D L).1,?_⟩⟩;rw[←U,World.putObj_heap_other,(V D L).2]
       rintro rfl
       have:=(V D L).2;rw[ay] at this;cases this
      have bq:fE ax s1 K aZ.get aY fR w'.heap.size E.aw:=⟨a1,ak.ao,bo,ak.size,ak.aw⟩;have br:exec E y aZ s1 (fun u _ s=>as u s)=r:=aJ;refine wpIn_mono (eT l bB bq br) ?_
      rintro e bD am ⟨u,aD,s2,bE,aI,a2,aL,Y⟩
      have an:am.heap[l]? =some (.loop {rec .ready none with state:=.busy}):=by rw[a2.kU l (Array.getElem?_eq_some_iff.1 aK).1 (a1.nE aK)];exact aK
      have aM:hq l κ' s' w' aD s2 am:=(a0.x.trans bm).trans a2.x;have fin:∀Z:Option Code,(Instr.endRound l Z).run P am=.ok (.bool Z.isNone) (am.putObj l (.loop (rec (if Z.isNone then .ready else .done) Z))):=fun Z=>by have:=run_endRound (P:=P) Z an;rw[H] at this ⊢;exact this
      have aN:∀o,(am.putObj l o).heap[l]? =some o:=fun o=>World.putObj_heap_same (Array.getElem?_eq_some_iff.1 an).1
      cases aI with
      |norm=>
       refine⟨_,_,fin none,.inl ⟨rfl,aD,s2,(aM.trans (.put l _)).ext ?_,aL.iR.put an _,?_⟩⟩
       ·rw[aN,F];rfl
       ·rw[av] at Y;obtain⟨au,az⟩:=cY Y bB;exact⟨az,au⟩
      |exit i=>refine⟨_,_,fin (some (.exit i)),.inr ⟨rfl,aD,s2,aM.trans (.put l _),aL.iR.put an _,.exit i,.exit i,?_,aN _,.inl ⟨i,rfl,rfl⟩⟩⟩;rw[av] at Y;exact Y
      |ret=>refine⟨_,_,fin (some .ret),.inr ⟨rfl,aD,s2,aM.trans (.put l _),aL.iR.put an _,.ret,.ret,?_,aN _,.inr ⟨rfl,rfl⟩⟩⟩;rw[av] at Y;exact Y
    ·
     have out:∀(κ':bi) (s':ag) (w':World) (gT:LoopState) (O:Option Code),hq l κ s A κ' s' w'→c3 κ' s' w'→w'.heap[l]? =some (.loop (rec gT O))→∀u:qb,eu u s'=r→
       ∃aa,aa=w'.putObj l (.loop {rec gT O with state:=.exhausted})∧∀e,abn u e→ki κ s w fR B E.aw k r e {a with defers:={target:=.collected w.heap.size,args:= #[]}::a.defers} aa:=fun κ' s' w' gT O kM J F u dl=>by
      refine⟨_,rfl,fun e bs=>⟨u,κ',s',ao,bs,?_,?_,by rw[aV] at dl;exact dl⟩⟩
      ·exact((ar.x.trans kM).trans (.put l _)).ri (by omega)
      ·have aO:fx κ s w κ' s' (w'.putObj l (.loop {rec gT O with state:=.exhausted})):=((ar.x.trans kM).trans (.put l _)).ri (by omega);refine⟨J.put F _,h.ao.ext aO,?_,h.size,h.aw.mono aO.k⟩;obtain⟨aA,oB,al,aB,V⟩:=h.defers.ext h.iR aO;refine⟨aA,w.heap.size::oB,by simp only[fK,al],List.nodup_cons.2 ⟨fun hm=>?_,aB⟩,fun D L=>?_⟩
       ·obtain⟨bt,a4,a5,bu,a6⟩:=h.defers;have bv:a4=oB:=by
         have:=a5.symm.trans al;clear aA al aB V bt a5 bu a6 hm
         induction a4 generalizing oB with
         |nil=>cases oB with
          |nil=>rfl
          |cons _ _=>cases this
         |cons d ib bw=>cases oB with
          |nil=>cases this
          |cons fL bF=>simp only[fK,List.cons.injEq,Deferred.mk.injEq,Target.collected.injEq,and_true] at this;rw[this.1,bw _ this.2]
        have:=(a6 _ (bv ▸ hm)).2
        have:=(Array.getElem?_eq_some_iff.1 this).1;omega
       ·rcases List.mem_cons.1 L with rfl |L
        ·refine⟨h.defers.1,?_⟩;rw[World.putObj_heap_other (by omega),kM.kU _ (Array.getElem?_eq_some_iff.1 aF).1 (by omega) (ac.xC aF)];exact aF
        ·exact V D L
     rintro e w' ⟨⟨v,rfl⟩,(⟨κ',s',he,J,ai⟩|⟨κ',s',kM,J,u,c,dl,ae,a3⟩)⟩
     ·have F:w'.heap[l]? =some (.loop (rec .ready none)):=by rw[he.kU l (Array.getElem?_eq_some_iff.1 I).1 (ac.nE I)];exact I
      have aj:eu .norm s'=r:=by rw[List.drop_length] at ai;exact ai
      obtain⟨aa,aP,dJ⟩:=out κ' s' w' .ready none he.x J F .norm aj;refine⟨none,aa,?_,dJ _ .norm⟩
      have:=run_endLoop (P:=P) F (by rw[H];simp);rw[this,aP,H]
     ·obtain⟨aa,aP,dJ⟩:=out κ' s' w' .done (some c) kM J ae u dl;refine⟨some c,aa,?_,?_⟩
      ·have:=run_endLoop (P:=P) ae (by rw[H];simp);rw[this,aP,H]
      ·rcases a3 with⟨i,rfl,rfl⟩|⟨rfl,rfl⟩
       ·exact wpIn_exit (dJ _ (.exit i))
       ·exact wpIn_ret (dJ _ .ret)
  ·exact absurd aT.symm bB
 ·exact absurd aT.symm bB
end
def dr(T:kO)(fR:Nat)(rd:Bool):ad→Code→Bool
 |.skip,.skip=>true
 |.skip,.label _=>true
 |.region none e,.region _ ops false=>je T fR ops e ops.toList
 |.region (some []) e,.region _ ops true=>rc T fR ops e
 |.seq a b,.seq x y=>dr T fR rd a x&&dr T fR rd b y
 |.mask _ a,c=>dr T fR rd a c
 |.cond c a b,.cond nS x y=>cH c nS&&dr T fR rd a x&&dr T fR rd b y
 |.block i a,.block j x=>Nat.beq i j&&dr T fR rd a x
 |.loop _ a,.loop x=>dr T fR rd a x
 |.exit i,.exit j=>Nat.beq i j
 |.scope a,.scope x=> !rd&&dr T fR rd a x
 |.ret,.ret=>true
 |.range j f g p a b,.rangeFunc g' ec x y=> !rd&&T.Da f j&&cH g g'&&Kl p fR ec&&dr T fR true a x&&dr T fR true b y
 |_,_=>false
theorem hW:∀(m:gf) (k:eL→ah) (ao:eL),∃ep,eL.jD m k ao=k ep∧∀t,ep.get t=ao.get t∨ep.get t=.dead
 |.e,k,ao=>⟨.e,by cases ao<;> rfl,fun t=>.inr rfl⟩
 |.n y b q,k,.e=>by
  obtain⟨l',dU,au⟩:=hW y (fun l=>eL.jD q (fun r=>k (.n l .dead r)) .e) .e;obtain⟨u,A,az⟩:=hW q (fun r=>k (.n l' .dead r)) .e;refine⟨.n l' .dead u,by simp only[eL.jD];rw[dU];exact A,fun t=>.inr ?_⟩;have B:∀t,l'.get t=.dead:=fun t=>(au t).elim (fun h=>h) id
  have F:∀t,u.get t=.dead:=fun t=>(az t).elim (fun h=>h) id
  simp only[eL.get,B,F];cases Nat.beq t 0<;> cases Nat.beq (t%2) 1<;> rfl
 |.n y b q,k,.n l v r=>by
  obtain⟨l',dU,au⟩:=hW y (fun l=>eL.jD q (fun r=>k (.n l (bif b then v else .dead) r)) r) l;obtain⟨u,A,az⟩:=hW q (fun r=>k (.n l' (bif b then v else .dead) r)) r;refine⟨.n l' (bif b then v else .dead) u,by simp only[eL.jD];rw[dU];exact A,fun t=>?_⟩;simp only[eL.get];cases Nat.beq t 0 with
  |true=>cases b<;> simp
  |false=>
   simp only[cond_false];cases Nat.beq (t%2) 1 with
   |true=>exact au _
   |false=>exact az _
theorem qn{m:gf}{k:eL→ah}{ao:eL}{r:ah}(h:eL.jD m k ao=r):∃ep,k ep=r∧∀t,ep.get t=ao.get t∨ep.get t=.dead:=by obtain⟨ep,e,cC⟩:=hW m k ao;exact⟨ep,e.symm.trans h,cC⟩
theorem oZ{F:Fence}{A:Nat}{P:Program}{c:Code}{Q:Exit→Act→World→Prop}(J:Nat→Act→World→Prop)(round:∀n a w,J n a w→c.wpIn F A P (Exit.then (fun fT w'=>∃m,m<n∧J m fT w') Q) a w){n:Nat}{a:Act}{w:World}(h:J n a w):(Code.loop c).wpIn F A P Q a w:=by
 intro b k cs B y aT;have key:∀n a w,J n a w→∃e fT w',Q e fT w'∧ArrivesIn (Machine.fenced P F) P (lone (b.atR a (.code c:: .inLoop c::k)) cs w) b k cs e fT w':=by
  intro n
  induction n using Nat.strongRecOn with
  |_ n H=>
   intro a w I;obtain⟨e,r,u,gh,q⟩:=round n a w I b (.inLoop c::k) cs B y aT;cases e with
   |normal=>obtain⟨m,K,L⟩:=gh;obtain⟨M,N,O,U,V⟩:=H m K r u L;exact⟨M,N,O,U,.of_steps (StepsIn.trans q (.one (fenced_calm y aT rfl) stepR_inLoop)) V⟩
   |exit id=>exact⟨_,r,u,gh,.pass (x:=.inLoop c) rfl (fun _ _=>.inl (by simp)) q⟩
   |goto l=>exact⟨_,r,u,gh,.pass (x:=.inLoop c) rfl (fun _ _=>.inl (by simp)) q⟩
   |ret=>exact⟨_,r,u,gh,.pass (x:=.inLoop c) rfl (fun _ _=>.inl (by simp)) q⟩
   |panic Wj=>exact⟨_,r,u,gh,.pass (x:=.inLoop c) rfl (fun _ _=>.inl (by simp)) q⟩
   |outgrown=>exact⟨_,r,u,gh,.pass (x:=.inLoop c) rfl (fun _ _=>.inl (by simp)) q⟩
 obtain⟨e,fT,w',gh,q⟩:=key n a w h;exact⟨e,fT,w',gh,.of_steps (.one (fenced_calm y aT rfl) stepR_loop) q⟩
section
variable{P:Program}(hm:P.follows .mixedOrders=true){fR:Nat}{T:kO}(eR:T.pw P){E:Env}(bq:E.F=.not)(jT:mW P E)
include hm eR bq jT
theorem s0:∀(c:ad) (code:Code) {rd:Bool} {ro:Option Nat},(ro=none↔rd=false)→dr T fR rd c code=true→∀{κ:bi} {s:ag} {w:World} {ao:eL} {a:Act} {B:Nat} {k:qb→eL→ag→ah} {r:ah},r≠.fail→fE κ s w ao.get a fR B E.aw→exec E c ao s k=r→code.wpIn (wY ro) 0 P (ki κ s w fR B E.aw k r) a w:=by
 intro c
 induction c with
 |skip=>
  intro code rd ro A dg κ s w ao a B k r bB h aT;cases code<;> simp only[dr,bW] at dg
  ·exact wpIn_skip ⟨.norm,κ,s,ao,.norm,.refl _ _ _,h,aT⟩
  ·exact wpIn_label ⟨.norm,κ,s,ao,.norm,.refl _ _ _,h,aT⟩
 |region nc ap=>
  intro code rd ro A dg κ s w ao a B k r bB h aT;cases code with
  |region id ops d=>
   cases nc with
   |none=>
    cases d with
    |true=>simp [dr] at dg
    |false=>simp only[dr] at dg;simp only[exec] at aT;exact xk eR bq jT dg h bB aT (fun κ' s' w' ep fT he u dl=>⟨.norm,κ',s',ep,.norm,he,u,dl⟩) id
   |some nc=>
    cases nc with
    |cons x l=>simp [dr] at dg
    |nil=>
     cases d with
     |false=>simp [dr] at dg
     |true=>simp only[dr] at dg;simp only[exec,List.all_nil,b2] at aT;exact Ag eR bq jT hm dg h bB aT (fun κ' s' w' ep fT he u dl=>⟨.norm,κ',s',ep,.norm,he,u,dl⟩) id
  |_=>cases nc<;> simp [dr] at dg
 |seq x y I J=>
  intro code rd ro A dg κ s w ao a B k r bB h aT;cases code<;> simp only[dr,bW,bn] at dg;simp only[exec] at aT;refine wpIn_seq (wpIn_mono (I _ A dg.1 bB h aT) fun e fT w' fC=>?_);obtain⟨z,κ',s',ep,hC,he,u,dl⟩:=fC;cases hC with
  |norm=>exact wpIn_mono (J _ A dg.2 bB u dl) fun e aa ab fC=>fC.trans he
  |exit i=>exact⟨.exit i,κ',s',ep,.exit i,he,u,dl⟩
  |ret=>exact⟨.ret,κ',s',ep,.ret,he,u,dl⟩
 |mask m x F=>
  intro code rd ro A dg κ s w ao a B k r bB h aT;have ac:dr T fR rd x code=true:=by simpa only[dr] using dg
  simp only[exec] at aT;obtain⟨H,bK,K⟩:=qn aT;have ae:fE κ s w H.get a fR B E.aw:=⟨h.iR,fun t=>by
   rcases K t with q|q
   ·rw[q];exact h.ao t
   ·rw[q];exact .dead _,h.defers,h.size,h.aw⟩
  exact F code A ac bB ae bK
 |cond c x y I J=>
  intro code rd ro A dg κ s w ao a B k r bB h aT;cases code<;> simp only[dr,bW,bn] at dg;simp only[exec] at aT;have a3:=bp h.ao h.aw dg.1.1;cases bO:aq E.aw ao.get c<;> rw[bO] at aT a3<;> simp only at aT<;> first|exact absurd aT.symm bB|skip
  rename_i b;cases b with
  |true=>exact wpIn_cond_true (dF.gY (b:=true) a3) (I _ A dg.1.2 bB h aT)
  |false=>exact wpIn_cond_false (dF.gY (b:=false) a3) (J _ A dg.2 bB h aT)
 |block id c F=>
  intro code rd ro A dg κ s w ao a B k r bB h aT;cases code<;> simp only[dr,bW,bn] at dg;have e:=dk dg.1;subst e;simp only[exec] at aT;refine wpIn_block (wpIn_mono (F _ A dg.2 bB h aT) fun e fT w' fC=>?_);obtain⟨z,κ',s',ep,hC,he,u,dl⟩:=fC;cases hC with
  |norm=>exact⟨.norm,κ',s',ep,.norm,he,u,dl⟩
  |exit i=>
   simp only[Exit.inBlock];simp only[ek] at dl;split
   ·rename_i bX;rw[bX,gM,b2] at dl;exact⟨.norm,κ',s',ep,.norm,he,u,dl⟩
   ·rename_i bX;rw[show Nat.beq i id=false from by cases af:Nat.beq i id with
     |false=>rfl
     |true=>exact absurd (dk af) bX,cond_false] at dl
    exact⟨.exit i,κ',s',ep,.exit i,he,u,dl⟩
  |ret=>exact⟨.ret,κ',s',ep,.ret,he,u,dl⟩
 |loop bS c F=>
  intro code rd ro A dg κ s w ao a B k r bB h aT;cases code<;> simp only[dr,bW] at dg;simp only[exec] at aT;have masked:∀{κ':bi} {s':ag} {w':World} {ep H:eL} {fT:Act},fE κ' s' w' ep.get fT fR B E.aw→(∀t,H.get t=ep.get t∨H.get t=.dead)→fE κ' s' w' H.get fT fR B E.aw:=fun u K=>⟨u.iR,fun t=>by
   rcases K t with q|q
   ·rw[q];exact u.ao t
   ·rw[q];exact .dead _,u.defers,u.size,u.aw⟩
  obtain⟨ai,Y,aj⟩:=qn aT;obtain⟨N,pZ⟩:=jT.loop;rw[pZ] at Y;refine oZ (fun n fT w'=>∃κ' s' ep,fx κ s w κ' s' w'∧fE κ' s' w' ep.get fT fR B E.aw∧dV (exec E c) bS n ep s' k=r) (fun n fT w' ak=>?_) ⟨κ,s,ai,.refl _ _ _,masked h aj,Y⟩;obtain⟨κ',s',ep,he,u,bK⟩:=ak;cases n with
  |zero=>exact absurd bK.symm bB
  |succ n=>
   simp only[dV] at bK;refine wpIn_mono (F _ A dg bB u bK) fun e aa ab fC=>?_
   obtain⟨z,L,M,Z,hC,O,U,dl⟩:=fC;cases hC with
   |norm=>simp only[eU] at dl;obtain⟨H,al,am⟩:=qn dl;exact⟨n,Nat.lt_succ_self n,L,M,H,he.trans O,masked U am,al⟩
   |exit i=>exact⟨.exit i,L,M,Z,.exit i,he.trans O,U,dl⟩
   |ret=>exact⟨.ret,L,M,Z,.ret,he.trans O,U,dl⟩
 |exit id=>intro code rd ro A dg κ s w ao a B k r bB h aT;cases code<;> simp only[dr,bW] at dg;have e:=dk dg;subst e;exact wpIn_exit ⟨.exit id,κ,s,ao,.exit id,.refl _ _ _,h,aT⟩
 |scope c F=>
  intro code rd ro A dg κ s w ao a B k r bB h aT;cases code<;> simp only[dr,bW,bn,Bool.not_eq_true'] at dg;obtain⟨V,dg⟩:=dg;obtain rfl:=A.2 V;simp only[exec] at aT;refine wpIn_wide.2 (wp_scope_straight (wpIn_wide.1 (wpIn_mono (F _ A dg bB h aT) fun e fT w' fC=>?_)));obtain⟨z,κ',s',ep,hC,he,u,dl⟩:=fC;cases hC with
  |norm=>exact⟨.norm,κ',s',ep,.norm,he,u,dl⟩
  |exit i=>exact⟨.exit i,κ',s',ep,.exit i,he,u,dl⟩
  |ret=>exact⟨.ret,κ',s',ep,.ret,he,u,dl⟩
 |range j f g p x y I J=>intro code rd ro A dg κ s w ao a B k r bB h aT;cases code<;> simp only[dr,bW,bn,Bool.not_eq_true'] at dg;obtain⟨⟨⟨⟨⟨V,au⟩,az⟩,b3⟩,dJ⟩,an⟩:=dg;obtain rfl:=A.2 V;exact yE (eR.Da _ _ au) az b3 (fun l=>I _ (by simp) dJ) (fun l=>J _ (by simp) an) bB h aT
 |ret=>intro code rd ro A dg κ s w ao a B k r bB h aT;cases code<;> simp only[dr,bW] at dg;exact wpIn_ret ⟨.ret,κ,s,ao,.ret,.refl _ _ _,h,aT⟩
end
def jf(r:ah):Prop:=∀v s,r≠.panic v s
theorem jf.bind{r:ah}{k kp:af→ag→ah}(au:∀v s,jf (k v s))(az:∀v s,jf (kp v s)):jf (ah.bind r k kp):=by
 cases r with
 |fail=>intro v s h;cases h
 |ok v s=>exact au v s
 |panic v s=>exact az v s
theorem jf.fail:jf .fail:=fun _ _ h=>by cases h
theorem jf.iX:∀(d n:Nat) (v:af) (k:eL→ah) (ao:eL),(∀ao,jf (k ao))→jf (eL.iX d n v k ao)
 |0,n,v,k,ao,h=>jf.fail
 |d+1,n,v,k,.e,h=>by
  simp only[eL.iX];cases Nat.beq n 0
  ·cases Nat.beq (n%2) 1
   ·exact jf.iX d _ v _ _ (fun _=>h _)
   ·exact jf.iX d _ v _ _ (fun _=>h _)
  ·exact h _
 |d+1,n,v,k,.n l x r,h=>by
  simp only[eL.iX];cases Nat.beq n 0
  ·cases Nat.beq (n%2) 1
   ·exact jf.iX d _ v _ _ (fun _=>h _)
   ·exact jf.iX d _ v _ _ (fun _=>h _)
  ·exact h _
theorem jf.i5{ao:eL}{d:Option Nat}{v:af}{k:eL→ah}(h:∀ao,jf (k ao)):jf (i5 ao d v k):=by
 cases d with
 |none=>exact h ao
 |some n=>exact jf.iX 12 n v k ao h
theorem jf.fw{E:Env}(bq:E.F=.not):∀(q:List cT) {ao:eL} {s:ag} {fin:eL→ag→ah} {e:af→eL→ag→ah},(∀ao s,jf (fin ao s))→(∀v ao s,jf (e v ao s))→jf (fw E q ao s fin e)
 |[],_,_,_,_,h,_=>h _ _
 |o::os,ao,s,fin,e,h,fC=>by
  simp only[Ab.fw];have key:∀w:Bool,jf (bif w then aJ E ao.get s (fun v s=>Ab.i5 ao o.dst v fun ao=>Ab.fw E os ao s fin e) (fun v s=>e v ao s) o.op else Ab.i5 ao o.dst (.ea []) fun ao=>Ab.fw E os ao s fin e):=fun w=>by
   cases w with
   |false=>exact jf.i5 (fun ao=>jf.fw bq os h fC)
   |true=>simp only[b2];rw[ju bq];exact jf.bind (fun v s=>jf.i5 (fun ao=>jf.fw bq os h fC)) (fun v s=>fC _ _ _)
  unfold mn;split
  ·exact key _
  ·split
   ·exact key _
   ·exact key _
   ·exact jf.fail
theorem jf.g5{step:af→ag→(qb→ag→ah)→ah}{hN:ag}{dI:List af}(h:∀x s k,(∀e s,jf (k e s))→jf (step x s k)):∀(xs:List af) {s:ag} {k:qb→ag→ah},(∀e s,jf (k e s))→jf (Ab.g5 step hN dI xs s k)
 |[],_,_,dl=>dl _ _
 |x::xs,s,k,dl=>h x s _ fun e s=>by
  cases e with
  |norm=>
   simp only;cases dI.all (fY hN s) with
   |true=>exact jf.g5 h xs dl
   |false=>exact jf.fail
  |_=>exact dl _ _
theorem jf.exec{E:Env}(bq:E.F=.not)(oI:∃n,∀step bS ao s k,E.loop step bS ao s k=dV step bS n ao s k):∀(c:ad) {ao:eL} {s:ag} {k:qb→eL→ag→ah},(∀x ao s,jf (k x ao s))→jf (exec E c ao s k):=by
 intro c
 induction c with
 |skip=>exact fun h=>h _ _ _
 |region nc ops=>
  intro ao s k h;cases nc with
  |none=>exact jf.fw bq ops (fun _ _=>h _ _ _) (fun _ _ _=>jf.fail)
  |some nc=>
   simp only[Ab.exec];cases nc.all (qE E.aw ao.get)
   ·exact jf.fail
   ·exact jf.fw bq ops (fun _ _=>h _ _ _) (fun _ _ _=>jf.fail)
 |seq a b r u=>
  intro ao s k h;simp only[Ab.exec];refine r fun x ao s=>?_
  cases x with
  |norm=>exact u h
  |_=>exact h _ _ _
 |mask m a q=>intro ao s k h;simp only[Ab.exec];obtain⟨ep,e,_⟩:=hW m (fun ao=>Ab.exec E a ao s k) ao;rw[e];exact q h
 |cond c a b r u=>
  intro ao s k h;simp only[Ab.exec];split
  ·rename_i t _;cases t
   ·exact u h
   ·exact r h
  ·exact jf.fail
 |block id c q=>
  intro ao s k h;simp only[Ab.exec];refine q fun x ao s=>?_
  cases x with
  |exit j=>simp only[ek];cases Nat.beq j id<;> exact h _ _ _
  |_=>exact h _ _ _
 |loop bS c q=>
  intro ao s k h;simp only[Ab.exec];obtain⟨n,dp⟩:=oI;obtain⟨ep,e,a8⟩:=hW bS (fun ao=>E.loop (Ab.exec E c) bS ao s k) ao;rw[e];simp only[dp];clear dp e a8
  induction n generalizing ep s with
  |zero=>exact jf.fail
  |succ n y=>
   simp only[dV];refine q fun x ao s=>?_
   cases x with
   |norm=>simp only[eU];obtain⟨ep,e,_⟩:=hW bS (fun ao=>dV (Ab.exec E c) bS n ao s k) ao;rw[e];exact y (s:=s) (ep:=ep)
   |_=>exact h _ _ _
 |exit id=>exact fun h=>h _ _ _
 |scope c q=>intro ao s k h;simp only[Ab.exec];exact q h
 |ret=>exact fun h=>h _ _ _
 |range j f g p a b r u=>
  intro ao s k h;simp only[Ab.exec];unfold nY;split
  ·cases Nat.beq _ _ with
   |false=>exact jf.fail
   |true=>
    simp only[b2];split
    ·exact jf.g5 (fun x s lN dl=>jf.i5 fun ao=>r fun x ao s=>by
      cases x with
      |norm=>exact u (fun _ _ _=>dl _ _)
      |_=>exact jf.fail) _ (fun _ _=>h _ _ _)
    ·exact jf.fail
  ·exact jf.fail
theorem jf.b0:∀(vs:List af) (i:Nat) (ao:eL) (k:eL→ah),(∀ao,jf (k ao))→jf (b0 vs i ao k)
 |[],_,ao,_,h=>h ao
 |v::vs,i,ao,k,h=>jf.iX 12 i v _ ao (fun ao=>jf.b0 vs (i+1) ao k h)
theorem jf.finish{fn:c0}{ao:eL}{s:ag}:jf (finish .not fn ao s):=by
 intro v s' h;simp only[Ab.finish,aW.not] at h;split at h
 ·split at h
  ·cases h
  ·split at h
   ·split at h<;> cases h
   ·cases h
 ·cases h
theorem jf.call{T:Nat→Option c0}{G:Nat→af}{X:Nat→List af→ag→ah}(kM:∀f args s,jf (X f args s)):∀(n f:Nat) (args:List af) (s:ag),jf (call .not T G X n f args s)
 |0,_,_,_=>jf.fail
 |n+1,f,args,s=>by
  simp only[Ab.call];split
  ·exact kM _ _ _
  ·cases Nat.beq _ _
   ·exact jf.fail
   ·refine jf.b0 _ _ _ _ fun ao=>jf.exec rfl ⟨_,fun _ _ _ _ _=>rfl⟩ _ fun x ao s=>?_
    cases x with
    |norm=>exact jf.finish
    |ret=>exact jf.finish
    |_=>exact jf.fail
theorem n9{k:eL→ah}{r:ah}(bB:r≠.fail):∀(vs:List af) (i:Nat) (ao:eL),b0 vs i ao k=r→∃ep,k ep=r∧∀t,ep.get t=if i≤t∧t<i+vs.length then vs.getD (t-i) .dead else ao.get t
 |[],i,ao,h=>⟨ao,h,fun t=>by rw[if_neg (by rw[cy];omega)]⟩
 |v::vs,i,ao,h=>by
  obtain⟨A,au,az⟩:=kh 12 i v _ ao r h bB;obtain⟨ep,b3,dJ⟩:=n9 bB vs (i+1) A au;refine⟨ep,b3,fun t=>?_⟩;rw[dJ t];by_cases eh:t=i
  ·subst eh;rw[if_neg (by omega),az,if_pos rfl,if_pos (by simp)];simp
  ·by_cases a3:i+1≤t∧t<i+1+vs.length
   ·rw[if_pos a3,if_pos (by simp;omega),show t-i=(t-(i+1))+1 by omega];simp
   ·rw[if_neg a3,az,if_neg eh,if_neg (by simp;omega)]
theorem k2{α β:Type}{f:α→Option β}:∀{xs:List α} {e:List β},fs f xs=some e→e.length=xs.length∧∀(j:Nat) (y:β),e[j]? =some y→∃x,xs[j]? =some x∧f x=some y
 |[],e,h=>by simp only[fs,bj] at h;subst h;exact⟨rfl,fun j y df=>by simp at df⟩
 |x::xs,e,h=>by
  simp only[fs] at h;cases a8:f x with
  |none=>rw[a8] at h;cases h
  |some y=>
   rw[a8] at h;simp only[f6] at h;cases hm:fs f xs with
   |none=>rw[hm] at h;cases h
   |some l=>
    rw[hm] at h;simp only[ew,bj] at h;subst h;obtain⟨au,az⟩:=k2 hm;refine⟨by simp [au],fun j z df=>?_⟩;cases j with
    |zero=>simp at df;subst df;exact⟨x,rfl,a8⟩
    |succ j=>simpa using az j z (by simpa using df)
theorem o0{P:Program}{w:World}{α β:Type}(f:α→Sem β):∀(e:List α) (xs:List β),xs.length=e.length→(∀(j:Nat) (r:α) (x:β),e[j]? =some r→xs[j]? =some x→(f r).run P w=.ok x w)→(e.mapM f).run P w=.ok xs w
 |[],[],_,_=>by simp
 |[],_::_,h,_=>by simp at h
 |_::_,[],h,_=>by simp at h
 |r::e,x::xs,h,df=>by have au:=df 0 r x rfl rfl;have az:=o0 f e xs (by simpa using h) (fun j r x aT a8=>df (j+1) r x (by simpa using aT) (by simpa using a8));simp [List.mapM_cons,au,az]
section
variable{P:Program}{κ:bi}{s:ag}{w:World}
theorem c3.gr(a6:c3 κ s w):∀n,n≤s.own.length→∃κ' s',c3 κ' s' w∧fx κ s w κ' s' w∧s'.up=s.up∧s'.ro=s.ro∧s'.own.length=s.own.length∧(∀i,n≤i→s'.own[i]? =s.own[i]?)∧κ'.loc=κ.loc∧
  ∀i cs,i<n→s.own[i]? =some (.cells cs)→∃C:Array Value,(∀j (h:j<C.size),κ'.F ⟨κ.loc s.aa i,j,none⟩=some C[j])∧er κ' (s.aa+1) cs (C.toList.take cs.length)
 |0,_=>⟨κ,s,a6,.refl _ _ _,rfl,rfl,rfl,fun _ _=>rfl,rfl,fun i cs h=>absurd h (Nat.not_lt_zero i)⟩
 |n+1,dp=>by
  obtain⟨κ',s',au,az,b3,dJ,I,y,A,J⟩:=a6.gr n (by omega);have cS:s'.aa=s.aa:=az.aa;by_cases a3:∃cs,s.own[n]? =some (.cells cs)
  ·obtain⟨cs,K⟩:=a3;have cC:s'.get (.g s'.aa n)=some (.cells cs):=by
    simp only[ag.get,↓reduceIte];rw[y n (aC _),K]
   obtain⟨C,e,i7,N,B,L,r⟩:=au.uu (s':={s' with own:=s'.own.set n .gone}) cC (by simp [ag.set]);refine⟨_,_,L,az.trans r,b3,dJ,by simp [I],fun i bX=>?_,A,fun i u bX q=>?_⟩
   ·simp only;rw[ns (by omega),y i (by omega)]
   ·by_cases H:i=n
    ·subst H;rw[K] at q;simp only[bj,du.cells.injEq] at q;subst q;refine⟨C,fun j df=>?_,?_⟩
     ·rw[←A,←cS];exact n0 (Nat.zero_le _) df
     ·rw[cS] at B;exact⟨B.1,fun j c x a3 a8=>(B.2 j c x a3 a8).mono (r.k.low (by omega))⟩
    ·obtain⟨M,pE,qO⟩:=J i u (by omega) q;exact⟨M,fun j df=>r.k.F _ _ (pE j df),qO.1,fun j c x a3 a8=>(qO.2 j c x a3 a8).mono (r.k.low (by omega))⟩
  ·refine⟨κ',s',au,az,b3,dJ,I,fun i bX=>y i (by omega),A,fun i u bX q=>?_⟩;by_cases H:i=n
   ·subst H;exact absurd ⟨u,q⟩ a3
   ·exact J i u (by omega) q
theorem xl{D off len cap sz b:Nat}{cs:List af}{C:Array Value}(h9:∀j (h:j<C.size),κ.F ⟨b,j,none⟩=some C[j])(bO:er κ D cs (C.toList.take cs.length)){lS:Nat}(tC:len≤lS)(qh:len=cap→lS=cap)(au:af.aY (chunk sz len (cs.drop off))=true)(az:off+len*sz≤cs.length)(hC:sz≠0)(r:Nat):
  dF κ r (.bG sz (chunk sz len (cs.drop off)) (if len=cap then .exact else .any)) (.slice (some ⟨b,off,none⟩) len lS):=by
 obtain⟨u,A⟩:=kv sz hC len (cs.drop off) (by simp;omega);have bK:cs.length≤C.size:=by have:=bO.1;simp at this;omega
 have key:dF κ D (.bG sz (chunk sz len (cs.drop off)) (if len=cap then fi.exact else fi.any)) (.slice (some ⟨b,off,none⟩) (chunk sz len (cs.drop off)).length lS):=by
  refine .bG sz _ _ _ _ (fun j=>C.getD (off+j) undef) ?_ (by rw[fr];exact tC) (fun _=>rfl) A (.inl fun e he=>ej.1 au e he) (fun j df=>?_) (fun j c a3=>?_)
  ·by_cases h:len=cap
   ·simp [h,iF,fr,qh h]
   ·simp [h,iF]
  ·rw[u] at df;simp at df;have q:off+j<C.size:=by omega
   rw[fZ rfl];show κ.F ⟨b,off+j,none⟩=_;rw[h9 _ q];simp [Array.getD,q]
  ·rw[u,List.getElem?_take] at a3;split at a3
   ·rw[List.getElem?_drop] at a3;obtain⟨y,eT,B⟩:=bO.get a3;have q:off+j<cs.length:=(ey.1 a3).1
    have:C.getD (off+j) undef=y:=by
     rw[List.getElem?_take,if_pos q] at eT;have H:C[off+j]? =some y:=by simpa using eT
     simp [Array.getD_eq_getD_getElem?,H]
    rw[this];exact B
   ·cases a3
 rw[fr] at key;refine key.bd ?_ r (fun _ _ h=>h);split<;> rfl
theorem kx{κ':bi}(dl:gS κ κ' (s.aa+1))(K:∀i cs,s.own[i]? =some (.cells cs)→∃C:Array Value,(∀j (h:j<C.size),κ'.F ⟨κ.loc s.aa i,j,none⟩=some C[j])∧er κ' (s.aa+1) cs (C.toList.take cs.length)){v fG:af}{x:Value}(bO:dF κ (s.aa+1) (v.ap s.aa) x)(h:gp s v=some fG):dF κ' s.aa fG x:=by
 have own:∀{i off len cap sz:Nat},dF κ (s.aa+1) (.cZ (.g s.aa i) off len cap sz) x→gr s i off len cap sz=some fG→dF κ' s.aa fG x:=fun {i off len cap sz} bO h=>by
  obtain⟨lS,e,cS,bX,tC,uL⟩:=bO.jU;unfold Ab.gr at h;split at h
  ·rename_i cs L;simp only at h;split at h
   ·rename_i u;simp only[bn,Bool.not_eq_true'] at u;simp only[bj] at h;subst h;obtain⟨C,pE,qO⟩:=K i cs L;rw[e];exact xl pE qO tC (fun h=>by rcases uL with au|⟨au,az,_⟩<;> omega) u.1.1 (d0 u.1.2) (fun eZ=>by rw[eZ] at u;simp at u) _
   ·cases h
  ·cases h
 have any:∀{sz:Nat} {es:List af} {l:Loc},af.aY es=true→dF κ (s.aa+1) (af.ap s.aa (.bG sz es (.dB l))) x→dF κ' s.aa (.bG sz es .any) x:=fun {sz es l} y bO=>by
  have J:=ej.1 y;simp only[af.ap] at bO;rcases bO.hG with⟨_,az,_⟩|⟨a,cap,dw,rfl,cC,dp,H,dJ,r,I,A⟩
  ·simp [fi.ap] at az
  ·refine .bG _ _ _ _ _ dw trivial dp H dJ (.inl J) (fun j df=>dl.F _ _ (I j df)) (fun j c a3=>(A j c a3).bd ?_ _ dl.F);obtain⟨e,he,B⟩:=List.mem_flatMap.1 (List.mem_of_getElem? a3);exact ia (J e he) B
 unfold gp at h;split at h
 ·exact own bO h
 ·split at h
  ·rename_i cS;subst cS;exact own bO h
  ·split at h
   ·rename_i q;simp only[bj] at h;subst h;obtain⟨lS,e,cS,bX,tC,uL⟩:=dF.jU bO;rw[e,←dl.loc _ _ cS bX];exact .cZ _ _ _ _ _ _ _ q (f8 bX (dl.n _ cS)) tC (uL.imp id fun⟨au,az,b3,dJ⟩=>⟨au,az,b3,by rw[dl.loc _ _ cS bX];exact dl.lD _ _ _ _ cS bX dJ⟩)
   ·cases h
 ·split at h
  ·rename_i q;simp only[bj] at h;subst h;obtain⟨e,cS,bX⟩:=dF.mz bO;rw[e,←dl.loc _ _ cS bX];exact .ref _ _ _ q (f8 bX (dl.n _ cS))
  ·cases h
 ·split at h
  ·rename_i y;simp only[bj] at h;subst h;exact any y bO
  ·cases h
 ·split at h
  ·rename_i q;simp only[bj] at h;subst h;have bO:dF κ (s.aa+1) (.bG _ _ (.dB (.g _ _))) x:=bO;rcases bO.hG with⟨_,az,_⟩|⟨a,cap,dw,rfl,cC,dp,H,dJ,r,I,A⟩
   ·cases az
   ·refine .bG _ _ _ _ _ dw ⟨q,(cC.mono dl).2⟩ dp H dJ r (fun j df=>dl.F _ _ (I j df)) (fun j c a3=>?_);obtain⟨e,he,B⟩:=List.mem_flatMap.1 (List.mem_of_getElem? a3);rcases r with r|⟨fL,hI,hZ,r⟩
    ·exact(A j c a3).bd (ia (r e he) B) _ dl.F
    ·cases hZ;exact(((A j c a3).mono dl).lower (uq (r e he) B)).up q
  ·split at h
   ·rename_i y;simp only[bj] at h;subst h;exact any y bO
   ·cases h
 ·split at h
  ·rename_i q;simp only[bj] at h;subst h;have bO:dF κ (s.aa+1) (.map (.g _ _)) x:=bO;cases bO;rename_i cS bX;rw[←dl.loc _ _ cS bX];exact .map _ _ q (f8 bX (dl.n _ cS))
  ·cases h
 ·split at h
  ·rename_i aT;simp only[bj] at h;subst h;have bO:dF κ (s.aa+1) (.fn _ _) x:=bO;exact bO.bd (by simpa [af.bd] using aT) _ dl.F
  ·split at h
   ·rename_i aT;simp only[bn,Nat.blt_eq] at aT;simp only[bj] at h;subst h;have bO:dF κ (s.aa+1) (.fn _ _) x:=bO
    have:=((bO.mono dl).lower (d:=s.aa-1) (by simpa [af.low] using aT.2));rw[show s.aa-1+1=s.aa by omega] at this;exact this
   ·cases h
 ·split at h
  ·rename_i aT;simp only[bj] at h;subst h;rw[js aT] at bO;exact bO.bd aT _ dl.F
  ·cases h
theorem rj{α β:Type}{f:α→Option β}:∀{l m:List α} {l' jt:List β},fs f l=some l'→fs f m=some jt→fs f (l++m)=some (l'++jt)
 |[],m,l',jt,h,e=>by simp only[fs,bj] at h;subst h;exact e
 |x::l,m,l',jt,h,e=>by
  simp only[fs] at h;cases a8:f x with
  |none=>rw[a8] at h;cases h
  |some y=>
   rw[a8,f6] at h;cases bK:fs f l with
   |none=>rw[bK] at h;cases h
   |some q=>rw[bK] at h;simp only[ew,bj] at h;subst h;simp only[List.cons_append,fs,a8,f6,rj bK e,ew]
theorem u4{v fG:af}(h:gp s v=some fG)(bO:v.cells=[v]):fG.cells=[fG]:=by
 have ao:∀{i off len cap sz:Nat},gr s i off len cap sz=some fG→fG.cells=[fG]:=fun {i off len cap sz} h=>by
  unfold Ab.gr at h;split at h
  ·simp only at h;split at h
   ·simp only[bj] at h;subst h;rfl
   ·cases h
  ·cases h
 unfold gp at h;split at h
 ·exact ao h
 ·split at h
  ·exact ao h
  ·split at h
   ·simp only[bj] at h;subst h;rfl
   ·cases h
 ·split at h
  ·simp only[bj] at h;subst h;rfl
  ·cases h
 ·split at h
  ·simp only[bj] at h;subst h;rfl
  ·cases h
 ·split at h
  ·simp only[bj] at h;subst h;rfl
  ·split at h
   ·simp only[bj] at h;subst h;rfl
   ·cases h
 ·split at h
  ·simp only[bj] at h;subst h;rfl
  ·cases h
 ·split at h
  ·simp only[bj] at h;subst h;rfl
  ·split at h
   ·simp only[bj] at h;subst h;rfl
   ·cases h
 ·split at h
  ·simp only[bj] at h;subst h;exact bO
  ·cases h
theorem o1{e hZ:af}(h:nt s e=some hZ):fs (gp s) e.cells=some hZ.cells:=by
 unfold nt at h;split at h
 ·rename_i cs;obtain⟨l,au,az⟩:=Option.map_eq_some_iff.1 h;subst az;exact au
 ·rename_i dp;have a3:e.cells=[e]:=by
   cases e<;> first|rfl |exact absurd rfl (dp _)
  rw[a3,u4 h a3];simp only[fs,h,f6,ew]
theorem oD:∀{es q:List af},fs (nt s) es=some q→fs (gp s) (es.flatMap af.cells)=some (q.flatMap af.cells)
 |[],q,h=>by simp only[fs,bj] at h;subst h;rfl
 |e::es,q,h=>by
  simp only[fs] at h;cases he:nt s e with
  |none=>rw[he] at h;cases h
  |some hZ=>
   rw[he,f6] at h;cases bK:fs (nt s) es with
   |none=>rw[bK] at h;cases h
   |some l=>rw[bK] at h;simp only[ew,bj] at h;subst h;simp only[List.flatMap_cons];exact rj (o1 he) (oD bK)
theorem o2{κ':bi}(dl:gS κ κ' (s.aa+1))(q:∀i cs,s.own[i]? =some (.cells cs)→∃C:Array Value,(∀j (h:j<C.size),κ'.F ⟨κ.loc s.aa i,j,none⟩=some C[j])∧er κ' (s.aa+1) cs (C.toList.take cs.length)){v fG:af}{x:Value}(bO:dF κ (s.aa+1) (v.ap s.aa) x)(h:ef s v=some fG):dF κ' s.aa fG x:=by
 have y:∀{sz:Nat} {es:List af} {l:Loc},v=.bG sz es (.dB l)→(af.aY es=true→gp s v=some (.bG sz es .any))→jR s sz es=some fG→dF κ' s.aa fG x:=fun {sz es l} A eZ h=>by
  unfold jR at h;split at h
  ·rename_i aT;simp only[bj] at h;subst h;exact kx dl q bO (eZ aT)
  ·obtain⟨B,au,az⟩:=Option.bind_eq_some_iff.1 h;split at az
   ·rename_i aT;simp only[bj] at az;subst az;subst A;simp only[af.ap] at bO;rcases bO.hG with⟨_,b3,_⟩|⟨a,cap,dw,rfl,cC,dp,H,dJ,V,I,J⟩
    ·simp [fi.ap] at b3
    ·have hm:=oD au;obtain⟨dU,K⟩:=k2 au;obtain⟨L,M⟩:=k2 hm;rw[←dU];refine .bG sz B .any a cap dw trivial (by rw[dU];exact dp) (fun fe=>H (fun eZ=>fe (kQ (by rw[dU,eZ];rfl)))) (fun e he=>?_) (.inl fun e he=>ej.1 aT e he) (fun j df=>dl.F _ _ (I j (by rw[←L];exact df))) (fun j c a3=>?_)
     ·obtain⟨j,df⟩:=List.getElem?_of_mem he;obtain⟨oG,N,r⟩:=K j e df
      have:=o1 r;rw[(k2 this).1];exact dJ oG (List.mem_of_getElem? N)
     ·obtain⟨O,U,r⟩:=M j c a3
      have:=J j O U;exact kx dl q (by rw[this.ld];exact this) r
   ·cases az
 unfold ef at h;split at h
 ·rename_i sz es i;exact y rfl (fun aT=>by simp only[gp,aT,↓reduceIte]) h
 ·rename_i sz es d i;split at h
  ·rename_i u;exact kx dl q bO (by simp only[gp,u,↓reduceIte];exact h)
  ·rename_i u;exact y rfl (fun aT=>by simp only[gp,u,aT,↓reduceIte]) h
 ·exact kx dl q bO h
theorem xm{κ':bi}(dl:gS κ κ' (s.aa+1))(e:∀i cs,s.own[i]? =some (.cells cs)→∃C:Array Value,(∀j (h:j<C.size),κ'.F ⟨κ.loc s.aa i,j,none⟩=some C[j])∧er κ' (s.aa+1) cs (C.toList.take cs.length)){v fG:af}{x:Value}(bO:dF κ (s.aa+1) (v.ap s.aa) x)(h:freeze s v=some fG):dF κ' s.aa fG x:=by
 unfold freeze at h;split at h
 ·rename_i cs;cases hm:fs (ef s) cs with
  |none=>rw[hm] at h;cases h
  |some l=>
   rw[hm] at h;simp only[ew,bj] at h;subst h;obtain⟨xs,rfl,bK,a8⟩:=dF.my (cs:=cs) bO;obtain⟨au,az⟩:=k2 hm;refine .agg l xs (by rw[bK,au]) (fun j c y a3 eT=>?_);obtain⟨q,r,u⟩:=az j c a3
   have:=a8 j q y r eT;exact o2 dl e (by rw[this.ld];exact this) u
 ·exact o2 dl e bO h
def qo(T:kO):sI→ResultVar→Bool
 |.t n,.tmp m=>Nat.beq n m
 |.cell a n,.cell b ty=>Nat.beq a b&&T.load ty n
 |_,_=>false
def lZ(T:kO):List sI→List ResultVar→Bool
 |[],[]=>true
 |a::as,b::fc=>qo T a b&&lZ T as fc
 |_,_=>false
theorem p0{T:kO}:∀{as:List sI} {fc:List ResultVar},lZ T as fc=true→as.length=fc.length∧∀(j:Nat) (a:sI) (b:ResultVar),as[j]? =some a→fc[j]? =some b→qo T a b=true
 |[],[],_=>⟨rfl,fun j a b h=>by simp at h⟩
 |[],_::_,h=>by simp [lZ] at h
 |_::_,[],h=>by simp [lZ] at h
 |a::as,b::fc,h=>by
  simp only[lZ,bn] at h;obtain⟨au,az⟩:=p0 h.2;refine⟨by simp [au],fun j fT r e q=>?_⟩;cases j with
  |zero=>simp at e q;subst e;subst q;exact h.1
  |succ j=>exact az j fT r (by simpa using e) (by simpa using q)
theorem Dj{T:kO}(eR:T.pw P){fR:Nat}{B:Nat}{G:Nat→af}{ao:eL}{a:Act}(h:fE κ s w ao.get a fR B G){q:sI}{b:ResultVar}(dg:qo T q b=true){v:af}(bO:qH ao s q=some v):
  ∃x,(∀f:ResultVar→Sem Value,(∀t,f (.tmp t)=Pure.pure (a.tmps.getD t undef))→(∀t ty,f (.cell t ty)=(do loadVar ty (←asAddr (a.tmps.getD t undef)):Sem Value))→(f b).run P w=.ok x w)∧dF κ (s.aa+1) (v.ap s.aa) x:=by
 cases q with
 |t n=>
  cases b with
  |cell t ty=>simp [qo] at dg
  |tmp m=>
   simp only[qo] at dg
   have:=dk dg;subst this;simp only[qH,bj] at bO;subst bO;exact⟨_,fun f au _=>by rw[au];simp,h.ao n⟩
 |cell t n=>
  cases b with
  |tmp m=>simp [qo] at dg
  |cell m ty=>
   simp only[qo,bn] at dg
   have:=dk dg.1;subst this;have a8:=h.ao t;simp only[qH] at bO;split at bO
   ·rename_i Pw off A;rw[A] at a8;simp only[af.ap] at a8;rw[←ag.hT] at bO;cases fC:Pw.ap s.aa with
    |l i=>cases Pw<;> simp [Loc.ap] at fC
    |g d i=>
     rw[fC] at a8 bO;obtain⟨e,cS,bX⟩:=a8.mz;have key:∀cs,s.get (.g d i)=some (.cells cs)→eV {F:=.not,aw:=G,call:=fun _ _ _=>.fail,loop:=fun _ _ _ _ _=>.fail} s .ok n (cs.drop off)=.ok v s→∃x,(∀f:ResultVar→Sem Value,(∀t,f (.tmp t)=Pure.pure (a.tmps.getD t undef))→(∀t ty,f (.cell t ty)=(do loadVar ty (←asAddr (a.tmps.getD t undef)):Sem Value))→(f (.cell t ty)).run P w=.ok x w)∧dF κ (s.aa+1) (v.ap s.aa) x:=fun cs cC bK=>by obtain⟨v1,x,r,H,u⟩:=sq (P:=P) (sn (n2 h.iR cC off) (show d+1≤s.aa+1 by omega)) (eR.load dg.2) rfl bK (by simp);simp only[ah.ok.injEq] at r;obtain⟨rfl,_⟩:=r;refine⟨x,fun f _ az=>?_,by rw[u.ld];exact u⟩;rw[az,e];simp [asAddr,H]
     split at bO
     ·rename_i cs cC;refine key cs cC ?_;simp only[eV,aW.not];cases y:cs.drop off with
      |nil=>
       have:(cs.drop off)[0]? =some v:=by rw[List.getElem?_drop];simpa using bO
       rw[y] at this;cases this
      |cons c l=>
       have:(cs.drop off)[0]? =some v:=by rw[List.getElem?_drop];simpa using bO
       rw[y] at this;simp only[List.getElem?_cons_zero,bj] at this;subst this;rfl
     ·rename_i cs m cC;split at bO
      ·rename_i hle;simp only[bj] at bO;subst bO;refine key cs cC ?_
       have:=d0 hle;have I:Nat.ble m (cs.drop off).length=true:=by rw[Nat.ble_eq];simp;omega
       simp only[eV,aW.not,I,b2]
      ·cases bO
     ·cases bO
   ·cases bO
end
def u5(T:kO)(e:c0)(fn:Func):Bool:=
 match fn.body with
 |some c=> !(fn.name== "runtime.NumGoroutine")&&Nat.beq e.fR fn.ntmps&&Nat.ble e.abg fn.ntmps&&lZ T e.results fn.results.toList&&dr T e.fR false e.body c
 |none=>false
def Dk(P:Program)(T:kO)(rk:Nat→Option c0):Prop:=∀f e,rk f=some e→∃fn,P.funcs[f]? =some fn∧u5 T e fn=true
structure WH (P:Program) (rk:Nat→Option c0) (G:Nat→af) (X:Nat→List af→ag→ah):Prop where
 nB:∀f args s,jf (X f args s)
 ok:∀f args s v s' κ w xs,rk f=none→X f args s=.ok v s'→c3 κ s w→km κ G→er κ (s.aa+1) args xs→
  (∃x w',(callFunc f xs.toArray).run P w=.ok (.value x) w'∧mA κ s w v s' x w')∨
  ((callFunc f xs.toArray).run P w=.ok (.enter f xs.toArray) w∧Calls P f xs.toArray w fun e w'=>∃x,e=.returned x∧mA κ s w v s' x w')
structure FH (oB:List Nat) (w w':World):Prop where
 size:w'.heap.size=w.heap.size
 os:w'.os=w.os
 tape:w'.tape=w.tape
 output:w'.output=w.output
 same:∀b,b ∉ oB→w'.heap[b]? =w.heap[b]?
theorem k3{P:Program}{fn:Func}{tmps:Array Value}{R:Ending→World→Prop}:∀(oB:List Nat) (w:World),oB.Nodup→(∀D,D∈oB→w.heap[D]? =some (.deferred (some [])))→(∀w',FH oB w w'→∃y,(results fn tmps).run P w'=.ok y w'∧R (.returned y) w')→
  LeavesInM Fence.wide 0 P fn tmps R (oB.map fun D=>{target:=.collected D,args:= #[]}) .returning w
 |[],w,_,_,h=>by obtain⟨y,au,az⟩:=h w ⟨rfl,rfl,rfl,rfl,fun _ _=>rfl⟩;exact⟨y,au,az⟩
 |D::oB,w,dp,cS,h=>by
  obtain⟨u,A⟩:=List.nodup_cons.1 dp;have B:=cS D List.mem_cons_self;refine⟨by simp,.inl ⟨D,_,rfl,run_takeDeferred B,k3 oB _ A (fun F q=>?_) (fun w' hw=>h w' ?_)⟩⟩
  ·rw[World.putObj_heap_other (fun e=>by subst e;exact u q)];exact cS F (List.mem_cons_of_mem _ q)
  ·refine⟨hw.size.trans World.putObj_size,hw.os,hw.tape,hw.output,fun b r=>?_⟩;rw[hw.same b (fun hm=>r (List.mem_cons_of_mem _ hm)),World.putObj_heap_other (fun e=>by subst e;exact r List.mem_cons_self)]
theorem fE.shut{κ:bi}{s:ag}{w w':World}{g:Nat→af}{a:Act}{fR B:Nat}{G:Nat→af}(h:fE κ s w g a fR B G){oB:List Nat}(q:∀D,D∈oB→w.heap[D]? =some (.deferred (some [])))(hw:FH oB w w'):fE κ s w' g {a with defers:=[]} fR 0 G:=
 ⟨h.iR.heap fun b o au az=>by rw[hw.same b,au];intro hm;rw[q b hm] at au;cases au;rcases az with⟨C,e,i7,az⟩|⟨fm,clock,az⟩<;> (cases az),h.ao,Marks.nil (Nat.zero_le _),h.size,h.aw⟩
theorem fx.shut{κ κ':bi}{s s':ag}{w w' e:World}(h:fx κ s w κ' s' w'){oB:List Nat}(q:∀D,D∈oB→w.heap.size≤D)(hw:FH oB w' e):fx κ s w κ' s' e:=
 ⟨h.k,h.aa,by rw[hw.size];exact h.size,hw.os.trans h.os,hw.tape.trans h.tape,hw.output.trans h.output,fun b r bK=>by rw[hw.same b (fun hm=>by have:=q b hm;omega)];exact h.kU b r bK,h.live,h.oN⟩
theorem o3{P:Program}{f:FuncId}{fn:Func}{c:Code}{args:Array Value}{w:World}{R:Ending→World→Prop}{κ:bi}{s:ag}{fR:Nat}{G:Nat→af}{k:qb→eL→ag→ah}{r:ah}(bB:P.funcs[f]? =some fn)(u:fn.body=some c)
  (h:c.wpIn (wY none) 0 P (ki κ s w fR w.heap.size G k r) {tmps:=args++Array.replicate (fn.ntmps-args.size) undef,defers:=[]} w)
  (A:∀(x:qb) (κ':bi) (s':ag) (ep:eL) (fT:Act) (w':World),fx κ s w κ' s' w'→fE κ' s' w' ep.get fT fR 0 G→k x ep s'=r→(x=.norm∨x=.ret)∧∃y,(results fn fT.tmps).run P w'=.ok y w'∧R (.returned y) w')
  (kM:∀i ep s',k (.exit i) ep s'≠r):Calls P f args w R:=by
 refine(callsIn_wide (n:=0)).1 (callsIn_of_wp_marks bB u trivial (wpIn_mono h ?_))
 rintro e fT w' ⟨x,κ',s',ep,a8,he,aT,dl⟩
 have key:LeavesInM Fence.wide 0 P fn fT.tmps R fT.defers .returning w':=by
  obtain⟨eZ,oB,au,az,b3⟩:=aT.defers;rw[au];refine k3 oB w' az (fun D q=>(b3 D q).2) fun B hw=>?_
  exact(A x κ' s' ep {fT with defers:=[]} B (he.shut (fun D q=>(b3 D q).1) hw) (aT.shut (fun D q=>(b3 D q).2) hw) dl).2
 cases a8 with
 |norm=>exact key
 |ret=>exact key
 |exit i=>exact absurd dl (kM _ _ _)
section
variable{P:Program}{κ:bi}{s:ag}{w:World}
theorem u6{κ:bi}{D:Nat}{vs:List af}{xs:List Value}(h:er κ D vs xs):dF κ D (sJ vs) (if h:xs.toArray.size=1 then xs.toArray[0] else .tuple xs.toArray):=by
 match vs,xs,h with
 |[v],[x],h=>exact h.2 0 v x rfl rfl
 |[],xs,h=>have:xs=[]:=kQ h.1;subst this;exact .ea [] [] rfl (fun j c x a3=>by simp at a3)
 |v::v2::vs,xs,h=>
  have bK:xs.length=vs.length+2:=by rw[h.1];rfl
  rw[dif_neg (by simp;omega)];exact .ea _ xs h.1 h.2
 |[v],[],h=>exact absurd h.1 (by simp)
 |[v],_::_::_,h=>exact absurd h.1 (by simp)
theorem p1{T:kO}(eR:T.pw P){fR:Nat}{B:Nat}{G:Nat→af}{ao:eL}{a:Act}(h:fE κ s w ao.get a fR B G){u:c0}{fn:Func}(dg:lZ T u.results fn.results.toList=true){vs:List af}(K:fs (qH ao s) u.results=some vs):
  ∃xs:List Value,(results fn a.tmps).run P w=.ok (if h:xs.toArray.size=1 then xs.toArray[0] else .tuple xs.toArray) w∧er κ (s.aa+1) (vs.map (af.ap s.aa)) xs:=by
 obtain⟨F,L⟩:=k2 K;obtain⟨H,M⟩:=p0 dg;have I:∀(j:Nat) (b:ResultVar),fn.results.toList[j]? =some b→∃x,(∀f:ResultVar→Sem Value,(∀t,f (.tmp t)=Pure.pure (a.tmps.getD t undef))→(∀t ty,f (.cell t ty)=(do loadVar ty (←asAddr (a.tmps.getD t undef)):Sem Value))→(f b).run P w=.ok x w)∧∀v,vs[j]? =some v→dF κ (s.aa+1) (v.ap s.aa) x:=fun j b e=>by
  have df:=(ey.1 e).1;have N:j<u.results.length:=by rw[H];exact df
  have J:j<vs.length:=by rw[F];exact N
  obtain⟨O,dU,U⟩:=L j vs[j] (eP J);obtain⟨x,V,Y⟩:=Dj eR h (M j O b dU e) U;refine⟨x,V,fun v bO=>?_⟩;rw[eP J] at bO;simp only[bj] at bO;subst bO;exact Y
 have f0:∃xs:List Value,xs.length=fn.results.toList.length∧∀(j:Nat) (b:ResultVar) (x:Value),fn.results.toList[j]? =some b→xs[j]? =some x→(∀f:ResultVar→Sem Value,(∀t,f (.tmp t)=Pure.pure (a.tmps.getD t undef))→(∀t ty,f (.cell t ty)=(do loadVar ty (←asAddr (a.tmps.getD t undef)):Sem Value))→(f b).run P w=.ok x w)∧∀v,vs[j]? =some v→dF κ (s.aa+1) (v.ap s.aa) x:=by
  refine⟨(List.range fn.results.toList.length).map fun j=>if df:j<fn.results.toList.length then Classical.choose (I j _ (eP df)) else undef,by simp,fun j b x e a8=>?_⟩;have df:=(ey.1 e).1;have Z:fn.results.toList[j]=b:=(ey.1 e).2;simp only[hy,List.getElem?_range df,ew,bj] at a8;rw[dif_pos df] at a8
  have:=Classical.choose_spec (I j _ (eP df));rw[a8,Z] at this;exact this
 obtain⟨xs,y,a8⟩:=f0;refine⟨xs,?_,by rw[y,eG,F,H],fun j c x a3 q=>?_⟩
 ·unfold results;rw[Array.mapM_eq_mapM_toList]
  have:=fun f au az=>o0 (P:=P) (w:=w) f fn.results.toList xs y (fun j r x aT q=>(a8 j r x aT q).1 f au az)
  rw[map_eq_pure_bind,Sem.run_bind,Sem.run_bind,this]
  ·rfl
  ·intro t;rfl
  ·intro t ty;rfl
 ·have df:j<fn.results.toList.length:=by rw[←y];exact(ey.1 q).1
  rw[hy] at a3;cases A:vs[j]? with
  |none=>rw[A] at a3;cases a3
  |some v=>rw[A] at a3;simp only[ew,bj] at a3;subst a3;exact(a8 j _ x (eP df) q).2 v A
theorem xn{T:kO}(eR:T.pw P){fR:Nat}{B:Nat}{G:Nat→af}{ao:eL}{a:Act}(h:fE κ s w ao.get a fR B G){q:c0}{fn:Func}(dl:q.bS=false)(dg:lZ T q.results fn.results.toList=true){v:af}{s':ag}(bB:finish .not q ao s=.ok v s'):
  ∃x κ' e own,(results fn a.tmps).run P w=.ok x w∧s.up=own::s'.up∧s'= {own,up:=s'.up,ro:=s.ro}∧e.up=s.up∧e.ro=s.ro∧fx κ s w κ' e w∧c3 κ' e w∧dF κ' s.aa v x:=by
 simp only[finish,dl,aW.not,bW,↓reduceIte] at bB;cases r:fs (qH ao s) q.results with
 |none=>rw[r] at bB;cases bB
 |some vs=>
  rw[r] at bB;simp only at bB;cases u:fs (freeze s) vs with
  |none=>rw[u] at bB;cases bB
  |some jH=>
   rw[u] at bB;simp only at bB;cases y:s.up with
   |nil=>rw[y] at bB;cases bB
   |cons own up=>
    rw[y] at bB;simp only[ah.ok.injEq] at bB;obtain⟨rfl,rfl⟩:=bB;obtain⟨H,I⟩:=k2 u;obtain⟨κ',e,J,A,K,L,Y,Z,ab,M⟩:=h.iR.gr s.own.length (aC _);have N:∀i cs,s.own[i]? =some (.cells cs)→∃C:Array Value,(∀j (h:j<C.size),κ'.F ⟨κ.loc s.aa i,j,none⟩=some C[j])∧er κ' (s.aa+1) cs (C.toList.take cs.length):=fun i cs bX=>M i cs (ey.1 bX).1 bX
    obtain⟨xs,O,a8⟩:=p1 eR h dg r;refine⟨_,κ',e,own,O,rfl,rfl,by rw[K,y],L,A,J,?_⟩;refine u6 ⟨by rw[a8.1,eG,H],fun j c x a3 U=>?_⟩;obtain⟨nR,dU,V⟩:=I j c a3;exact xm A.k N (a8.2 j _ x (by rw[hy,dU];rfl) U) V
theorem yF{T:kO}(eR:T.pw P){fR:Nat}{B:Nat}{G:Nat→af}{ao:eL}{a:Act}(h:fE κ s w ao.get a fR B G){e:c0}{fn:Func}(dl:e.bS=true)(dg:lZ T e.results fn.results.toList=true){v:af}{s':ag}(bB:finish .not e ao s=.ok v s'):
  ∃x,(results fn a.tmps).run P w=.ok x w∧s'=s∧dF κ (s.aa+1) (v.ap s.aa) x:=by
 simp only[finish,dl,aW.not,↓reduceIte] at bB;cases q:fs (qH ao s) e.results with
 |none=>rw[q] at bB;cases bB
 |some vs=>
  rw[q] at bB;simp only[ah.ok.injEq] at bB;obtain⟨rfl,rfl⟩:=bB;obtain⟨xs,r,a8⟩:=p1 eR h dg q;refine⟨_,r,rfl,?_⟩
  have:=u6 a8;rw[this.ld];exact this
variable(hm:P.follows .mixedOrders=true){T:kO}(eR:T.pw P){rk:Nat→Option c0}(xD:Dk P T rk){G:Nat→af}{X:Nat→List af→ag→ah}(kM:WH P rk G X)
include hm eR xD kM
theorem u7:∀n m,mW P {F:=.not,aw:=G,call:=call .not rk G X n,loop:=fun step bS ao s k=>dV step bS m ao s k}
 |0,m=>⟨⟨m,fun _ _ _ _ _=>rfl⟩,fun f args s v s' h=>(by simp [call] at h),fun f args s v s' κ w xs h=>(by simp [call] at h)⟩
 |n+1,m=>by
  refine⟨⟨m,fun _ _ _ _ _=>rfl⟩,fun f args s=>jf.call kM.nB (n+1) f args s,fun f args s v s' κ w xs h a6 dX r=>?_⟩;simp only at h dX;simp only[call] at h;cases bB:rk f with
  |none=>rw[bB] at h;exact kM.ok f args s v s' κ w xs bB h a6 dX r
  |some e=>
   rw[bB] at h;simp only at h;obtain⟨fn,K,dg⟩:=xD f e bB;unfold u5 at dg;cases u:fn.body with
   |none=>rw[u] at dg;cases dg
   |some c=>
    rw[u] at dg;simp only[bn,Bool.not_eq_true'] at dg;obtain⟨⟨⟨⟨gz,ah⟩,ai⟩,Z⟩,ab⟩:=dg;have as:e.fR=fn.ntmps:=dk ah;have av:=d0 ai;obtain⟨hlen,h⟩:=cY h (by simp);have hlen:=dk hlen;have aj:¬fn.name= "runtime.NumGoroutine" :=by simpa using gz
    refine .inr ⟨by simp [callFunc,K,aj,u],?_⟩;cases B:e.bS with
    |true=>
     rw[B] at h;simp only[↓reduceIte] at h;obtain⟨ao,hex,L⟩:=n9 (by simp) _ _ _ h;have jT:=u7 n n;have ak:xs.length=args.length:=r.1;have M:fE κ s w ao.get {tmps:=xs.toArray++Array.replicate (fn.ntmps-xs.toArray.size) undef,defers:=[]} e.fR w.heap.size G:=by
      refine⟨a6,fun t=>?_,Marks.nil (aC _),?_,dX⟩
      ·rw[L t];split
       ·rename_i eh;have N:t<args.length:=by omega
        have dU:args[t]? =some args[t]:=eP N;have A:xs[t]? =some xs[t]:=eP (by omega);have bO:=r.2 t _ _ dU A;have O:(xs.toArray++Array.replicate (fn.ntmps-xs.toArray.size) undef).getD t undef=xs[t]:=by rw[Array.getD_eq_getD_getElem?,Array.getElem?_append_left (by simp;omega)];simp [A]
        rw[O,Nat.sub_zero,List.getD_eq_getElem?_getD,dU,Option.getD_some,bO.ld];exact bO
       ·exact .dead _
      ·simp;omega
     refine o3 K u (s0 hm eR rfl jT e.body c (rd:=false) (by simp) ab (by simp) M hex) (fun x ac H ep fT w' he aT dl=>?_) (fun i ep s' dl=>by cases dl);have key:finish .not e ep H=.ok v s'→∃y,(results fn fT.tmps).run P w'=.ok y w'∧∃x,Ending.returned y=.returned x∧mA κ s w v s' x w':=fun dl=>by obtain⟨y,pE,qO,C3⟩:=yF eR aT B Z dl;subst qO;refine⟨y,pE,y,rfl,ac,he,aT.iR,?_⟩;rw[he.aa] at C3;exact C3
     cases x with
     |norm=>exact⟨.inl rfl,key dl⟩
     |ret=>exact⟨.inr rfl,key dl⟩
     |_=>cases dl
    |false=>
     rw[B] at h;simp only[bW,↓reduceIte] at h;obtain⟨ao,hex,L⟩:=n9 (by simp) _ _ _ h;obtain⟨ad,al,U,am,ae⟩:=a6.push;have jT:=u7 n n;have ak:xs.length=args.length:=r.1;have M:fE ad s.push w ao.get {tmps:=xs.toArray++Array.replicate (fn.ntmps-xs.toArray.size) undef,defers:=[]} e.fR w.heap.size G:=by
      refine⟨al,fun t=>?_,Marks.nil (aC _),?_,dX.mono U⟩
      ·rw[L t];split
       ·rename_i eh;have N:t<args.length:=by omega
        have dU:args[t]? =some args[t]:=eP N;have A:xs[t]? =some xs[t]:=eP (by omega);have bO:=r.2 t _ _ dU A;have O:(xs.toArray++Array.replicate (fn.ntmps-xs.toArray.size) undef).getD t undef=xs[t]:=by rw[Array.getD_eq_getD_getElem?,Array.getElem?_append_left (by simp;omega)];simp [A]
        rw[O,Nat.sub_zero,List.getD_eq_getElem?_getD,dU,Option.getD_some,bO.ld];exact(bO.mono U).up (by rw[ag.i9];omega)
       ·exact .dead _
      ·simp;omega
     refine o3 K u (s0 hm eR rfl jT e.body c (rd:=false) (by simp) ab (by simp) M hex) (fun x ac H ep fT w' he aT dl=>?_) (fun i ep s' dl=>by cases dl);have key:finish .not e ep H=.ok v s'→∃y,(results fn fT.tmps).run P w'=.ok y w'∧∃x,Ending.returned y=.returned x∧mA κ s w v s' x w':=fun dl=>by
      obtain⟨y,an,I,own,pE,qO,C3,acY,acZ,ap,ac1,abo⟩:=xn eR aT B Z dl;refine⟨y,pE,y,rfl,an,?_,?_,?_⟩
      ·
       have bq:=he.trans ap;have J:s'= {own,up:=s'.up,ro:=I.ro}:=by rw[acZ];exact C3
       have af:I.up=own::s'.up:=by rw[acY,qO]
       have cS:s'.aa=s.aa:=by
        have au:=bq.aa;rw[ag.i9] at au;have az:I.aa=s'.aa+1:=by rw[J];simp only[ag.aa,af,bP];omega
        omega
       have V:∀b,Live ad s.push b↔Live κ s b:=fun b=>by
        constructor
        ·rintro ⟨d,i,o,ho,gF⟩
         rw[ag.nx] at ho;exact⟨d,i,o,ho,by rw[←ae d i o ho];exact gF⟩
        ·rintro ⟨d,i,o,ho,gF⟩
         exact⟨d,i,o,by rw[ag.nx];exact ho,by rw[ae d i o ho];exact gF⟩
       refine⟨U.trans (bq.k.low (by rw[ag.i9];omega)),cS,bq.size,bq.os,bq.tape,bq.output,fun b Y bK=>bq.kU b Y (fun aq=>bK ((V b).1 aq)),fun b Y bK=>?_,fun a ar=>?_⟩
       ·refine(V b).1 (bq.live b Y ?_);obtain⟨d,i,o,ho,gF⟩:=bK;rw[J] at ho;exact⟨d,i,o,ag.qQ af ho,gF⟩
       ·rcases bq.oN a ar with q|q|q
        ·rw[am] at q;exact .inl q
        ·exact .inr (.inl q)
        ·exact .inr (.inr ((V _).1 q))
      ·have J:s'= {own,up:=s'.up,ro:=I.ro}:=by rw[acZ];exact C3
       rw[J];exact ac1.pop (by rw[acY,qO])
      ·have cS:H.aa=s.aa+1:=by rw[he.aa,ag.i9]
       rw[cS] at abo;rw[abo.ld];exact abo
     cases x with
     |norm=>exact⟨.inl rfl,key dl⟩
     |ret=>exact⟨.inr rfl,key dl⟩
     |_=>cases dl
end
end Go.Ab
end
section
namespace Go.Ab
open Classical
def PG(a b:ah):Prop:=a=.fail∨a=b
theorem PG.refl(a:ah):PG a a:=.inr rfl
theorem PG.eq{a b r:ah}(h:PG a b)(e:a=r)(aT:r≠.fail):b=r:=by
 rcases h with h|h
 ·exact absurd (e.symm.trans h) aT
 ·exact h ▸ e
def hc(a:Nat→ah)(b:ah):Prop:=(∀n,PG (a n) b)∧(b≠.fail→∃N,∀n,N≤n→a n=b)
theorem hc.const(a:ah):hc (fun _=>a) a:=⟨fun _=>.refl _,fun _=>⟨0,fun _ _=>rfl⟩⟩
theorem hc.of_eq{a:Nat→ah}{b:ah}(h:∀n,a n=b):hc a b:=⟨fun n=>.inr (h n),fun _=>⟨0,fun n _=>h n⟩⟩
theorem hc.fail:hc (fun _=>.fail) .fail:=.const _
theorem hc.bind{a:Nat→ah}{b:ah}(h:hc a b){k kp:Nat→af→ag→ah}{l y:af→ag→ah}(dl:∀v s,hc (fun n=>k n v s) (l v s))(fC:∀v s,hc (fun n=>kp n v s) (y v s)):hc (fun n=>ah.bind (a n) (k n) (kp n)) (ah.bind b l y):=by
 refine⟨fun n=>?_,fun q=>?_⟩
 ·rcases h.1 n with e|e
  ·left;simp only[e];rfl
  ·simp only[e];cases b with
   |fail=>exact .refl _
   |ok v s=>exact(dl v s).1 n
   |panic v s=>exact(fC v s).1 n
 ·cases r:b with
  |fail=>rw[r] at q;exact absurd rfl q
  |ok v s=>rw[r] at q h;obtain⟨N,pZ⟩:=h.2 (by simp);obtain⟨M,u⟩:=(dl v s).2 q;exact⟨max N M,fun n dp=>by show ah.bind (a n) _ _=_;rw[pZ n (by omega)];exact u n (by omega)⟩
  |panic v s=>rw[r] at q h;obtain⟨N,pZ⟩:=h.2 (by simp);obtain⟨M,u⟩:=(fC v s).2 q;exact⟨max N M,fun n dp=>by show ah.bind (a n) _ _=_;rw[pZ n (by omega)];exact u n (by omega)⟩
def FI(k:Nat→f9)(l:f9):Prop:=∀x ao s,hc (fun n=>k n x ao s) (l x ao s)
def lp(gT:Nat→mM)(e:mM):Prop:=∀ao s k l,FI k l→hc (fun n=>gT n ao s (k n)) (e ao s l)
def md(gT:mM):Prop:=∀ao s k l,(∀x ao s,PG (k x ao s) (l x ao s))→PG (gT ao s k) (gT ao s l)
theorem lp.mono{gT:mM}(h:lp (fun _=>gT) gT):md gT:=fun ao s k l dl=>by
 have:=h ao s (fun n=>if n=0 then k else l) l (fun x ao s=>⟨fun n=>by
  simp only;split
  ·exact dl x ao s
  ·exact .refl _,fun _=>⟨1,fun n dp=>by simp [show n≠0 by omega]⟩⟩)
 simpa using this.1 0
def eL.mask:gf→eL→eL
 |.e,_=>.e
 |.n h _ q,.e=>.n (eL.mask h .e) .dead (eL.mask q .e)
 |.n h b q,.n l v r=>.n (eL.mask h l) (bif b then v else .dead) (eL.mask q r)
theorem ig:∀(m:gf) (k:eL→ah) (ao:eL),eL.jD m k ao=k (eL.mask m ao)
 |.e,k,ao=>by cases ao<;> rfl
 |.n h b q,k,.e=>by simp only[eL.jD,eL.mask,ig h,ig q]
 |.n h b q,k,.n l v r=>by simp only[eL.jD,eL.mask,ig h,ig q]
theorem jg(gT:mM)(bS:gf)(n:Nat)(ao:eL)(s:ag)(k:f9):dV gT bS (n+1) ao s k=gT ao s (eU bS (dV gT bS n) k):=rfl
theorem gG{gT:Nat→mM}{e:mM}(h:lp gT e){k:Nat→f9}{l:f9}(dl:FI k l)(bS:gf):∀(m:Nat) (ao:eL) (s:ag),hc (fun n=>dV (gT n) bS m ao s (k n)) (dV e bS m ao s l)
 |0,_,_=>.fail
 |m+1,ao,s=>by
  simp only[jg];refine h _ _ _ _ (fun x ao s=>?_);cases x with
  |norm=>simp only[eU,ig];exact gG h dl bS m _ s
  |_=>exact dl _ _ _
theorem rl{gT:mM}(h:md gT)(bS:gf)(k:f9):∀(m:Nat) (ao:eL) (s:ag),PG (dV gT bS m ao s k) (dV gT bS (m+1) ao s k)
 |0,_,_=>.inl rfl
 |m+1,ao,s=>by
  rw[jg,jg];refine h _ _ _ _ (fun x ao s=>?_);cases x with
  |norm=>simp only[eU,ig];exact rl h bS k m _ s
  |_=>exact .refl _
theorem jx{gT:mM}(h:md gT){bS:gf}{k:f9}{m:Nat}{ao:eL}{s:ag}{r:ah}(aT:r≠.fail)(e:dV gT bS m ao s k=r):∀jt,m≤jt→dV gT bS jt ao s k=r:=by
 intro jt hm
 induction hm with
 |refl=>exact e
 |step _ q=>exact(rl h bS k _ ao s).eq q aT
noncomputable def bQ(gT:mM)(bS:gf)(ao:eL)(s:ag)(k:f9):ah:=if h:∃n,dV gT bS n ao s k≠.fail then dV gT bS h.choose ao s k else .fail
theorem mB{gT:mM}(h:md gT){bS:gf}{k:f9}{m:Nat}{ao:eL}{s:ag}{r:ah}(aT:r≠.fail)(e:dV gT bS m ao s k=r):bQ gT bS ao s k=r:=by have a8:∃n,dV gT bS n ao s k≠.fail:=⟨m,by rw[e];exact aT⟩;unfold bQ;rw[dif_pos a8];have au:=a8.choose_spec;have az:=jx h au rfl (max a8.choose m) (by omega);have b3:=jx h aT e (max a8.choose m) (by omega);exact az.symm.trans b3
theorem lq{gT:mM}{bS:gf}{k:f9}{ao:eL}{s:ag}{r:ah}(aT:r≠.fail)(e:bQ gT bS ao s k=r):∃m,dV gT bS m ao s k=r:=by
 unfold bQ at e;split at e
 ·exact⟨_,e⟩
 ·exact absurd e.symm aT
def ih(a:Nat→mM→gf→mM)(b:mM→gf→mM):Prop:=∀(gT:Nat→mM) (e:mM) bS ao s k l,(∀n,md (gT n))→md e→lp gT e→FI k l→hc (fun n=>a n (gT n) bS ao s (k n)) (b e bS ao s l)
theorem mZ:ih (fun _=>bQ) bQ:=fun gT q bS ao s k l au az b3 dJ=>by
 refine⟨fun n=>?_,fun h=>?_⟩
 ·by_cases bB:bQ (gT n) bS ao s (k n)=.fail
  ·exact .inl bB
  ·obtain⟨m,e⟩:=lq bB rfl;exact .inr (mB az bB (((gG b3 dJ bS m ao s).1 n).eq e bB)).symm
 ·obtain⟨m,e⟩:=lq h rfl;obtain⟨N,pZ⟩:=(gG b3 dJ bS m ao s).2 (by rw[e];exact h);exact⟨N,fun n dp=>mB (au n) h ((pZ n dp).trans e)⟩
theorem u9:ih (fun n gT bS ao s k=>dV gT bS n ao s k) bQ:=fun gT q bS ao s k l au az b3 dJ=>by
 refine⟨fun n=>?_,fun h=>?_⟩
 ·by_cases bB:dV (gT n) bS n ao s (k n)=.fail
  ·exact .inl bB
  ·exact .inr (mB az bB (((gG b3 dJ bS n ao s).1 n).eq rfl bB)).symm
 ·obtain⟨m,e⟩:=lq h rfl;obtain⟨N,pZ⟩:=(gG b3 dJ bS m ao s).2 (by rw[e];exact h);exact⟨max N m,fun n dp=>jx (au n) h ((pZ n (by omega)).trans e) n (by omega)⟩
theorem xo(m:Nat):ih (fun i gT bS ao s k=>dV gT bS (if i=0 then m else m+1) ao s k) (fun gT bS ao s k=>dV gT bS (m+1) ao s k):=fun gT h bS ao s k l au az b3 dJ=>by
 refine⟨fun n=>?_,fun e=>?_⟩
 ·simp only;split
  ·by_cases bB:dV (gT n) bS m ao s (k n)=.fail
   ·exact .inl bB
   ·exact .inr ((jx az bB (((gG b3 dJ bS m ao s).1 n).eq rfl bB) (m+1) (by omega)).symm)
  ·exact(gG b3 dJ bS (m+1) ao s).1 n
 ·obtain⟨N,pZ⟩:=(gG b3 dJ bS (m+1) ao s).2 e;exact⟨max N 1,fun n dp=>by simp only[show n≠0 by omega,↓reduceIte];exact pZ n (by omega)⟩
def gH(G:Nat→af)(c:Nat→List af→ag→ah)(l:mM→gf→mM):Env:={F:=.not,aw:=G,call:=c,loop:=l}
section
variable{G:Nat→af}{c:Nat→Nat→List af→ag→ah}{cu:Nat→List af→ag→ah}{l:Nat→mM→gf→mM}{lu:mM→gf→mM}(a3:∀f args s,hc (fun n=>c n f args s) (cu f args s))
include a3
theorem va(s:ag)(f:Nat)(args:List af):hc (fun n=>eA (gH G (c n) (l n)) s .ok .panic f args) (eA (gH G cu lu) s .ok .panic f args):=by
 have e:∀E:Env,eA E s .ok .panic f args=ah.bind (E.call f args s) (fun v s'=>bif Nat.beq s'.aa s.aa then .ok v s' else .fail) .panic:=fun E=>by unfold eA;cases E.call f args s<;> rfl
 simp only[e];exact(a3 f args s).bind (fun _ _=>.const _) (fun _ _=>.const _)
theorem s3(s:ag)(f:Nat)(args:List af):hc (fun n=>hF (gH G (c n) (l n)) s .ok f args) (hF (gH G cu lu) s .ok f args):=by
 have e:∀E:Env,hF E s .ok f args=bif af.aY args then ah.bind (E.call f args {own:=[],up:=[],ro:=[]}) (fun v _=>bif v.bd then .ok v s else .fail) (fun _ _=>.fail) else .fail:=fun E=>by
  unfold hF;cases af.aY args<;> try rfl
  cases E.call f args _<;> rfl
 simp only[e];cases af.aY args
 ·exact .fail
 ·exact(a3 f args _).bind (fun _ _=>.const _) (fun _ _=>.const _)
theorem s4(s:ag)(xs:List (Option Nat×af))(f:Nat)(args:List af):hc (fun n=>h3 (gH G (c n) (l n)) s .ok .panic xs f args) (h3 (gH G cu lu) s .ok .panic xs f args):=by
 have e:∀E:Env,h3 E s .ok .panic xs f args=ah.bind (E.call f args s) (fun v s'=>bif Nat.beq s'.aa s.aa then(bif xs.all fun x=>nW (e3 s x.1 x.2) (e3 s' x.1 x.2) then .ok v s' else .fail) else .fail) .panic:=fun E=>by unfold h3 eA;cases E.call f args s<;> rfl
 simp only[e];exact(a3 f args s).bind (fun _ _=>.const _) (fun _ _=>.const _)
theorem Ah(ao:Nat→af)(s:ag)(op:gg):hc (fun n=>aJ (gH G (c n) (l n)) ao s .ok .panic op) (aJ (gH G cu lu) ao s .ok .panic op):=by
 cases op with
 |call f args=>show hc (fun n=>eA (gH G (c n) (l n)) s .ok .panic f (args.map fun x=>(aq G ao x).ap s.aa)) (eA (gH G cu lu) s .ok .panic f (args.map fun x=>(aq G ao x).ap s.aa));exact va a3 s f _
 |lA iq f args=>show hc (fun n=>h3 (gH G (c n) (l n)) s .ok .panic (iq.map fun x=>(x.1,aq G ao x.2)) f (args.map fun x=>(aq G ao x).ap s.aa)) (h3 (gH G cu lu) s .ok .panic (iq.map fun x=>(x.1,aq G ao x.2)) f (args.map fun x=>(aq G ao x).ap s.aa));exact s4 a3 s _ f _
 |jY iq f args=>
  show hc (fun n=>ks (gH G (c n) (l n)) s .ok .panic (iq.map fun x=>(x.1,aq G ao x.2)) (aq G ao f) (args.map fun x=>(aq G ao x).ap s.aa)) (ks (gH G cu lu) s .ok .panic (iq.map fun x=>(x.1,aq G ao x.2)) (aq G ao f) (args.map fun x=>(aq G ao x).ap s.aa));cases aq G ao f with
  |fn g dI=>exact s4 a3 s _ g _
  |_=>exact .fail
 |hA f args=>show hc (fun n=>hF (gH G (c n) (l n)) s .ok f (args.map fun x=>(aq G ao x).ap s.aa)) (hF (gH G cu lu) s .ok f (args.map fun x=>(aq G ao x).ap s.aa));exact s3 a3 s f _
 |eA f args=>
  show hc (fun n=>lb (gH G (c n) (l n)) s .ok .panic (aq G ao f) (args.map fun x=>(aq G ao x).ap s.aa)) (lb (gH G cu lu) s .ok .panic (aq G ao f) (args.map fun x=>(aq G ao x).ap s.aa));cases aq G ao f with
  |fn g dI=>exact va a3 s g _
  |_=>exact .fail
 |lM f args=>
  show hc (fun n=>jQ (gH G (c n) (l n)) s .ok (aq G ao f) (args.map fun x=>(aq G ao x).ap s.aa)) (jQ (gH G cu lu) s .ok (aq G ao f) (args.map fun x=>(aq G ao x).ap s.aa));cases aq G ao f with
  |fn g dI=>exact s3 a3 s g _
  |_=>exact .fail
 |_=>exact .of_eq (fun n=>rfl)
theorem yG(ao:Nat→af)(s:ag)(op:gg){k kp:Nat→af→ag→ah}{m mp:af→ag→ah}(dl:∀v s,hc (fun n=>k n v s) (m v s))(fC:∀v s,hc (fun n=>kp n v s) (mp v s)):
  hc (fun n=>aJ (gH G (c n) (l n)) ao s (k n) (kp n) op) (aJ (gH G cu lu) ao s m mp op):=by
 have e:∀n,aJ (gH G (c n) (l n)) ao s (k n) (kp n) op=ah.bind (aJ (gH G (c n) (l n)) ao s .ok .panic op) (k n) (kp n):=fun n=>ju rfl _ _ _ _ _
 rw[ju (E:=gH G cu lu) rfl];simp only[e];exact(Ah a3 ao s op).bind dl fC
theorem me:∀(d i:Nat) (v:af) {k:Nat→eL→ah} {m:eL→ah} (_:∀ao,hc (fun n=>k n ao) (m ao)) (ao:eL),hc (fun n=>ao.iX d i v (k n)) (ao.iX d i v m)
 |0,_,_,_,_,_,_=>.fail
 |d+1,i,v,k,m,h,.e=>by
  simp only[eL.iX];cases Nat.beq i 0 with
  |true=>exact h _
  |false=>
   cases Nat.beq (i%2) 1 with
   |true=>exact me d _ v (fun l=>h _) _
   |false=>exact me d _ v (fun l=>h _) _
 |d+1,i,v,k,m,h,.n a x b=>by
  simp only[eL.iX];cases Nat.beq i 0 with
  |true=>exact h _
  |false=>
   cases Nat.beq (i%2) 1 with
   |true=>exact me d _ v (fun l=>h _) _
   |false=>exact me d _ v (fun l=>h _) _
theorem sw(dst:Option Nat)(v:af){k:Nat→eL→ah}{m:eL→ah}(h:∀ao,hc (fun n=>k n ao) (m ao))(ao:eL):hc (fun n=>i5 ao dst v (k n)) (i5 ao dst v m):=by
 cases dst with
 |none=>exact h ao
 |some i=>exact me a3 12 i v h ao
theorem m0:∀(os:List cT) (ao:eL) (s:ag) {k:Nat→eL→ag→ah} {m:eL→ag→ah} {kp:Nat→af→eL→ag→ah} {mp:af→eL→ag→ah} (_:∀ao s,hc (fun n=>k n ao s) (m ao s)) (_:∀v ao s,hc (fun n=>kp n v ao s) (mp v ao s)),
  hc (fun n=>fw (gH G (c n) (l n)) os ao s (k n) (kp n)) (fw (gH G cu lu) os ao s m mp)
 |[],ao,s,k,m,kp,mp,h,fC=>h ao s
 |o::os,ao,s,k,m,kp,mp,h,fC=>by
  simp only[fw];have key:∀w:Bool,hc (fun n=>bif w then aJ (gH G (c n) (l n)) ao.get s (fun v s=>i5 ao o.dst v fun ao=>fw (gH G (c n) (l n)) os ao s (k n) (kp n)) (fun v s=>kp n v ao s) o.op else i5 ao o.dst (.ea []) fun ao=>fw (gH G (c n) (l n)) os ao s (k n) (kp n))
    (bif w then aJ (gH G cu lu) ao.get s (fun v s=>i5 ao o.dst v fun ao=>fw (gH G cu lu) os ao s m mp) (fun v s=>mp v ao s) o.op else i5 ao o.dst (.ea []) fun ao=>fw (gH G cu lu) os ao s m mp):=fun w=>by
   cases w with
   |true=>exact yG a3 ao.get s o.op (fun v s=>sw a3 o.dst v (fun ao=>m0 os ao s h fC) ao) (fun v s=>fC v ao s)
   |false=>exact sw a3 o.dst _ (fun ao=>m0 os ao s h fC) ao
  unfold mn;split
  ·exact key _
  ·split
   ·exact key _
   ·exact key _
   ·exact .fail
omit a3 in
theorem o4{hN:ag}{dI:List af}{gT:Nat→af→ag→(qb→ag→ah)→ah}{q:af→ag→(qb→ag→ah)→ah}(h:∀(x:af) (s:ag) (k:Nat→qb→ag→ah) (m:qb→ag→ah),(∀e s,hc (fun n=>k n e s) (m e s))→hc (fun n=>gT n x s (k n)) (q x s m)):
  ∀(xs:List af) (s:ag) {k:Nat→qb→ag→ah} {m:qb→ag→ah},(∀e s,hc (fun n=>k n e s) (m e s))→hc (fun n=>g5 (gT n) hN dI xs s (k n)) (g5 q hN dI xs s m)
 |[],s,k,m,dl=>dl _ _
 |x::xs,s,k,m,dl=>h x s _ _ fun e s=>by
  cases e with
  |norm=>
   simp only;cases dI.all (fY hN s) with
   |true=>exact o4 h xs s dl
   |false=>exact .fail
  |_=>exact dl _ _
variable(bK:ih l lu)(hm:∀n,ih (fun _=>l n) (l n))(jw:ih (fun _=>lu) lu)
include bK hm jw
theorem vb:∀(code:ad),lp (fun n=>exec (gH G (c n) (l n)) code) (exec (gH G cu lu) code)∧(∀n,lp (fun _=>exec (gH G (c n) (l n)) code) (exec (gH G (c n) (l n)) code))∧lp (fun _=>exec (gH G cu lu) code) (exec (gH G cu lu) code):=by
 have u:∀(code:ad) (c:Nat→Nat→List af→ag→ah) (cu:Nat→List af→ag→ah) (l:Nat→mM→gf→mM) (lu:mM→gf→mM),(∀f args s,hc (fun n=>c n f args s) (cu f args s))→ih l lu→(∀n,ih (fun _=>l n) (l n))→ih (fun _=>lu) lu→lp (fun n=>exec (gH G (c n) (l n)) code) (exec (gH G cu lu) code):=by
  intro code
  induction code with
  |skip=>intro c cu l lu a3 bK hm jw ao s k m dl;exact dl _ _ _
  |region nc ops=>
   intro c cu l lu a3 bK hm jw ao s k m dl;cases nc with
   |none=>exact m0 a3 ops ao s (fun ao s=>dl _ _ _) (fun v ao s=>.fail)
   |some nc=>
    simp only[exec];show hc (fun n=>bif nc.all (qE G ao.get) then _ else _) (bif nc.all (qE G ao.get) then _ else _);cases nc.all (qE G ao.get)
    ·exact .fail
    ·exact m0 a3 ops ao s (fun ao s=>dl _ _ _) (fun v ao s=>.fail)
  |seq a b h q=>
   intro c cu l lu a3 bK hm jw ao s k m dl;simp only[exec];refine h c cu l lu a3 bK hm jw ao s _ _ (fun x ao s=>?_);cases x with
   |norm=>exact q c cu l lu a3 bK hm jw ao s k m dl
   |_=>exact dl _ _ _
  |cond x a b h q=>
   intro c cu l lu a3 bK hm jw ao s k m dl;simp only[exec];show hc (fun n=>match aq G ao.get x with |.bool t=>bif t then exec (gH G (c n) (l n)) a ao s (k n) else exec (gH G (c n) (l n)) b ao s (k n)|_=>.fail) (match aq G ao.get x with |.bool t=>bif t then exec (gH G cu lu) a ao s m else exec (gH G cu lu) b ao s m|_=>.fail);cases aq G ao.get x with
   |bool t=>cases t with
    |true=>exact h c cu l lu a3 bK hm jw ao s k m dl
    |false=>exact q c cu l lu a3 bK hm jw ao s k m dl
   |_=>exact .fail
  |mask jt a e=>intro c cu l lu a3 bK hm jw ao s k m dl;simp only[exec,ig];exact e c cu l lu a3 bK hm jw _ s k m dl
  |block id a e=>
   intro c cu l lu a3 bK hm jw ao s k m dl;simp only[exec];refine e c cu l lu a3 bK hm jw ao s _ _ (fun x ao s=>?_);cases x with
   |exit j=>
    simp only[ek];cases Nat.beq j id
    ·exact dl _ _ _
    ·exact dl _ _ _
   |_=>exact dl _ _ _
  |loop bS a e=>
   intro c cu l lu a3 bK hm jw ao s k m dl;simp only[exec,ig];refine bK _ _ bS _ s k m (fun n=>?_) ?_ (e c cu l lu a3 bK hm jw) dl
   ·exact(e (fun _=>c n) (c n) (fun _=>l n) (l n) (fun _ _ _=>.const _) (hm n) (fun _=>hm n) (hm n)).mono
   ·exact(e (fun _=>cu) cu (fun _=>lu) lu (fun _ _ _=>.const _) jw (fun _=>jw) jw).mono
  |exit id=>intro c cu l lu a3 bK hm jw ao s k m dl;exact dl _ _ _
  |scope a e=>intro c cu l lu a3 bK hm jw ao s k m dl;simp only[exec];exact e c cu l lu a3 bK hm jw ao s k m dl
  |ret=>intro c cu l lu a3 bK hm jw ao s k m dl;exact dl _ _ _
  |range j f g p a b h q=>
   intro c cu l lu a3 bK hm jw ao s k m dl;simp only[exec];show hc (fun n=>nY j f (aq G ao.get g) _ s _) (nY j f (aq G ao.get g) _ s _);unfold nY;cases aq G ao.get g with
   |fn wF dI=>
    simp only;cases Nat.beq f wF with
    |false=>exact .fail
    |true=>
     simp only[b2];cases qG s j dI with
     |none=>exact .fail
     |some xs=>
      refine o4 (fun x s lN jt y=>?_) xs s (fun r s=>dl r ao s);refine sw a3 (some p) x (fun ep=>?_) ao;refine h c cu l lu a3 bK hm jw ep s _ _ (fun r ao s=>?_);cases r with
      |norm=>exact q c cu l lu a3 bK hm jw ao s _ _ (fun r ao s=>y r s)
      |_=>exact .fail
   |_=>exact .fail
 intro code;exact⟨u code c cu l lu a3 bK hm jw,fun n=>u code (fun _=>c n) (c n) (fun _=>l n) (l n) (fun _ _ _=>.const _) (hm n) (fun _=>hm n) (hm n),u code (fun _=>cu) cu (fun _=>lu) lu (fun _ _ _=>.const _) jw (fun _=>jw) jw⟩
end
theorem lG(m:Nat):ih (fun _ gT bS ao s k=>dV gT bS m ao s k) (fun gT bS ao s k=>dV gT bS m ao s k):=fun _ _ bS ao s _ _ _ _ b3 dJ=>gG b3 dJ bS m ao s
theorem rm:∀(vs:List af) (i:Nat) (ao:eL) {k:Nat→eL→ah} {m:eL→ah} (_:∀ao,hc (fun n=>k n ao) (m ao)),hc (fun n=>b0 vs i ao (k n)) (b0 vs i ao m)
 |[],_,ao,_,_,h=>h ao
 |v::vs,i,ao,k,m,h=>me (c:=fun _ _ _ _=>.fail) (cu:=fun _ _ _=>.fail) (fun _ _ _=>.fail) 12 i v (fun ao=>rm vs (i+1) ao h) ao
def body(T:Nat→Option c0)(G:Nat→af)(X:Nat→List af→ag→ah)(c:Nat→List af→ag→ah)(l:mM→gf→mM)(f:Nat)(args:List af)(s:ag):ah:=
 match T f with
 |none=>X f args s
 |some fn=>
  bif Nat.beq args.length fn.abg then
   b0 args 0 .e fun ao=>exec (gH G c l) fn.body ao (if fn.bS then s else {own:=[],up:=s.own::s.up,ro:=s.ro}) (Kd .not fn)
  else .fail
theorem xE{T:Nat→Option c0}{G:Nat→af}{X:Nat→List af→ag→ah}{c:Nat→Nat→List af→ag→ah}{cu:Nat→List af→ag→ah}{l:Nat→mM→gf→mM}{lu:mM→gf→mM}(a3:∀f args s,hc (fun n=>c n f args s) (cu f args s))(bK:ih l lu)(hm:∀n,ih (fun _=>l n) (l n))(jw:ih (fun _=>lu) lu)(f:Nat)(args:List af)(s:ag):
  hc (fun n=>body T G X (c n) (l n) f args s) (body T G X cu lu f args s):=by
 unfold body;cases T f with
 |none=>exact .const _
 |some fn=>
  simp only;cases Nat.beq args.length fn.abg with
  |false=>exact .fail
  |true=>simp only[b2];refine rm args 0 .e (fun ao=>(vb a3 bK hm jw fn.body).1 ao _ _ _ (fun x ao s=>?_));cases x<;> exact .const _
theorem oa(T:Nat→Option c0)(G:Nat→af)(X:Nat→List af→ag→ah)(n f:Nat)(args:List af)(s:ag):call .not T G X (n+1) f args s=body T G X (call .not T G X n) (fun gT bS ao s k=>dV gT bS n ao s k) f args s:=rfl
section
variable(T:Nat→Option c0)(G:Nat→af)(X:Nat→List af→ag→ah)
theorem Ai:∀(n f:Nat) (args:List af) (s:ag),PG (call .not T G X n f args s) (call .not T G X (n+1) f args s)
 |0,f,args,s=>.inl rfl
 |n+1,f,args,s=>by
  have h:=xE (T:=T) (G:=G) (X:=X) (c:=fun i=>call .not T G X (if i=0 then n else n+1)) (cu:=call .not T G X (n+1)) (fun f args s=>⟨fun i=>by
    simp only;split
    ·exact Ai n f args s
    ·exact .refl _,fun _=>⟨1,fun i bX=>by simp [show i≠0 by omega]⟩⟩) (xo n) (fun i=>by by_cases bX:i=0<;> simp only[bX,↓reduceIte]<;> exact lG _) (lG (n+1)) f args s
  have:=h.1 0;simp only[↓reduceIte] at this;rw[oa,oa];exact this
theorem rn{n f:Nat}{args:List af}{s:ag}{r:ah}(aT:r≠.fail)(e:call .not T G X n f args s=r):∀m,n≤m→call .not T G X m f args s=r:=by
 intro m hm
 induction hm with
 |refl=>exact e
 |step _ h=>exact(Ai T G X _ f args s).eq h aT
noncomputable def aL(f:Nat)(args:List af)(s:ag):ah:=if h:∃n,call .not T G X n f args s≠.fail then call .not T G X h.choose f args s else .fail
theorem ob{n f:Nat}{args:List af}{s:ag}{r:ah}(aT:r≠.fail)(e:call .not T G X n f args s=r):aL T G X f args s=r:=by have a8:∃n,call .not T G X n f args s≠.fail:=⟨n,by rw[e];exact aT⟩;unfold aL;rw[dif_pos a8];have au:=a8.choose_spec;exact(rn T G X au rfl (max a8.choose n) (by omega)).symm.trans (rn T G X aT e (max a8.choose n) (by omega))
theorem o5{f:Nat}{args:List af}{s:ag}{r:ah}(aT:r≠.fail)(e:aL T G X f args s=r):∃n,call .not T G X n f args s=r:=by
 unfold aL at e;split at e
 ·exact⟨_,e⟩
 ·exact absurd e.symm aT
theorem Aj(f:Nat)(args:List af)(s:ag):hc (fun n=>call .not T G X n f args s) (aL T G X f args s):=by
 refine⟨fun n=>?_,fun h=>?_⟩
 ·by_cases bB:call .not T G X n f args s=.fail
  ·exact .inl bB
  ·exact .inr (ob T G X bB rfl).symm
 ·obtain⟨n,e⟩:=o5 T G X h rfl;exact⟨n,fun m hm=>rn T G X h e m hm⟩
theorem yH(f:Nat)(args:List af)(s:ag):aL T G X f args s=body T G X (aL T G X) bQ f args s:=by
 have h:=xE (T:=T) (G:=G) (X:=X) (Aj T G X) u9 (fun n=>lG n) mZ f args s;by_cases bB:body T G X (aL T G X) bQ f args s=.fail
 ·rw[bB];by_cases a3:aL T G X f args s=.fail
  ·exact a3
  ·obtain⟨n,e⟩:=o5 T G X a3 rfl
   have:=rn T G X a3 e (n+1) (by omega);rw[oa] at this;exact absurd ((h.1 n).eq this a3) (by rw[bB];exact fun q=>a3 q.symm)
 ·obtain⟨N,pZ⟩:=h.2 bB;have e:=(oa T G X N f args s).trans (pZ N (aC _));exact ob T G X bB e
end
theorem yI{G:Nat→af}{cu:Nat→List af→ag→ah}(code:ad)(bS:gf)(ao:eL)(s:ag)(k:f9):bQ (exec (gH G cu bQ) code) bS ao s k=exec (gH G cu bQ) code ao s (eU bS (bQ (exec (gH G cu bQ) code) bS) k):=by
 have oI:=(vb (G:=G) (c:=fun _=>cu) (cu:=cu) (l:=fun _=>bQ) (lu:=bQ) (fun _ _ _=>.const _) mZ (fun _=>mZ) mZ code).1;have r:=oI.mono;have dl:FI (fun n=>eU bS (dV (exec (gH G cu bQ) code) bS n) k) (eU bS (bQ (exec (gH G cu bQ) code) bS) k):=fun x ao s=>by
  cases x with
  |norm=>
   simp only[eU,ig];generalize eL.mask bS ao=ao;refine⟨fun n=>?_,fun u=>?_⟩
   ·by_cases bB:dV (exec (gH G cu bQ) code) bS n ao s k=.fail
    ·exact .inl bB
    ·exact .inr (mB r bB rfl).symm
   ·obtain⟨n,e⟩:=lq u rfl;exact⟨n,fun m hm=>jx r u e m hm⟩
  |_=>exact .const _
 have h:=oI ao s _ _ dl;generalize y:exec (gH G cu bQ) code ao s (eU bS (bQ (exec (gH G cu bQ) code) bS) k)=R at h ⊢;by_cases bB:R=.fail
 ·rw[bB];by_cases a3:bQ (exec (gH G cu bQ) code) bS ao s k=.fail
  ·exact a3
  ·obtain⟨n,e⟩:=lq a3 rfl
   have:=(jg _ _ _ _ _ _).symm.trans (jx r a3 e (n+1) (by omega));exact absurd ((h.1 n).eq this a3) (by rw[bB];exact fun q=>a3 q.symm)
 ·obtain⟨N,pZ⟩:=h.2 bB;exact mB r bB ((jg _ _ _ _ _ _).trans (pZ N (aC _)))
end Go.Ab
end
section
namespace Go.Ab
def PH(x:af)(s:ag)(k:af→ag→ah):ah:=bif x.fh then k (.bI (x.ap s.aa).cells) s else .fail
def vc(x:af)(s:ag)(k:af→ag→ah):ah:=bif x.fh then k (.ref (.l s.own.length) 0) (s.new (.cells (x.ap s.aa).cells)) else .fail
def yJ(d:Nat):List af→List (Nat×Nat×af)→Option (List af)
 |cs,[]=>some cs
 |cs,(off,sz,x)::ec=>
  let v:=x.ap d
  bif v.fh&&Nat.beq v.cells.length sz&&Nat.ble (off+sz) cs.length then yJ d (dS cs off v.cells) ec else none
def FJ(zero:List af)(ec:List (Nat×Nat×af))(s:ag)(k:af→ag→ah):ah:=
 match (yJ s.aa zero ec).map .agg with
 |some v=>k v s
 |none=>.fail
def pH(o:Option af)(d:Nat):Option Nat:=
 match o with
 |none=>some d
 |some x=>e2 x
def hSub(x:af)(gn bX:Option af)(s:ag)(k:af→ag→ah):ah:=
 match x with
 |.str fc=>
  match pH gn 0,pH bX fc.length with
  |some l,some h=>bif Nat.ble l h&&Nat.ble h fc.length then k (.str ((fc.drop l).take (h-l))) s else .fail
  |_,_=>.fail
 |_=>.fail
def m1(z:Nat)(x:af)(gn bX iJ:Option af)(s:ag)(k:af→ag→ah):ah:=
 match x with
 |.bG sz es g=>
  match pH gn 0,pH bX es.length with
  |some l,some h=>
   match iJ with
   |none=>
    bif Nat.beq z sz&&Nat.ble l h&&Nat.ble h es.length&&pu g l h es then
     k (.bG sz ((es.drop l).take (h-l)) (match g with
      |.nil=>.nil
      |.exact=>if h=es.length then .exact else .any
      |.dB a=>if l=0∧h=es.length then .dB a else .any
      |.any=>.any)) s
    else .fail
   |some x=>
    match e2 x,g with
    |_,.nil=>.fail
    |some m,_=>bif Nat.beq z sz&&Nat.ble l h&&Nat.ble h m&&Nat.ble m es.length&&uk g es then k (.bG sz ((es.drop l).take (h-l)) (if h=m then .exact else .any)) s else .fail
    |_,_=>.fail
  |_,_=>.fail
 |.cZ a off len cap sz=>
  match pH gn 0,pH bX len,pH iJ cap with
  |some l,some h,some m=>bif Nat.beq z sz&&Nat.ble l h&&Nat.ble h m&&Nat.ble m cap&&Nat.ble len cap then k (.cZ a (if m=l then off else off+l*sz) (h-l) (m-l) sz) s else .fail
  |_,_,_=>.fail
 |_=>.fail
def rp(z n:Nat)(x:af)(gn bX iJ:Option af)(s:ag)(k:af→ag→ah):ah:=
 match x with
 |.ref a off=>
  match pH gn 0,pH bX n,pH iJ n with
  |some l,some h,some m=>bif Nat.ble l h&&Nat.ble h m&&Nat.ble m n then k (.cZ a (if m=l then off else off+l*z) (h-l) (m-l) z) s else .fail
  |_,_,_=>.fail
 |_=>.fail
def ac2(v:af):Option Loc:=
 match v with
 |.ref a _=>some a
 |.map a=>some a
 |_=>none
def yK(v:af)(want:Bool)(op:(af→ag→ah)→ah)(s:ag)(k:af→ag→ah):ah:=
 match v with
 |.bool b=>bif b==want then op k else k (.ea []) s
 |.ea _=>k (.ea []) s
 |_=>.fail
def WI(v:af)(a b:ah):ah:=
 match v with
 |.bool t=>bif t then a else b
 |_=>.fail
def ky(s:ag)(v:af)(n:Option Nat):Option af:=
 match v with
 |.ref a off=>
  match s.get a,n with
  |some (.cells cs),none=>cs[off]?
  |some (.cells cs),some n=>if Nat.ble (off+n) cs.length then some (.agg ((cs.drop off).take n)) else none
  |_,_=>none
 |_=>none
def rq(bS:Bool)(e:List (Option af))(s:ag):ah:=
 match fs (fun x=>x) e with
 |some vs=>
  bif bS then .ok (sJ (vs.map (af.ap s.aa))) s
  else
   match fs (freeze s) vs with
   |some vs=>
    match s.up with
    |own::up=>.ok (sJ vs) {own,up,ro:=s.ro}
    |[]=>.fail
   |none=>.fail
 |none=>.fail
def ag.aj(s:ag):ag:={own:=[],up:=s.own::s.up,ro:=s.ro}
abbrev bf:=af→ag→ah
structure nF where
 bo:Nat→af
 dm:mM→gf→mM
 aQ:gf→ad→mM
 a5:Bool→List (Option af)→ag→ah
 ii:af→ag→bf→ah
 bs:ag→bf→af→af→af→ah
 eS:af→ag→bf→ah
 px:af→ag→bf→ah
 f4:List af→List (Nat×Nat×af)→ag→bf→ah
 be:ag→bf→Nat→List af→ah
 Ak:ag→bf→af→ah
 ar:ag→bf→Option Nat→af→ah
 b8:ag→bf→Nat→af→af→ah
 s5:ag→bf→af→ah
 ai:ag→bf→Option af→ah
 b9:ag→bf→IntKind→af→ah
 xF:ag→bf→af→ah
 lg:ag→bf→af→ah
 p2:ag→bf→af→ah
 kz:ag→bf→List af→Nat→af→af→ah
 vd:af→Option af→Option af→ag→bf→ah
 lr:Nat→af→Option af→Option af→Option af→ag→bf→ah
 av:ag→bf→Nat→af→ah
 Al:ag→bf→Nat→Option Nat→af→ah
 bT:ag→bf→Nat→af→af→ah
 hv:ag→bf→Nat→Nat→af→af→ah
 hx:ag→bf→af→af→ah
 py:ag→bf→Nat→Nat→Option Nat→af→af→ah
 bJ:ag→bf→Nat→af→ah
 bt:ag→bf→Nat→List af→ah
 rr:ag→bf→af→List af→ah
 hd:ag→bf→Nat→List af→ah
 xG:ag→bf→af→List af→ah
 xH:ag→bf→Option Nat→af→Nat→af→af→ah
 Am:ag→bf→List (Option Nat×af)→Nat→List af→ah
 xI:ag→bf→List (Option Nat×af)→af→List af→ah
 cI:ag→bf→Bool→af→ah
 gd:ag→bf→Nat→Nat→Option Loc→af→af→ah
 ve:ag→bf→Nat→Nat→Option Loc→af→af→ah
 vf:ag→bf→Nat→Nat→Option Loc→af→af→ah
 o6:ag→bf→Nat→List af→ah
 o7:ag→bf→Nat→List af→ah
 vg:ag→bf→Nat→Nat→af→af→ah
 mf:Nat→Nat→af→Option af→Option af→Option af→ag→bf→ah
 rs:ag→bf→Nat→af→af→ah
 yL:ag→bf→(af→af→Option af)→List af→ah
 vh:ag→bf→Option Loc→ah
 xJ:ag→bf→wE→af→af→af→ah
 xK:ag→bf→wE→af→Bool→af→af→ah
 ae:af→Bool→(bf→ah)→ag→bf→ah
 aR:af→ah→ah→ah
 An:Nat→Nat→af→(af→ag→(qb→ag→ah)→ah)→ag→(qb→ag→ah)→ah
def l0(G:Nat→af)(ao:Nat→af):Option bC→Option af
 |none=>none
 |some x=>some (aq G ao x)
def yM(G:Nat→af)(ao:Nat→af):Option bC→Option Loc
 |none=>some (.l 0)
 |some x=>ac2 (aq G ao x)
def partsOf(G:Nat→af)(ao:Nat→af):List (Nat×Nat×bC)→List (Nat×Nat×af)
 |[]=>[]
 |(off,sz,x)::ec=>(off,sz,aq G ao x)::partsOf G ao ec
def qp(P:nF)(ao:Nat→af)(s:ag)(k:bf)(op:gg):ah:=
 match op with
 |.move x=>k (aq P.bo ao x) s
 |.nb x=>k (nV (aq P.bo ao x)) s
 |.pick c a b=>P.bs s k (aq P.bo ao c) (aq P.bo ao a) (aq P.bo ao b)
 |.alloc zero=>P.ii (.ref (.l s.own.length) 0) (s.new (.cells zero)) k
 |.e1 x=>P.eS (aq P.bo ao x) s k
 |.jX x=>P.px (aq P.bo ao x) s k
 |.build zero parts=>P.f4 zero (partsOf P.bo ao parts) s k
 |.buildSlice sz parts=>P.be s k sz (parts.map (aq P.bo ao))
 |.oK x=>P.Ak s k (aq P.bo ao x)
 |.load n a=>P.ar s k n (aq P.bo ao a)
 |.store n a v=>P.b8 s k n (aq P.bo ao a) ((aq P.bo ao v).ap s.aa)
 |.la m y n a v=>P.xH s k m (aq P.bo ao y) n (aq P.bo ao a) ((aq P.bo ao v).ap s.aa)
 |.nilCheck x=>P.s5 s k (aq P.bo ao x)
 |.bin op x y=>P.ai s k (an op (aq P.bo ao x) (aq P.bo ao y))
 |.eq neg e x y=>P.ai s k ((lB e (aq P.bo ao x) (aq P.bo ao y)).map fun b=>.bool (bif neg then !b else b))
 |.un op x=>P.ai s k (kl op (aq P.bo ao x))
 |.lj d x=>P.b9 s k d (aq P.bo ao x)
 |.nU x=>P.xF s k (aq P.bo ao x)
 |.gN x=>P.lg s k (aq P.bo ao x)
 |.iY x=>P.p2 s k (aq P.bo ao x)
 |.jI t x=>P.ii (.iface t ((aq P.bo ao x).ap s.aa)) s k
 |.ko f dI=>P.ii (.fn f (dI.map fun x=>(aq P.bo ao x).ap s.aa)) s k
 |.makeSlice zero bytes l c=>P.kz s k zero bytes (aq P.bo ao l) (aq P.bo ao c)
 |.kq x gn bX=>P.vd (aq P.bo ao x) (l0 P.bo ao gn) (l0 P.bo ao bX) s k
 |.slice z x gn bX iJ=>P.lr z (aq P.bo ao x) (l0 P.bo ao gn) (l0 P.bo ao bX) (l0 P.bo ao iJ) s k
 |.fieldAddr off a=>P.av s k off (aq P.bo ao a)
 |.field off n x=>P.Al s k off n (aq P.bo ao x)
 |.iZ sz x i=>P.bT s k sz (aq P.bo ao x) (aq P.bo ao i)
 |.e6 sz len x i=>P.hv s k sz len (aq P.bo ao x) (aq P.bo ao i)
 |.mP x i=>P.hx s k (aq P.bo ao x) (aq P.bo ao i)
 |.mQ sz len n x i=>P.py s k sz len n (aq P.bo ao x) (aq P.bo ao i)
 |.extract x i=>P.bJ s k i (aq P.bo ao x)
 |.call f args=>P.bt s k f (args.map fun x=>(aq P.bo ao x).ap s.aa)
 |.eA f args=>P.rr s k (aq P.bo ao f) (args.map fun x=>(aq P.bo ao x).ap s.aa)
 |.hA f args=>P.hd s k f (args.map fun x=>(aq P.bo ao x).ap s.aa)
 |.lM f args=>P.xG s k (aq P.bo ao f) (args.map fun x=>(aq P.bo ao x).ap s.aa)
 |.lA iq f args=>P.Am s k (iq.map fun x=>(x.1,aq P.bo ao x.2)) f (args.map fun x=>(aq P.bo ao x).ap s.aa)
 |.jY iq f args=>P.xI s k (iq.map fun x=>(x.1,aq P.bo ao x.2)) (aq P.bo ao f) (args.map fun x=>(aq P.bo ao x).ap s.aa)
 |.len b x=>P.cI s k b (aq P.bo ao x)
 |.append q bytes b x y=>P.gd s k q bytes (yM P.bo ao b) (aq P.bo ao x) (aq P.bo ao y)
 |.jK q bytes b x y=>P.vf s k q bytes (yM P.bo ao b) (aq P.bo ao x) (aq P.bo ao y)
 |.gC sz parts=>P.o6 s k sz (parts.map fun x=>(aq P.bo ao x).ap s.aa)
 |.gB sz parts=>P.o7 s k sz (parts.map fun x=>(aq P.bo ao x).ap s.aa)
 |.jL q bytes x y=>P.vg s k q bytes (aq P.bo ao x) (aq P.bo ao y)
 |.jJ q bytes b x y=>P.ve s k q bytes (yM P.bo ao b) (aq P.bo ao x) (aq P.bo ao y)
 |.iS z n x gn bX iJ=>P.mf z n (aq P.bo ao x) (l0 P.bo ao gn) (l0 P.bo ao bX) (l0 P.bo ao iJ) s k
 |.copy q d x=>P.rs s k q (aq P.bo ao d) (aq P.bo ao x)
 |.min xs=>P.yL s k min2 (xs.map fun x=>(aq P.bo ao x).ap s.aa)
 |.max xs=>P.yL s k max2 (xs.map fun x=>(aq P.bo ao x).ap s.aa)
 |.makeMap b=>P.vh s k (yM P.bo ao b)
 |.mR kJ m x v=>P.xJ s k kJ (aq P.bo ao m) ((aq P.bo ao x).ap s.aa) ((aq P.bo ao v).ap s.aa)
 |.lookup kJ zero ok m x=>P.xK s k kJ zero ok (aq P.bo ao m) ((aq P.bo ao x).ap s.aa)
 |.ui neg x=>P.ai s k (ya neg (aq P.bo ao x))
 |.no=>.fail
def mC(P:nF):List cT→eL→ag→(eL→ag→ah)→ah
 |[],ao,s,fin=>fin ao s
 |o::os,ao,s,fin=>
  match o.guard with
  |none=>qp P ao.get s (fun v s=>i5 ao o.dst v fun ao=>mC P os ao s fin) o.op
  |some (t,want)=>P.ae (ao.get t) want (fun k=>qp P ao.get s k o.op) s (fun v s=>i5 ao o.dst v fun ao=>mC P os ao s fin)
def aP(P:nF):ad→mM
 |.skip,ao,s,k=>k .norm ao s
 |.region none ops,ao,s,k=>mC P ops ao s (fun ao s=>k .norm ao s)
 |.region (some []) ops,ao,s,k=>mC P ops ao s (fun ao s=>k .norm ao s)
 |.region (some (_::_)) _,_,_,_=>.fail
 |.seq a b,ao,s,k=>aP P a ao s (ga (aP P b) k)
 |.mask m a,ao,s,k=>P.aQ m a (eL.mask m ao) s k
 |.cond c a b,ao,s,k=>P.aR (aq P.bo ao.get c) (aP P a ao s k) (aP P b ao s k)
 |.block id c,ao,s,k=>aP P c ao s (ek id k)
 |.loop bS c,ao,s,k=>P.dm (aP P c) bS (eL.mask bS ao) s k
 |.exit id,ao,s,k=>k (.exit id) ao s
 |.scope c,ao,s,k=>aP P c ao s k
 |.ret,ao,s,k=>k .ret ao s
 |.range j f g p a b,ao,s,k=>P.An j f (aq P.bo ao.get g) (fun x s lN=>i5 ao (some p) x fun ep=>aP P a ep s (C0 (aP P b) fun e _ s=>lN e s)) s fun e s=>k e ao s
def FK(ao:eL)(s:ag):sI→Option af
 |.t n=>some (ao.get n)
 |.cell a n=>ky s (ao.get a) n
def bH(P:nF)(fn:c0):f9:=fun x ao s=>
 match x with
 |.norm=>P.a5 fn.bS (fn.results.map (FK ao s)) s
 |.ret=>P.a5 fn.bS (fn.results.map (FK ao s)) s
 |_=>.fail
def jE:ad→Bool
 |.region (some (_::_)) _=>false
 |.seq a b|.cond _ a b=>jE a&&jE b
 |.mask _ a|.block _ a|.loop _ a|.scope a=>jE a
 |.range _ _ _ _ a b=>jE a&&jE b
 |_=>true
noncomputable def mD(G:Nat→af)(c:Nat→List af→ag→ah):nF where
 bo:=G
 dm:=bQ
 aQ:=fun _ a ao s k=>exec (gH G c bQ) a ao s k
 a5:=rq
 ii:=fun v s k=>k v s
 bs:=fun s k nS a b=>nf (gH G c bQ) s k nS a b
 eS:=PH
 px:=vc
 f4:=FJ
 be:=fun s k sz es=>hS (gH G c bQ) s k sz es
 Ak:=fun s k v=>mS (gH G c bQ) s k v
 ar:=fun s k n v=>d8 (gH G c bQ) s k n v
 b8:=fun s k n a v=>fl (gH G c bQ) s k n a v
 s5:=fun s k v=>i6 (gH G c bQ) s k v
 ai:=fun s k v=>qC (gH G c bQ) s k v
 b9:=fun s k d v=>kd (gH G c bQ) s k d v
 xF:=fun s k v=>ml s k v
 lg:=fun s k v=>gD (gH G c bQ) s k v
 p2:=fun s k v=>hj (gH G c bQ) s k v
 kz:=fun s k z b l nS=>nd (gH G c bQ) s k z b l nS
 vd:=hSub
 lr:=m1
 av:=fun s k off v=>gO (gH G c bQ) s k off v
 Al:=fun s k off n v=>lP (gH G c bQ) s k off n v
 bT:=fun s k sz x i=>kL (gH G c bQ) s k sz x i
 hv:=fun s k sz len x i=>hR (gH G c bQ) s k sz len x i
 hx:=fun s k x i=>h8 (gH G c bQ) s k x i
 py:=fun s k sz len n x i=>kr (gH G c bQ) s k sz len n x i
 bJ:=fun s k i v=>kc (gH G c bQ) s k i v
 bt:=fun s k f args=>eA (gH G c bQ) s k (fun _ _=>.fail) f args
 rr:=fun s k f args=>lb (gH G c bQ) s k (fun _ _=>.fail) f args
 hd:=fun s k f args=>hF (gH G c bQ) s k f args
 xG:=fun s k f args=>jQ (gH G c bQ) s k f args
 xH:=fun s k m y n a v=>lk (gH G c bQ) s k m y n a v
 Am:=fun s k iq f args=>h3 (gH G c bQ) s k (fun _ _=>.fail) iq f args
 xI:=fun s k iq f args=>ks (gH G c bQ) s k (fun _ _=>.fail) iq f args
 cI:=fun s k b v=>pL (gH G c bQ) s k b v
 gd:=fun s k q bytes b x y=>gX (gH G c bQ) s k q bytes b x y
 vf:=fun s k q bytes b x y=>mm (gH G c bQ) s k q bytes b x y
 o6:=fun s k sz es=>jP (gH G c bQ) s k sz es
 o7:=fun s k sz es=>jO (gH G c bQ) s k sz es
 vg:=fun s k q bytes x y=>l7 (gH G c bQ) s k q bytes (yb s x) y
 ve:=fun s k q bytes b x y=>kR (gH G c bQ) s k q bytes b x y
 mf:=fun z n x gn bX iJ s k=>rp z n x gn bX iJ s k
 rs:=fun s k q d x=>lQ (gH G c bQ) s k q d x
 yL:=fun s k f xs=>lc (gH G c bQ) s k f xs
 vh:=fun s k b=>l8 (gH G c bQ) s k b
 xJ:=fun s k kJ m x v=>ll (gH G c bQ) s k kJ m x v
 xK:=fun s k kJ z ok m x=>lm (gH G c bQ) s k kJ z ok m x
 ae:=yK
 aR:=WI
 An:=nY
section
variable(G:Nat→af)(c:Nat→List af→ag→ah)
theorem xL(d:Nat)(ao:Nat→af):∀(ec:List (Nat×Nat×bC)) (cs:List af),yJ d cs (partsOf G ao ec)=fk G d ao cs ec
 |[],cs=>rfl
 |(off,sz,x)::ec,cs=>by simp only[partsOf,yJ,fk];rw[xL d ao ec]
theorem yN(ao:Nat→af)(o:Option bC)(d:Nat):pH (l0 G ao o) d=dH G ao o d:=by cases o<;> rfl
theorem s6(ao:Nat→af)(s:ag)(k:bf)(op:gg):qp (mD G c) ao s k op=aJ (gH G c bQ) ao s k (fun _ _=>.fail) op:=by
 cases op<;> try rfl
 case build zero parts=>
  simp only[qp,aJ,mD,FJ,xL,qC];show _=match (fk G s.aa ao zero parts).map .agg with |some v=>k v s|none=>.fail
  cases fk G s.aa ao zero parts<;> rfl
 case kq x gn bX=>simp only[qp,aJ,mD,hSub,jN,yN];rfl
 case slice z x gn bX iJ=>
  simp only[qp,aJ,mD,m1,jZ,yN];show _=jZ (gH G c bQ) ao s k z (aq G ao x) gn bX iJ;unfold jZ;cases aq G ao x<;> try rfl
  cases iJ<;> rfl
 case iS z n x gn bX iJ=>simp only[qp,aJ,mD,rp,iD,yN];show _=iD (gH G c bQ) ao s k z n (aq G ao x) gn bX iJ;unfold iD;cases aq G ao x<;> rfl
theorem nm:∀(os:List cT) (ao:eL) (s:ag) (fin:eL→ag→ah),mC (mD G c) os ao s fin=fw (gH G c bQ) os ao s fin (fun _ _ _=>.fail)
 |[],ao,s,fin=>rfl
 |o::os,ao,s,fin=>by
  simp only[mC,fw];have key:(fun(v:af) (s:ag)=>i5 ao o.dst v fun ao=>mC (mD G c) os ao s fin)=fun v s=>i5 ao o.dst v fun ao=>fw (gH G c bQ) os ao s fin (fun _ _ _=>.fail):=by funext v s;congr 1;funext ao;exact nm os ao s fin
  cases cC:o.guard with
  |none=>simp only[mn,b2];rw[key,s6]
  |some p=>obtain⟨t,want⟩:=p;simp only[mn,key,s6];rw[show(mD G c).ae=yK from rfl];unfold yK;cases ao.get t<;> rfl
theorem o8:∀(code:ad),jE code=true→aP (mD G c) code=exec (gH G c bQ) code:=by
 intro code
 induction code with
 |skip=>intro _;rfl
 |region nc ops=>
  intro h;cases nc with
  |none=>funext ao s k;exact nm G c ops ao s _
  |some nc=>
   cases nc with
   |nil=>funext ao s k;simp only[aP,exec,List.all_nil,b2];exact nm G c ops ao s _
   |cons _ _=>simp [jE] at h
 |seq a b q r=>intro h;simp only[jE,bn] at h;funext ao s k;simp only[aP,exec,q h.1,r h.2]
 |mask m a e=>intro h;funext ao s k;simp only[aP,exec,ig];rfl
 |cond x a b q r=>intro h;simp only[jE,bn] at h;funext ao s k;simp only[aP,exec,q h.1,r h.2];rfl
 |block id a e=>intro h;funext ao s k;simp only[aP,exec,e h]
 |loop bS a e=>intro h;funext ao s k;simp only[aP,exec,e h,ig];rfl
 |exit id=>intro _;rfl
 |scope a e=>intro h;funext ao s k;simp only[aP,exec,e h]
 |ret=>intro _;rfl
 |range j f g p a b q r=>intro h;simp only[jE,bn] at h;funext ao s k;simp only[aP,exec,q h.1,r h.2];rfl
theorem xM{α β e:Type}(f:β→Option e)(g:α→β):∀l:List α,fs f (l.map g)=fs (fun x=>f (g x)) l
 |[]=>rfl
 |x::l=>by simp only[fK,fs,xM f g l]
theorem Dl(fn:c0):bH (mD G c) fn=Kd .not fn:=by
 have key:∀ao s,rq fn.bS (fn.results.map (FK ao s)) s=finish .not fn ao s:=fun ao s=>by
  unfold rq finish;rw[xM,show(fun x=>FK ao s x)=qH ao s from by funext x;cases x<;> rfl];cases fs (qH ao s) fn.results with
  |none=>rfl
  |some vs=>cases fn.bS<;> rfl
 funext x ao s;cases x with
 |norm=>exact key ao s
 |ret=>exact key ao s
 |_=>rfl
end
structure nF.pw (Z:nF):Prop where
 m:∀m a ao s k,jE a=true→Z.aQ m a ao s k=aP Z a ao s k
 l:∀c bS ao s k,jE c=true→Z.dm (aP Z c) bS ao s k=aP Z c ao s (eU bS (Z.dm (aP Z c) bS) k)
section
variable(T:Nat→Option c0)(G:Nat→af)(X:Nat→List af→ag→ah)
noncomputable def aU:nF:=mD G (aL T G X)
theorem WJ:(aU T G X).pw:=by
 refine⟨fun m a ao s k h=>?_,fun c bS ao s k h=>?_⟩
 ·unfold aU;rw[o8 G _ a h];rfl
 ·unfold aU;rw[o8 G _ c h];exact yI c bS ao s k
theorem IV{f:Nat}{fn:c0}{args:List af}{s:ag}(eR:T f=some fn)(dp:Nat.beq args.length fn.abg=true)(a3:jE fn.body=true):
  aL T G X f args s=b0 args 0 .e fun ao=>aP (aU T G X) fn.body ao (bif fn.bS then s else s.aj) (bH (aU T G X) fn):=by
 rw[yH];unfold body;rw[eR];simp only[dp,b2,aU,o8 G _ fn.body a3,Dl];congr;funext ao;cases fn.bS<;> rfl
instance:Inhabited (aU T G X).pw:=⟨WJ T G X⟩
theorem cz{f:Nat}{fn:c0}{args:List af}{s:ag}(eR:T f=some fn:=by kernel_rfl)(dp:Nat.beq args.length fn.abg=true:=by kernel_rfl)(a3:jE fn.body=true:=by kernel_rfl):aL T G X f args s=b0 args 0 .e fun ao=>aP (aU T G X) fn.body ao (bif fn.bS then s else s.aj) (bH (aU T G X) fn):=IV T G X eR dp a3
end
theorem nF.pw.fW{Z:nF}(h:Z.pw){m:gf}{a:ad}{ao:eL}{s:ag}{k:f9}{R:ah}(e:jE a=true:=by kernel_rfl)(q:aP Z a ao s k=R:=by kernel_rfl):Z.aQ m a ao s k=R:=(h.m m a ao s k e).trans q
theorem nF.pw.s7{Z:nF}(h:Z.pw){c:ad}{bS:gf}{ao:eL}{s:ag}{k:f9}{R:ah}(e:jE c=true:=by kernel_rfl)(q:aP Z c ao s (eU bS (Z.dm (aP Z c) bS) k)=R:=by kernel_rfl):Z.dm (aP Z c) bS ao s k=R:=(h.l c bS ao s k e).trans q
end Go.Ab
end
section
namespace Go.Ab
variable{T:Nat→Option c0}{G:Nat→af}{X:Nat→List af→ag→ah}{s:ag}{k:bf}
theorem hD(n:Option Nat)(v:af):(aU T G X).ar s k n v=d8 (gH G (aL T G X) bQ) s k n v:=rfl
theorem k4(n:Nat)(a v:af):(aU T G X).b8 s k n a v=fl (gH G (aL T G X) bQ) s k n a v:=rfl
theorem cJ(v:af):(aU T G X).ii v s k=k v s:=rfl
theorem cK(v:af):(aU T G X).ai s k (some v)=k v s:=rfl
theorem bY(t:Bool)(a b:af):(aU T G X).bs s k (.bool t) a b=k (if t=true then a else b) s:=by cases t<;> rfl
theorem bl(t:Bool)(a b:ah):(aU T G X).aR (.bool t) a b=if t=true then a else b:=by cases t<;> rfl
theorem vi(t w:Bool)(op:bf→ah):(aU T G X).ae (.bool t) w op s k=if t=w then op k else k (.ea []) s:=by cases t<;> cases w<;> rfl
theorem bU(l:List af)(w:Bool)(op:bf→ah):(aU T G X).ae (.ea l) w op s k=k (.ea []) s:=rfl
def nG(v:af)(op:bf→ah)(s:ag)(k:bf):ah:=
 match v with
 |.bool b=>bif b then op k else k (.bool false) s
 |_=>.fail
def sx(v:af)(op:bf→ah)(s:ag)(k:bf):ah:=
 match v with
 |.bool b=>bif b then k (.bool true) s else op k
 |_=>.fail
theorem b4(t:Bool)(op:bf→ah):nG (.bool t) op s k=if t=true then op k else k (.bool false) s:=by cases t<;> rfl
theorem c4(t:Bool)(op:bf→ah):sx (.bool t) op s k=if t=true then k (.bool true) s else op k:=by cases t<;> rfl
theorem cc(v:af)(gz:bf→ah):(aU T G X).ae v true (gz) s (fun bN s1=>(aU T G X).bs s1 k v bN (.bool false))=nG v (fun k=>gz k) s k:=by
 cases v<;> try rfl
 rename_i b;cases b<;> rfl
theorem c5(v:af)(gz:bf→ah):(aU T G X).ae v false (gz) s (fun bN s1=>(aU T G X).bs s1 k v (.bool true) bN)=sx v (fun k=>gz k) s k:=by
 cases v<;> try rfl
 rename_i b;cases b<;> rfl
theorem cd(v:af)(gz:bf→ah)(e:af→ag→bf→ah):(aU T G X).ae v true (gz) s (fun bN s1=>(aU T G X).ae v true (e bN s1) s1 (fun h s2=>(aU T G X).bs s2 k v h (.bool false)))=nG v (fun k=>gz (fun bN s1=>e bN s1 k)) s k:=by
 cases v<;> try rfl
 rename_i b;cases b<;> rfl
theorem c6(v:af)(gz:bf→ah)(e:af→ag→bf→ah):(aU T G X).ae v false (gz) s (fun bN s1=>(aU T G X).ae v false (e bN s1) s1 (fun h s2=>(aU T G X).bs s2 k v (.bool true) h))=sx v (fun k=>gz (fun bN s1=>e bN s1 k)) s k:=by
 cases v<;> try rfl
 rename_i b;cases b<;> rfl
theorem b5(v:af)(gz:bf→ah)(h:af→ag→bf→ah)(q:af→ag→af→ag→bf→ah):(aU T G X).ae v true (gz) s (fun bN s1=>(aU T G X).ae v true (h bN s1) s1 (fun e s2=>(aU T G X).ae v true (q bN s1 e s2) s2 (fun r u=>(aU T G X).bs u k v r (.bool false))))=nG v (fun k=>gz (fun bN s1=>h bN s1 (fun e s2=>q bN s1 e s2 k))) s k:=by
 cases v<;> try rfl
 rename_i b;cases b<;> rfl
theorem c7(v:af)(gz:bf→ah)(h:af→ag→bf→ah)(q:af→ag→af→ag→bf→ah):(aU T G X).ae v false (gz) s (fun bN s1=>(aU T G X).ae v false (h bN s1) s1 (fun e s2=>(aU T G X).ae v false (q bN s1 e s2) s2 (fun r u=>(aU T G X).bs u k v (.bool true) r)))=sx v (fun k=>gz (fun bN s1=>h bN s1 (fun e s2=>q bN s1 e s2 k))) s k:=by
 cases v<;> try rfl
 rename_i b;cases b<;> rfl
theorem cf(v:af)(gz:bf→ah)(r:af→ag→bf→ah)(u:af→ag→af→ag→bf→ah)(y:af→ag→af→ag→af→ag→bf→ah):(aU T G X).ae v true (gz) s (fun bN s1=>(aU T G X).ae v true (r bN s1) s1 (fun e s2=>(aU T G X).ae v true (u bN s1 e s2) s2 (fun q h=>(aU T G X).ae v true (y bN s1 e s2 q h) h (fun A B=>(aU T G X).bs B k v A (.bool false)))))=nG v (fun k=>gz (fun bN s1=>r bN s1 (fun e s2=>u bN s1 e s2 (fun q h=>y bN s1 e s2 q h k)))) s k:=by
 cases v<;> try rfl
 rename_i b;cases b<;> rfl
theorem c8(v:af)(gz:bf→ah)(r:af→ag→bf→ah)(u:af→ag→af→ag→bf→ah)(y:af→ag→af→ag→af→ag→bf→ah):(aU T G X).ae v false (gz) s (fun bN s1=>(aU T G X).ae v false (r bN s1) s1 (fun e s2=>(aU T G X).ae v false (u bN s1 e s2) s2 (fun q h=>(aU T G X).ae v false (y bN s1 e s2 q h) h (fun A B=>(aU T G X).bs B k v (.bool true) A))))=sx v (fun k=>gz (fun bN s1=>r bN s1 (fun e s2=>u bN s1 e s2 (fun q h=>y bN s1 e s2 q h k)))) s k:=by
 cases v<;> try rfl
 rename_i b;cases b<;> rfl
theorem cg(v:af)(gz:bf→ah)(y:af→ag→bf→ah)(A:af→ag→af→ag→bf→ah)(B:af→ag→af→ag→af→ag→bf→ah)(F:af→ag→af→ag→af→ag→af→ag→bf→ah):(aU T G X).ae v true (gz) s (fun bN s1=>(aU T G X).ae v true (y bN s1) s1 (fun e s2=>(aU T G X).ae v true (A bN s1 e s2) s2 (fun q h=>(aU T G X).ae v true (B bN s1 e s2 q h) h (fun u r=>(aU T G X).ae v true (F bN s1 e s2 q h u r) r (fun H I=>(aU T G X).bs I k v H (.bool false))))))=nG v (fun k=>gz (fun bN s1=>y bN s1 (fun e s2=>A bN s1 e s2 (fun q h=>B bN s1 e s2 q h (fun u r=>F bN s1 e s2 q h u r k))))) s k:=by
 cases v<;> try rfl
 rename_i b;cases b<;> rfl
theorem c9(v:af)(gz:bf→ah)(y:af→ag→bf→ah)(A:af→ag→af→ag→bf→ah)(B:af→ag→af→ag→af→ag→bf→ah)(F:af→ag→af→ag→af→ag→af→ag→bf→ah):(aU T G X).ae v false (gz) s (fun bN s1=>(aU T G X).ae v false (y bN s1) s1 (fun e s2=>(aU T G X).ae v false (A bN s1 e s2) s2 (fun q h=>(aU T G X).ae v false (B bN s1 e s2 q h) h (fun u r=>(aU T G X).ae v false (F bN s1 e s2 q h u r) r (fun H I=>(aU T G X).bs I k v (.bool true) H)))))=sx v (fun k=>gz (fun bN s1=>y bN s1 (fun e s2=>A bN s1 e s2 (fun q h=>B bN s1 e s2 q h (fun u r=>F bN s1 e s2 q h u r k))))) s k:=by
 cases v<;> try rfl
 rename_i b;cases b<;> rfl
theorem ch(v:af)(gz:bf→ah)(B:af→ag→bf→ah)(F:af→ag→af→ag→bf→ah)(H:af→ag→af→ag→af→ag→bf→ah)(I:af→ag→af→ag→af→ag→af→ag→bf→ah)(J:af→ag→af→ag→af→ag→af→ag→af→ag→bf→ah):(aU T G X).ae v true (gz) s (fun bN s1=>(aU T G X).ae v true (B bN s1) s1 (fun e s2=>(aU T G X).ae v true (F bN s1 e s2) s2 (fun q h=>(aU T G X).ae v true (H bN s1 e s2 q h) h (fun u r=>(aU T G X).ae v true (I bN s1 e s2 q h u r) r (fun A y=>(aU T G X).ae v true (J bN s1 e s2 q h u r A y) y (fun K L=>(aU T G X).bs L k v K (.bool false)))))))=nG v (fun k=>gz (fun bN s1=>B bN s1 (fun e s2=>F bN s1 e s2 (fun q h=>H bN s1 e s2 q h (fun u r=>I bN s1 e s2 q h u r (fun A y=>J bN s1 e s2 q h u r A y k)))))) s k:=by
 cases v<;> try rfl
 rename_i b;cases b<;> rfl
theorem da(v:af)(gz:bf→ah)(B:af→ag→bf→ah)(F:af→ag→af→ag→bf→ah)(H:af→ag→af→ag→af→ag→bf→ah)(I:af→ag→af→ag→af→ag→af→ag→bf→ah)(J:af→ag→af→ag→af→ag→af→ag→af→ag→bf→ah):(aU T G X).ae v false (gz) s (fun bN s1=>(aU T G X).ae v false (B bN s1) s1 (fun e s2=>(aU T G X).ae v false (F bN s1 e s2) s2 (fun q h=>(aU T G X).ae v false (H bN s1 e s2 q h) h (fun u r=>(aU T G X).ae v false (I bN s1 e s2 q h u r) r (fun A y=>(aU T G X).ae v false (J bN s1 e s2 q h u r A y) y (fun K L=>(aU T G X).bs L k v (.bool true) K))))))=sx v (fun k=>gz (fun bN s1=>B bN s1 (fun e s2=>F bN s1 e s2 (fun q h=>H bN s1 e s2 q h (fun u r=>I bN s1 e s2 q h u r (fun A y=>J bN s1 e s2 q h u r A y k)))))) s k:=by
 cases v<;> try rfl
 rename_i b;cases b<;> rfl
theorem ci(v:af)(gz:bf→ah)(H:af→ag→bf→ah)(I:af→ag→af→ag→bf→ah)(J:af→ag→af→ag→af→ag→bf→ah)(K:af→ag→af→ag→af→ag→af→ag→bf→ah)(L:af→ag→af→ag→af→ag→af→ag→af→ag→bf→ah)(M:af→ag→af→ag→af→ag→af→ag→af→ag→af→ag→bf→ah):(aU T G X).ae v true (gz) s (fun bN s1=>(aU T G X).ae v true (H bN s1) s1 (fun e s2=>(aU T G X).ae v true (I bN s1 e s2) s2 (fun q h=>(aU T G X).ae v true (J bN s1 e s2 q h) h (fun u r=>(aU T G X).ae v true (K bN s1 e s2 q h u r) r (fun A y=>(aU T G X).ae v true (L bN s1 e s2 q h u r A y) y (fun F B=>(aU T G X).ae v true (M bN s1 e s2 q h u r A y F B) B (fun N O=>(aU T G X).bs O k v N (.bool false))))))))=nG v (fun k=>gz (fun bN s1=>H bN s1 (fun e s2=>I bN s1 e s2 (fun q h=>J bN s1 e s2 q h (fun u r=>K bN s1 e s2 q h u r (fun A y=>L bN s1 e s2 q h u r A y (fun F B=>M bN s1 e s2 q h u r A y F B k))))))) s k:=by
 cases v<;> try rfl
 rename_i b;cases b<;> rfl
theorem db(v:af)(gz:bf→ah)(H:af→ag→bf→ah)(I:af→ag→af→ag→bf→ah)(J:af→ag→af→ag→af→ag→bf→ah)(K:af→ag→af→ag→af→ag→af→ag→bf→ah)(L:af→ag→af→ag→af→ag→af→ag→af→ag→bf→ah)(M:af→ag→af→ag→af→ag→af→ag→af→ag→af→ag→bf→ah):(aU T G X).ae v false (gz) s (fun bN s1=>(aU T G X).ae v false (H bN s1) s1 (fun e s2=>(aU T G X).ae v false (I bN s1 e s2) s2 (fun q h=>(aU T G X).ae v false (J bN s1 e s2 q h) h (fun u r=>(aU T G X).ae v false (K bN s1 e s2 q h u r) r (fun A y=>(aU T G X).ae v false (L bN s1 e s2 q h u r A y) y (fun F B=>(aU T G X).ae v false (M bN s1 e s2 q h u r A y F B) B (fun N O=>(aU T G X).bs O k v (.bool true) N)))))))=sx v (fun k=>gz (fun bN s1=>H bN s1 (fun e s2=>I bN s1 e s2 (fun q h=>J bN s1 e s2 q h (fun u r=>K bN s1 e s2 q h u r (fun A y=>L bN s1 e s2 q h u r A y (fun F B=>M bN s1 e s2 q h u r A y F B k))))))) s k:=by
 cases v<;> try rfl
 rename_i b;cases b<;> rfl
theorem cj(v:af)(gz:bf→ah)(J:af→ag→bf→ah)(K:af→ag→af→ag→bf→ah)(L:af→ag→af→ag→af→ag→bf→ah)(M:af→ag→af→ag→af→ag→af→ag→bf→ah)(N:af→ag→af→ag→af→ag→af→ag→af→ag→bf→ah)(O:af→ag→af→ag→af→ag→af→ag→af→ag→af→ag→bf→ah)(U:af→ag→af→ag→af→ag→af→ag→af→ag→af→ag→af→ag→bf→ah):(aU T G X).ae v true (gz) s (fun bN s1=>(aU T G X).ae v true (J bN s1) s1 (fun e s2=>(aU T G X).ae v true (K bN s1 e s2) s2 (fun q h=>(aU T G X).ae v true (L bN s1 e s2 q h) h (fun u r=>(aU T G X).ae v true (M bN s1 e s2 q h u r) r (fun A y=>(aU T G X).ae v true (N bN s1 e s2 q h u r A y) y (fun F B=>(aU T G X).ae v true (O bN s1 e s2 q h u r A y F B) B (fun I H=>(aU T G X).ae v true (U bN s1 e s2 q h u r A y F B I H) H (fun V Y=>(aU T G X).bs Y k v V (.bool false)))))))))=nG v (fun k=>gz (fun bN s1=>J bN s1 (fun e s2=>K bN s1 e s2 (fun q h=>L bN s1 e s2 q h (fun u r=>M bN s1 e s2 q h u r (fun A y=>N bN s1 e s2 q h u r A y (fun F B=>O bN s1 e s2 q h u r A y F B (fun I H=>U bN s1 e s2 q h u r A y F B I H k)))))))) s k:=by
 cases v<;> try rfl
 rename_i b;cases b<;> rfl
theorem dc(v:af)(gz:bf→ah)(J:af→ag→bf→ah)(K:af→ag→af→ag→bf→ah)(L:af→ag→af→ag→af→ag→bf→ah)(M:af→ag→af→ag→af→ag→af→ag→bf→ah)(N:af→ag→af→ag→af→ag→af→ag→af→ag→bf→ah)(O:af→ag→af→ag→af→ag→af→ag→af→ag→af→ag→bf→ah)(U:af→ag→af→ag→af→ag→af→ag→af→ag→af→ag→af→ag→bf→ah):(aU T G X).ae v false (gz) s (fun bN s1=>(aU T G X).ae v false (J bN s1) s1 (fun e s2=>(aU T G X).ae v false (K bN s1 e s2) s2 (fun q h=>(aU T G X).ae v false (L bN s1 e s2 q h) h (fun u r=>(aU T G X).ae v false (M bN s1 e s2 q h u r) r (fun A y=>(aU T G X).ae v false (N bN s1 e s2 q h u r A y) y (fun F B=>(aU T G X).ae v false (O bN s1 e s2 q h u r A y F B) B (fun I H=>(aU T G X).ae v false (U bN s1 e s2 q h u r A y F B I H) H (fun V Y=>(aU T G X).bs Y k v (.bool true) V))))))))=sx v (fun k=>gz (fun bN s1=>J bN s1 (fun e s2=>K bN s1 e s2 (fun q h=>L bN s1 e s2 q h (fun u r=>M bN s1 e s2 q h u r (fun A y=>N bN s1 e s2 q h u r A y (fun F B=>O bN s1 e s2 q h u r A y F B (fun I H=>U bN s1 e s2 q h u r A y F B I H k)))))))) s k:=by
 cases v<;> try rfl
 rename_i b;cases b<;> rfl
theorem ck(v:af)(gz:bf→ah)(L:af→ag→bf→ah)(M:af→ag→af→ag→bf→ah)(N:af→ag→af→ag→af→ag→bf→ah)(O:af→ag→af→ag→af→ag→af→ag→bf→ah)(U:af→ag→af→ag→af→ag→af→ag→af→ag→bf→ah)(V:af→ag→af→ag→af→ag→af→ag→af→ag→af→ag→bf→ah)(Y:af→ag→af→ag→af→ag→af→ag→af→ag→af→ag→af→ag→bf→ah)(Z:af→ag→af→ag→af→ag→af→ag→af→ag→af→ag→af→ag→af→ag→bf→ah):(aU T G X).ae v true (gz) s (fun bN s1=>(aU T G X).ae v true (L bN s1) s1 (fun e s2=>(aU T G X).ae v true (M bN s1 e s2) s2 (fun q h=>(aU T G X).ae v true (N bN s1 e s2 q h) h (fun u r=>(aU T G X).ae v true (O bN s1 e s2 q h u r) r (fun A y=>(aU T G X).ae v true (U bN s1 e s2 q h u r A y) y (fun F B=>(aU T G X).ae v true (V bN s1 e s2 q h u r A y F B) B (fun I H=>(aU T G X).ae v true (Y bN s1 e s2 q h u r A y F B I H) H (fun K J=>(aU T G X).ae v true (Z bN s1 e s2 q h u r A y F B I H K J) J (fun aa ab=>(aU T G X).bs ab k v aa (.bool false))))))))))=nG v (fun k=>gz (fun bN s1=>L bN s1 (fun e s2=>M bN s1 e s2 (fun q h=>N bN s1 e s2 q h (fun u r=>O bN s1 e s2 q h u r (fun A y=>U bN s1 e s2 q h u r A y (fun F B=>V bN s1 e s2 q h u r A y F B (fun I H=>Y bN s1 e s2 q h u r A y F B I H (fun K J=>Z bN s1 e s2 q h u r A y F B I H K J k))))))))) s k:=by
 cases v<;> try rfl
 rename_i b;cases b<;> rfl
theorem dd(v:af)(gz:bf→ah)(L:af→ag→bf→ah)(M:af→ag→af→ag→bf→ah)(N:af→ag→af→ag→af→ag→bf→ah)(O:af→ag→af→ag→af→ag→af→ag→bf→ah)(U:af→ag→af→ag→af→ag→af→ag→af→ag→bf→ah)(V:af→ag→af→ag→af→ag→af→ag→af→ag→af→ag→bf→ah)(Y:af→ag→af→ag→af→ag→af→ag→af→ag→af→ag→af→ag→bf→ah)(Z:af→ag→af→ag→af→ag→af→ag→af→ag→af→ag→af→ag→af→ag→bf→ah):(aU T G X).ae v false (gz) s (fun bN s1=>(aU T G X).ae v false (L bN s1) s1 (fun e s2=>(aU T G X).ae v false (M bN s1 e s2) s2 (fun q h=>(aU T G X).ae v false (N bN s1 e s2 q h) h (fun u r=>(aU T G X).ae v false (O bN s1 e s2 q h u r) r (fun A y=>(aU T G X).ae v false (U bN s1 e s2 q h u r A y) y (fun F B=>(aU T G X).ae v false (V bN s1 e s2 q h u r A y F B) B (fun I H=>(aU T G X).ae v false (Y bN s1 e s2 q h u r A y F B I H) H (fun K J=>(aU T G X).ae v false (Z bN s1 e s2 q h u r A y F B I H K J) J (fun aa ab=>(aU T G X).bs ab k v (.bool true) aa)))))))))=sx v (fun k=>gz (fun bN s1=>L bN s1 (fun e s2=>M bN s1 e s2 (fun q h=>N bN s1 e s2 q h (fun u r=>O bN s1 e s2 q h u r (fun A y=>U bN s1 e s2 q h u r A y (fun F B=>V bN s1 e s2 q h u r A y F B (fun I H=>Y bN s1 e s2 q h u r A y F B I H (fun K J=>Z bN s1 e s2 q h u r A y F B I H K J k))))))))) s k:=by
 cases v<;> try rfl
 rename_i b;cases b<;> rfl
theorem bw(v:af)(gz:bf→ah)(N:af→ag→bf→ah)(O:af→ag→af→ag→bf→ah)(U:af→ag→af→ag→af→ag→bf→ah)(V:af→ag→af→ag→af→ag→af→ag→bf→ah)(Y:af→ag→af→ag→af→ag→af→ag→af→ag→bf→ah)(Z:af→ag→af→ag→af→ag→af→ag→af→ag→af→ag→bf→ah)(aa:af→ag→af→ag→af→ag→af→ag→af→ag→af→ag→af→ag→bf→ah)(ab:af→ag→af→ag→af→ag→af→ag→af→ag→af→ag→af→ag→af→ag→bf→ah)(ac:af→ag→af→ag→af→ag→af→ag→af→ag→af→ag→af→ag→af→ag→af→ag→bf→ah):(aU T G X).ae v true (gz) s (fun bN s1=>(aU T G X).ae v true (N bN s1) s1 (fun e s2=>(aU T G X).ae v true (O bN s1 e s2) s2 (fun q h=>(aU T G X).ae v true (U bN s1 e s2 q h) h (fun u r=>(aU T G X).ae v true (V bN s1 e s2 q h u r) r (fun A y=>(aU T G X).ae v true (Y bN s1 e s2 q h u r A y) y (fun F B=>(aU T G X).ae v true (Z bN s1 e s2 q h u r A y F B) B (fun I H=>(aU T G X).ae v true (aa bN s1 e s2 q h u r A y F B I H) H (fun K J=>(aU T G X).ae v true (ab bN s1 e s2 q h u r A y F B I H K J) J (fun M L=>(aU T G X).ae v true (ac bN s1 e s2 q h u r A y F B I H K J M L) L (fun ad ai=>(aU T G X).bs ai k v ad (.bool false)))))))))))=nG v (fun k=>gz (fun bN s1=>N bN s1 (fun e s2=>O bN s1 e s2 (fun q h=>U bN s1 e s2 q h (fun u r=>V bN s1 e s2 q h u r (fun A y=>Y bN s1 e s2 q h u r A y (fun F B=>Z bN s1 e s2 q h u r A y F B (fun I H=>aa bN s1 e s2 q h u r A y F B I H (fun K J=>ab bN s1 e s2 q h u r A y F B I H K J (fun M L=>ac bN s1 e s2 q h u r A y F B I H K J M L k)))))))))) s k:=by
 cases v<;> try rfl
 rename_i b;cases b<;> rfl
theorem cl(v:af)(gz:bf→ah)(N:af→ag→bf→ah)(O:af→ag→af→ag→bf→ah)(U:af→ag→af→ag→af→ag→bf→ah)(V:af→ag→af→ag→af→ag→af→ag→bf→ah)(Y:af→ag→af→ag→af→ag→af→ag→af→ag→bf→ah)(Z:af→ag→af→ag→af→ag→af→ag→af→ag→af→ag→bf→ah)(aa:af→ag→af→ag→af→ag→af→ag→af→ag→af→ag→af→ag→bf→ah)(ab:af→ag→af→ag→af→ag→af→ag→af→ag→af→ag→af→ag→af→ag→bf→ah)(ac:af→ag→af→ag→af→ag→af→ag→af→ag→af→ag→af→ag→af→ag→af→ag→bf→ah):(aU T G X).ae v false (gz) s (fun bN s1=>(aU T G X).ae v false (N bN s1) s1 (fun e s2=>(aU T G X).ae v false (O bN s1 e s2) s2 (fun q h=>(aU T G X).ae v false (U bN s1 e s2 q h) h (fun u r=>(aU T G X).ae v false (V bN s1 e s2 q h u r) r (fun A y=>(aU T G X).ae v false (Y bN s1 e s2 q h u r A y) y (fun F B=>(aU T G X).ae v false (Z bN s1 e s2 q h u r A y F B) B (fun I H=>(aU T G X).ae v false (aa bN s1 e s2 q h u r A y F B I H) H (fun K J=>(aU T G X).ae v false (ab bN s1 e s2 q h u r A y F B I H K J) J (fun M L=>(aU T G X).ae v false (ac bN s1 e s2 q h u r A y F B I H K J M L) L (fun ad ai=>(aU T G X).bs ai k v (.bool true) ad))))))))))=sx v (fun k=>gz (fun bN s1=>N bN s1 (fun e s2=>O bN s1 e s2 (fun q h=>U bN s1 e s2 q h (fun u r=>V bN s1 e s2 q h u r (fun A y=>Y bN s1 e s2 q h u r A y (fun F B=>Z bN s1 e s2 q h u r A y F B (fun I H=>aa bN s1 e s2 q h u r A y F B I H (fun K J=>ab bN s1 e s2 q h u r A y F B I H K J (fun M L=>ac bN s1 e s2 q h u r A y F B I H K J M L k)))))))))) s k:=by
 cases v<;> try rfl
 rename_i b;cases b<;> rfl
theorem bx(v:af)(gz:bf→ah)(U:af→ag→bf→ah)(V:af→ag→af→ag→bf→ah)(Y:af→ag→af→ag→af→ag→bf→ah)(Z:af→ag→af→ag→af→ag→af→ag→bf→ah)(aa:af→ag→af→ag→af→ag→af→ag→af→ag→bf→ah)(ab:af→ag→af→ag→af→ag→af→ag→af→ag→af→ag→bf→ah)(ac:af→ag→af→ag→af→ag→af→ag→af→ag→af→ag→af→ag→bf→ah)(ad:af→ag→af→ag→af→ag→af→ag→af→ag→af→ag→af→ag→af→ag→bf→ah)(ai:af→ag→af→ag→af→ag→af→ag→af→ag→af→ag→af→ag→af→ag→af→ag→bf→ah)(aj:af→ag→af→ag→af→ag→af→ag→af→ag→af→ag→af→ag→af→ag→af→ag→af→ag→bf→ah):(aU T G X).ae v true (gz) s (fun bN s1=>(aU T G X).ae v true (U bN s1) s1 (fun e s2=>(aU T G X).ae v true (V bN s1 e s2) s2 (fun q h=>(aU T G X).ae v true (Y bN s1 e s2 q h) h (fun u r=>(aU T G X).ae v true (Z bN s1 e s2 q h u r) r (fun A y=>(aU T G X).ae v true (aa bN s1 e s2 q h u r A y) y (fun F B=>(aU T G X).ae v true (ab bN s1 e s2 q h u r A y F B) B (fun I H=>(aU T G X).ae v true (ac bN s1 e s2 q h u r A y F B I H) H (fun K J=>(aU T G X).ae v true (ad bN s1 e s2 q h u r A y F B I H K J) J (fun M L=>(aU T G X).ae v true (ai bN s1 e s2 q h u r A y F B I H K J M L) L (fun O N=>(aU T G X).ae v true (aj bN s1 e s2 q h u r A y F B I H K J M L O N) N (fun ak al=>(aU T G X).bs al k v ak (.bool false))))))))))))=nG v (fun k=>gz (fun bN s1=>U bN s1 (fun e s2=>V bN s1 e s2 (fun q h=>Y bN s1 e s2 q h (fun u r=>Z bN s1 e s2 q h u r (fun A y=>aa bN s1 e s2 q h u r A y (fun F B=>ab bN s1 e s2 q h u r A y F B (fun I H=>ac bN s1 e s2 q h u r A y F B I H (fun K J=>ad bN s1 e s2 q h u r A y F B I H K J (fun M L=>ai bN s1 e s2 q h u r A y F B I H K J M L (fun O N=>aj bN s1 e s2 q h u r A y F B I H K J M L O N k))))))))))) s k:=by
 cases v<;> try rfl
 rename_i b;cases b<;> rfl
theorem cm(v:af)(gz:bf→ah)(U:af→ag→bf→ah)(V:af→ag→af→ag→bf→ah)(Y:af→ag→af→ag→af→ag→bf→ah)(Z:af→ag→af→ag→af→ag→af→ag→bf→ah)(aa:af→ag→af→ag→af→ag→af→ag→af→ag→bf→ah)(ab:af→ag→af→ag→af→ag→af→ag→af→ag→af→ag→bf→ah)(ac:af→ag→af→ag→af→ag→af→ag→af→ag→af→ag→af→ag→bf→ah)(ad:af→ag→af→ag→af→ag→af→ag→af→ag→af→ag→af→ag→af→ag→bf→ah)(ai:af→ag→af→ag→af→ag→af→ag→af→ag→af→ag→af→ag→af→ag→af→ag→bf→ah)(aj:af→ag→af→ag→af→ag→af→ag→af→ag→af→ag→af→ag→af→ag→af→ag→af→ag→bf→ah):(aU T G X).ae v false (gz) s (fun bN s1=>(aU T G X).ae v false (U bN s1) s1 (fun e s2=>(aU T G X).ae v false (V bN s1 e s2) s2 (fun q h=>(aU T G X).ae v false (Y bN s1 e s2 q h) h (fun u r=>(aU T G X).ae v false (Z bN s1 e s2 q h u r) r (fun A y=>(aU T G X).ae v false (aa bN s1 e s2 q h u r A y) y (fun F B=>(aU T G X).ae v false (ab bN s1 e s2 q h u r A y F B) B (fun I H=>(aU T G X).ae v false (ac bN s1 e s2 q h u r A y F B I H) H (fun K J=>(aU T G X).ae v false (ad bN s1 e s2 q h u r A y F B I H K J) J (fun M L=>(aU T G X).ae v false (ai bN s1 e s2 q h u r A y F B I H K J M L) L (fun O N=>(aU T G X).ae v false (aj bN s1 e s2 q h u r A y F B I H K J M L O N) N (fun ak al=>(aU T G X).bs al k v (.bool true) ak)))))))))))=sx v (fun k=>gz (fun bN s1=>U bN s1 (fun e s2=>V bN s1 e s2 (fun q h=>Y bN s1 e s2 q h (fun u r=>Z bN s1 e s2 q h u r (fun A y=>aa bN s1 e s2 q h u r A y (fun F B=>ab bN s1 e s2 q h u r A y F B (fun I H=>ac bN s1 e s2 q h u r A y F B I H (fun K J=>ad bN s1 e s2 q h u r A y F B I H K J (fun M L=>ai bN s1 e s2 q h u r A y F B I H K J M L (fun O N=>aj bN s1 e s2 q h u r A y F B I H K J M L O N k))))))))))) s k:=by
 cases v<;> try rfl
 rename_i b;cases b<;> rfl
theorem bz(v:af)(gz:bf→ah)(Y:af→ag→bf→ah)(Z:af→ag→af→ag→bf→ah)(aa:af→ag→af→ag→af→ag→bf→ah)(ab:af→ag→af→ag→af→ag→af→ag→bf→ah)(ac:af→ag→af→ag→af→ag→af→ag→af→ag→bf→ah)(ad:af→ag→af→ag→af→ag→af→ag→af→ag→af→ag→bf→ah)(ai:af→ag→af→ag→af→ag→af→ag→af→ag→af→ag→af→ag→bf→ah)(aj:af→ag→af→ag→af→ag→af→ag→af→ag→af→ag→af→ag→af→ag→bf→ah)(ak:af→ag→af→ag→af→ag→af→ag→af→ag→af→ag→af→ag→af→ag→af→ag→bf→ah)(al:af→ag→af→ag→af→ag→af→ag→af→ag→af→ag→af→ag→af→ag→af→ag→af→ag→bf→ah)(am:af→ag→af→ag→af→ag→af→ag→af→ag→af→ag→af→ag→af→ag→af→ag→af→ag→af→ag→bf→ah):(aU T G X).ae v true (gz) s (fun bN s1=>(aU T G X).ae v true (Y bN s1) s1 (fun e s2=>(aU T G X).ae v true (Z bN s1 e s2) s2 (fun q h=>(aU T G X).ae v true (aa bN s1 e s2 q h) h (fun u r=>(aU T G X).ae v true (ab bN s1 e s2 q h u r) r (fun A y=>(aU T G X).ae v true (ac bN s1 e s2 q h u r A y) y (fun F B=>(aU T G X).ae v true (ad bN s1 e s2 q h u r A y F B) B (fun I H=>(aU T G X).ae v true (ai bN s1 e s2 q h u r A y F B I H) H (fun K J=>(aU T G X).ae v true (aj bN s1 e s2 q h u r A y F B I H K J) J (fun M L=>(aU T G X).ae v true (ak bN s1 e s2 q h u r A y F B I H K J M L) L (fun O N=>(aU T G X).ae v true (al bN s1 e s2 q h u r A y F B I H K J M L O N) N (fun V U=>(aU T G X).ae v true (am bN s1 e s2 q h u r A y F B I H K J M L O N V U) U (fun an ao=>(aU T G X).bs ao k v an (.bool false)))))))))))))=nG v (fun k=>gz (fun bN s1=>Y bN s1 (fun e s2=>Z bN s1 e s2 (fun q h=>aa bN s1 e s2 q h (fun u r=>ab bN s1 e s2 q h u r (fun A y=>ac bN s1 e s2 q h u r A y (fun F B=>ad bN s1 e s2 q h u r A y F B (fun I H=>ai bN s1 e s2 q h u r A y F B I H (fun K J=>aj bN s1 e s2 q h u r A y F B I H K J (fun M L=>ak bN s1 e s2 q h u r A y F B I H K J M L (fun O N=>al bN s1 e s2 q h u r A y F B I H K J M L O N (fun V U=>am bN s1 e s2 q h u r A y F B I H K J M L O N V U k)))))))))))) s k:=by
 cases v<;> try rfl
 rename_i b;cases b<;> rfl
theorem cn(v:af)(gz:bf→ah)(Y:af→ag→bf→ah)(Z:af→ag→af→ag→bf→ah)(aa:af→ag→af→ag→af→ag→bf→ah)(ab:af→ag→af→ag→af→ag→af→ag→bf→ah)(ac:af→ag→af→ag→af→ag→af→ag→af→ag→bf→ah)(ad:af→ag→af→ag→af→ag→af→ag→af→ag→af→ag→bf→ah)(ai:af→ag→af→ag→af→ag→af→ag→af→ag→af→ag→af→ag→bf→ah)(aj:af→ag→af→ag→af→ag→af→ag→af→ag→af→ag→af→ag→af→ag→bf→ah)(ak:af→ag→af→ag→af→ag→af→ag→af→ag→af→ag→af→ag→af→ag→af→ag→bf→ah)(al:af→ag→af→ag→af→ag→af→ag→af→ag→af→ag→af→ag→af→ag→af→ag→af→ag→bf→ah)(am:af→ag→af→ag→af→ag→af→ag→af→ag→af→ag→af→ag→af→ag→af→ag→af→ag→af→ag→bf→ah):(aU T G X).ae v false (gz) s (fun bN s1=>(aU T G X).ae v false (Y bN s1) s1 (fun e s2=>(aU T G X).ae v false (Z bN s1 e s2) s2 (fun q h=>(aU T G X).ae v false (aa bN s1 e s2 q h) h (fun u r=>(aU T G X).ae v false (ab bN s1 e s2 q h u r) r (fun A y=>(aU T G X).ae v false (ac bN s1 e s2 q h u r A y) y (fun F B=>(aU T G X).ae v false (ad bN s1 e s2 q h u r A y F B) B (fun I H=>(aU T G X).ae v false (ai bN s1 e s2 q h u r A y F B I H) H (fun K J=>(aU T G X).ae v false (aj bN s1 e s2 q h u r A y F B I H K J) J (fun M L=>(aU T G X).ae v false (ak bN s1 e s2 q h u r A y F B I H K J M L) L (fun O N=>(aU T G X).ae v false (al bN s1 e s2 q h u r A y F B I H K J M L O N) N (fun V U=>(aU T G X).ae v false (am bN s1 e s2 q h u r A y F B I H K J M L O N V U) U (fun an ao=>(aU T G X).bs ao k v (.bool true) an))))))))))))=sx v (fun k=>gz (fun bN s1=>Y bN s1 (fun e s2=>Z bN s1 e s2 (fun q h=>aa bN s1 e s2 q h (fun u r=>ab bN s1 e s2 q h u r (fun A y=>ac bN s1 e s2 q h u r A y (fun F B=>ad bN s1 e s2 q h u r A y F B (fun I H=>ai bN s1 e s2 q h u r A y F B I H (fun K J=>aj bN s1 e s2 q h u r A y F B I H K J (fun M L=>ak bN s1 e s2 q h u r A y F B I H K J M L (fun O N=>al bN s1 e s2 q h u r A y F B I H K J M L O N (fun V U=>am bN s1 e s2 q h u r A y F B I H K J M L O N V U k)))))))))))) s k:=by
 cases v<;> try rfl
 rename_i b;cases b<;> rfl
theorem IW(v:af)(h:v.fh=true):(aU T G X).px v s k=k (.ref (.l s.own.length) 0) (s.new (.cells (v.ap s.aa).cells)):=by show vc v s k=_;unfold vc;rw[h];rfl
section
variable(cs:List af)(eu:IntKind)(n:Int)(b:Bool)(fc:List Nat)(a:Loc)(o sz:Nat)(es:List af)(g:fi)(f:Nat)
theorem aB:(aU T G X).eS (.agg cs) s k=k (.bI cs) s:=rfl
theorem aF:(aU T G X).eS (.int eu n) s k=k (.bI [.int eu n]) s:=rfl
theorem ax:(aU T G X).eS (.bool b) s k=k (.bI [.bool b]) s:=rfl
theorem aG:(aU T G X).eS (.str fc) s k=k (.bI [.str fc]) s:=rfl
theorem aM:(aU T G X).eS (.bG sz es g) s k=k (.bI [.bG sz es (g.ap s.aa)]) s:=rfl
theorem aN:(aU T G X).eS (.fn f cs) s k=k (.bI [.fn f cs]) s:=rfl
theorem ay:(aU T G X).eS (.bI cs) s k=k (.bI [.bI cs]) s:=rfl
theorem aH:(aU T G X).eS (.ref a o) s k=k (.bI [.ref (a.ap s.aa) o]) s:=rfl
end
theorem aE(sz:Nat)(es:List af)(g:fi):(aU T G X).cI s k false (.bG sz es g)=k (.int .i64 es.length) s:=rfl
theorem aV(a:Loc)(off n c sz:Nat):(aU T G X).cI s k false (.cZ a off n c sz)=k (.int .i64 n) s:=rfl
theorem aZ(fc:List Nat):(aU T G X).cI s k true (.str fc)=k (.int .i64 fc.length) s:=rfl
theorem ba(c:af)(cs:List af):(aU T G X).ar s k none (.bI (c::cs))=k c s:=rfl
theorem bb(n:Nat)(cs:List af)(h:n≤cs.length):(aU T G X).ar s k (some n) (.bI cs)=k (.agg (cs.take n)) s:=by show(bif Nat.ble n cs.length then _ else _)=_;rw[show Nat.ble n cs.length=true from eQ h];rfl
theorem ds(off:Nat)(cs:List af):(aU T G X).av s k off (.bI cs)=k (.bI (cs.drop off)) s:=rfl
theorem aA(off o:Nat)(a:Loc):(aU T G X).av s k off (.ref a o)=k (.ref a (o+off)) s:=rfl
theorem g6(eu:IntKind)(n:Nat):e2 (.int eu (n:Int))=some n:=by simp [e2]
theorem jF(sz:Nat)(es:List af)(g:fi)(eu:IntKind)(i:Nat)(e:af)(h:es[i]? =some e):(aU T G X).bT s k sz (.bG sz es g) (.int eu (i:Int))=k (.bI e.cells) s:=by show kL (gH G (aL T G X) bQ) s k sz (.bG sz es g) (.int eu (i:Int))=_;unfold kL;rw[g6];simp only[show Nat.beq sz sz=true from gM sz,b2,h];rfl
theorem FL(sz:Nat)(es:List af)(g:fi)(eu:IntKind)(i:Int)(e:af)(eZ:0≤i)(h:es[i.toNat]? =some e):(aU T G X).bT s k sz (.bG sz es g) (.int eu i)=k (.bI e.cells) s:=by
 have:=jF (T:=T) (G:=G) (X:=X) (s:=s) (k:=k) sz es g eu i.toNat e h
 rwa [Int.toNat_of_nonneg eZ] at this
theorem yO{f:Nat}{args:List af}{v:af}{s':ag}(h:aL T G X f args s=.ok v s')(cS:s'.aa=s.aa):(aU T G X).bt s k f args=k v s':=by show eA _ _ _ _ _ _=_;unfold eA;show(match aL T G X f args s with |.ok v s'=>_|.panic v s'=>_|.fail=>_)=_;rw[h];simp only[cS,gM,b2]
theorem a9{f:Nat}{args:List af}{v:af}(h:aL T G X f args s=.ok v s):(aU T G X).bt s k f args=k v s:=yO h rfl
theorem bu{f:Nat}{dI args:List af}:(aU T G X).rr s k (.fn f dI) args=(aU T G X).bt s k f (args++dI):=rfl
theorem mE{f:Nat}{args:List af}{v:af}{s':ag}(e:af.aY args=true)(h:aL T G X f args {own:=[],up:=[],ro:=[]}=.ok v s')(bO:v.bd=true):(aU T G X).hd s k f args=k v s:=by show hF _ _ _ _ _=_;unfold hF;rw[e];simp only[b2];show(match aL T G X f args _ with |.ok v _=>_|_=>_)=_;rw[h];simp only[bO,b2]
theorem gv(i:Nat)(vs:List af)(v:af)(h:vs[i]? =some v):(aU T G X).bJ s k i (.ea vs)=k v s:=by show qC _ _ _ _=_;rw[h];rfl
section
variable(eu:IntKind)(a b:Int)
theorem WK:an .add (.int eu a) (.int eu b)=some (.int eu (eu.wrap (a+b))):=by simp [an,gm]
theorem WL:an .sub (.int eu a) (.int eu b)=some (.int eu (eu.wrap (a-b))):=by simp [an,gm]
theorem WM:an .mul (.int eu a) (.int eu b)=some (.int eu (eu.wrap (a*b))):=by simp [an,gm]
theorem WN(h:b≠0):an .quo (.int eu a) (.int eu b)=some (.int eu (eu.wrap (a.tdiv b))):=by simp [an,gm,h]
theorem WO(h:b≠0):an .rem (.int eu a) (.int eu b)=some (.int eu (a.tmod b)):=by simp [an,gm,h]
theorem WQ:an .eql (.int eu a) (.int eu b)=some (.bool (decide (a=b))):=by simp only[an,gm,↓reduceIte];congr 2
theorem WR:an .neq (.int eu a) (.int eu b)=some (.bool (decide (¬a=b))):=by simp only[an,gm,↓reduceIte,bne];congr 2;by_cases h:a=b<;> simp [h]
theorem WS:an .lss (.int eu a) (.int eu b)=some (.bool (decide (a<b))):=by simp [an,gm]
theorem WT:an .leq (.int eu a) (.int eu b)=some (.bool (decide (a≤b))):=by simp [an,gm]
theorem WU:an .gtr (.int eu a) (.int eu b)=some (.bool (decide (b<a))):=by simp [an,gm]
theorem WV:an .geq (.int eu a) (.int eu b)=some (.bool (decide (b≤a))):=by simp [an,gm]
end
section
variable(eu:IntKind)(a b:Int)
theorem fp:(aU T G X).ai s k (an .add (.int eu a) (.int eu b))=k (.int eu (eu.wrap (a+b))) s:=by rw[WK];rfl
theorem fz:(aU T G X).ai s k (an .sub (.int eu a) (.int eu b))=k (.int eu (eu.wrap (a-b))) s:=by rw[WL];rfl
theorem fO:(aU T G X).ai s k (an .mul (.int eu a) (.int eu b))=k (.int eu (eu.wrap (a*b))) s:=by rw[WM];rfl
theorem Kn(h:b≠0):(aU T G X).ai s k (an .quo (.int eu a) (.int eu b))=k (.int eu (eu.wrap (a.tdiv b))) s:=by rw[WN _ _ _ h];rfl
theorem Ko(h:b≠0):(aU T G X).ai s k (an .rem (.int eu a) (.int eu b))=k (.int eu (a.tmod b)) s:=by rw[WO _ _ _ h];rfl
theorem bE:(aU T G X).ai s k (an .eql (.int eu a) (.int eu b))=k (.bool (decide (a=b))) s:=by rw[WQ];rfl
theorem cA:(aU T G X).ai s k (an .neq (.int eu a) (.int eu b))=k (.bool (decide (¬a=b))) s:=by rw[WR];rfl
theorem bm:(aU T G X).ai s k (an .lss (.int eu a) (.int eu b))=k (.bool (decide (a<b))) s:=by rw[WS];rfl
theorem c1:(aU T G X).ai s k (an .leq (.int eu a) (.int eu b))=k (.bool (decide (a≤b))) s:=by rw[WT];rfl
theorem ca:(aU T G X).ai s k (an .gtr (.int eu a) (.int eu b))=k (.bool (decide (b<a))) s:=by rw[WU];rfl
theorem cF:(aU T G X).ai s k (an .geq (.int eu a) (.int eu b))=k (.bool (decide (b≤a))) s:=by rw[WV];rfl
theorem cU(t:Bool):(aU T G X).ai s k (kl .not (.bool t))=k (.bool (!t)) s:=rfl
theorem de:(aU T G X).ai s k (kl .neg (.int eu a))=k (.int eu (eu.wrap (0-a))) s:=rfl
end
theorem eD(a:Int)(au: -9223372036854775808≤a)(az:a≤9223372036854775807):IntKind.wrap .i64 a=a:=IntWalk.i64_in a ⟨au,az⟩
def af.plain:af→Bool
 |.int .. |.bool _|.str _|.hP|.h2|.hQ|.fj=>true
 |_=>false
theorem xp{s:ag}{v:af}(h:v.plain=true):freeze s v=some v:=by cases v<;> simp [af.plain] at h<;> rfl
section
variable{own:List du}{u:List du}{dq ro:List (List du)}
theorem a0(eu:IntKind)(n:Int):(aU T G X).a5 false [some (.int eu n)] {own,up:=u::dq,ro}=.ok (.int eu n) {own:=u,up:=dq,ro}:=rfl
theorem aO(b:Bool):(aU T G X).a5 false [some (.bool b)] {own,up:=u::dq,ro}=.ok (.bool b) {own:=u,up:=dq,ro}:=rfl
theorem a1(b:List Nat):(aU T G X).a5 false [some (.str b)] {own,up:=u::dq,ro}=.ok (.str b) {own:=u,up:=dq,ro}:=rfl
end
theorem aS(eu:IntKind)(n:Int):(aU T G X).a5 false [some (.int eu n)] s.aj=.ok (.int eu n) s:=rfl
theorem aD(b:Bool):(aU T G X).a5 false [some (.bool b)] s.aj=.ok (.bool b) s:=rfl
theorem a2(b:List Nat):(aU T G X).a5 false [some (.str b)] s.aj=.ok (.str b) s:=rfl
theorem g7(s:ag)(o:du):(s.new o).get (.l s.own.length)=some o:=by simp [ag.get,ag.new]
theorem Dm(s:ag)(o o':du):(s.new o).set (.l s.own.length) o'=some (s.new o'):=by simp [ag.set,ag.new]
theorem s8{α:Type}:∀(vs cs:List α),vs.length=cs.length→dS cs 0 vs=vs:=by
 intro vs cs h;apply List.ext_getElem?;intro j;rw[gP _ _ _ (by omega)];split
 ·simp
 ·rw[List.getElem?_eq_none (by omega),List.getElem?_eq_none (by omega)]
theorem cP(n:Nat)(vs cs:List af)(au:vs.length=n)(az:cs.length=n)(b3:vs.all af.eO=true):(aU T G X).b8 (s.new (.cells cs)) k n (.ref (.l s.own.length) 0) (.agg vs)=k .dead (s.new (.cells vs)):=by
 rw[k4];unfold fl;simp only[af.fh,af.cells,au,gM,bD,b2];unfold iu;simp only[g7];have e:dS cs 0 vs=vs:=s8 _ _ (by omega);have dU:Nat.ble (0+vs.length) cs.length=true:=eQ (by omega);have h:(s.new (.cells cs)).hB (.l s.own.length) vs=true:=by simp [ag.hB,ag.oL]
 rw[dU,h,b3];simp only[bD,b2,e];show(match (s.new (.cells cs)).set (.l s.own.length) (.cells vs) with |some s=>k .dead s|none=>.fail)=_;rw[Dm]
theorem bV(n:Nat)(cs:List af)(h:n≤cs.length):(aU T G X).ar (s.new (.cells cs)) k (some n) (.ref (.l s.own.length) 0)=k (.agg (cs.take n)) (s.new (.cells cs)):=by rw[hD];simp only[d8,g7,bL,eV];rw[show Nat.ble n cs.length=true from eQ h];rfl
theorem b6(e:af)(cs:List af):(aU T G X).ar (s.new (.cells (e::cs))) k none (.ref (.l s.own.length) 0)=k e (s.new (.cells (e::cs))):=by rw[hD];simp only[d8,g7];rfl
theorem co(h e:af)(cs:List af):(aU T G X).ar (s.new (.cells (h::e::cs))) k none (.ref (.l s.own.length) 1)=k e (s.new (.cells (h::e::cs))):=by rw[hD];simp only[d8,g7];rfl
theorem cp(h q e:af)(cs:List af):(aU T G X).ar (s.new (.cells (h::q::e::cs))) k none (.ref (.l s.own.length) 2)=k e (s.new (.cells (h::q::e::cs))):=by rw[hD];simp only[d8,g7];rfl
theorem cq(h q r e:af)(cs:List af):(aU T G X).ar (s.new (.cells (h::q::r::e::cs))) k none (.ref (.l s.own.length) 3)=k e (s.new (.cells (h::q::r::e::cs))):=by rw[hD];simp only[d8,g7];rfl
theorem cr(h q r u e:af)(cs:List af):(aU T G X).ar (s.new (.cells (h::q::r::u::e::cs))) k none (.ref (.l s.own.length) 4)=k e (s.new (.cells (h::q::r::u::e::cs))):=by rw[hD];simp only[d8,g7];rfl
theorem ct(h q r u y e:af)(cs:List af):(aU T G X).ar (s.new (.cells (h::q::r::u::y::e::cs))) k none (.ref (.l s.own.length) 5)=k e (s.new (.cells (h::q::r::u::y::e::cs))):=by rw[hD];simp only[d8,g7];rfl
theorem cv(h q r u y A e:af)(cs:List af):(aU T G X).ar (s.new (.cells (h::q::r::u::y::A::e::cs))) k none (.ref (.l s.own.length) 6)=k e (s.new (.cells (h::q::r::u::y::A::e::cs))):=by rw[hD];simp only[d8,g7];rfl
theorem cw(e h q r u y A Dn:af)(cs:List af):(aU T G X).ar (s.new (.cells (e::h::q::r::u::y::A::Dn::cs))) k none (.ref (.l s.own.length) 7)=k Dn (s.new (.cells (e::h::q::r::u::y::A::Dn::cs))):=by rw[hD];simp only[d8,g7];rfl
theorem cx(h q r u y A B Dn e:af)(cs:List af):(aU T G X).ar (s.new (.cells (h::q::r::u::y::A::B::Dn::e::cs))) k none (.ref (.l s.own.length) 8)=k e (s.new (.cells (h::q::r::u::y::A::B::Dn::e::cs))):=by rw[hD];simp only[d8,g7];rfl
structure Child (s S:ag):Prop where
 up:S.up=s.own::s.up
 ro:S.ro=s.ro
theorem Child.aj(s:ag):Child s s.aj:=⟨rfl,rfl⟩
theorem Child.new{s S:ag}(h:Child s S)(o:du):Child s (S.new o):=⟨h.up,h.ro⟩
theorem iH{s S:ag}(h:Child s S)(v w:af)(hw:freeze S v=some w):(aU T G X).a5 false [some v] S=.ok w s:=by obtain⟨au,az⟩:=h;show rq false [some v] S=_;unfold rq;simp only[fs,f6,ew,cond_false,hw,sJ,au,az]
theorem hE{s S:ag}(h:Child s S)(v1 v2 e q:af)(dU:freeze S v1=some e)(r:freeze S v2=some q):(aU T G X).a5 false [some v1,some v2] S=.ok (.ea [e,q]) s:=by obtain⟨au,az⟩:=h;show rq false [some v1,some v2] S=_;unfold rq;simp only[fs,f6,ew,cond_false,dU,r,sJ,au,az]
theorem ir{s S:ag}(h:Child s S)(eu:IntKind)(n:Int):(aU T G X).a5 false [some (.int eu n)] S=.ok (.int eu n) s:=iH h _ _ rfl
theorem ix{s S:ag}(h:Child s S)(b:Bool):(aU T G X).a5 false [some (.bool b)] S=.ok (.bool b) s:=iH h _ _ rfl
theorem a7(d:Nat)(cs:List af):af.ap d (.agg cs)=.agg cs:=rfl
theorem aI(d:Nat)(eu:IntKind)(n:Int):af.ap d (.int eu n)=.int eu n:=rfl
theorem bc(d:Nat)(b:Bool):af.ap d (.bool b)=.bool b:=rfl
theorem bA(d:Nat)(b:List Nat):af.ap d (.str b)=.str b:=rfl
theorem eW(d f:Nat)(cs:List af):af.ap d (.fn f cs)=.fn f cs:=rfl
theorem ed(d:Nat)(cs:List af):af.ap d (.bI cs)=.bI cs:=rfl
theorem ee(d:Nat):af.ap d .hP=.hP:=rfl
theorem dx(eu:IntKind)(n:Int):af.eO (.int eu n)=true:=rfl
theorem dh(b:Bool):af.eO (.bool b)=true:=rfl
theorem dz(b:List Nat):af.eO (.str b)=true:=rfl
theorem dT(sz:Nat)(es:List af)(g:fi):af.eO (.bG sz es g)=true:=rfl
end Go.Ab
end
