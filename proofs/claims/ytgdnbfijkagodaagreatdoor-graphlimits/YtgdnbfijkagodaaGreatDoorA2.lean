/- A part of the proof: no condition. -/
import Derived.Test.YtgdnbfijkagodaaGreatDoorA1
import Derived.Test.YtgdnbfijkagodaaGreatDoorA0
import Derived.OrdersIn
import Derived.TacticsIn
import Derived.Scope
import Derived.KernelRfl
import Derived.IntWalk
set_option linter.unusedSectionVars false
set_option linter.unusedSimpArgs false
set_option linter.unusedVariables false
section
namespace Go.Ab
theorem hC{G g g':Nat→ae}{o:Option br}{d:Nat}(h:∀x,x∈o.toList→ap G g x=ap G g' x):dv G g o d=dv G g' o d:=by
 cases o with
 |none=>rfl
 |some x=>simp only[dv,h x (by simp)]
theorem m6{G g g':Nat→ae}{d:Nat}:∀(eo:List (Nat×Nat×br)) (cs:List ae),(∀x,x∈eo.map (·.2.2)→ap G g x=ap G g' x)→eY G d g cs eo=eY G d g' cs eo
 |[],_,_=>rfl
 |(off,sz,x)::eo,cs,h=>by simp only[eY,h x (by simp)];congr 1;exact m6 eo _ (fun y fb=>h y (by simp only[fM,List.mem_cons];exact .inr fb))
theorem map_congr{G g g':Nat→ae}{f:ae→ae}(xs:List br)(h:∀x,x∈xs→ap G g x=ap G g' x):xs.map (fun x=>f (ap G g x))=xs.map fun x=>f (ap G g' x):=List.map_congr_left fun x aZ=>by rw[h x aZ]
theorem yX{E:Env}{g g':Nat→ae}{op:fV}(h:∀x,x∈op.Hj→ap E.au g x=ap E.au g' x)(s:ag)(k kp:ae→ag→ah):aE E g s k kp op=aE E g' s k kp op:=by
 cases op<;> simp only[fV.Hj,List.mem_cons,ps,or_false,forall_eq_or_imp,forall_eq,List.mem_append] at h<;> simp only[aE]
 case build z eo=>rw[m6 eo z h]
 case buildSlice sz eo=>have:eo.map (ap E.au g)=eo.map (ap E.au g'):=List.map_congr_left h;rw[this]
 case jU f xs=>rw[map_congr xs h]
 case call f xs=>rw[map_congr xs h]
 case hI f xs=>rw[map_congr xs h]
 case min xs=>rw[map_congr xs h]
 case max xs=>rw[map_congr xs h]
 case ee f xs=>rw[h.1,map_congr xs h.2]
 case lj f xs=>rw[h.1,map_congr xs h.2]
 case jV x fW bN=>
  unfold jk;rw[h.1];cases ap E.au g' x<;> try rfl
  simp only;rw[hC (o:=fW) (fun x aZ=>h.2 x (.inl aZ)),hC (o:=bN) (fun x aZ=>h.2 x (.inr aZ))]
 case slice z x fW bN ii=>
  unfold jw;rw[h.1];have dI:∀d,dv E.au g fW d=dv E.au g' fW d:=fun d=>hC (fun x aZ=>h.2 x (.inl (.inl aZ)))
  have e:∀d,dv E.au g bN d=dv E.au g' bN d:=fun d=>hC (fun x aZ=>h.2 x (.inl (.inr aZ)))
  have p:∀d,dv E.au g ii d=dv E.au g' ii d:=fun d=>hC (fun x aZ=>h.2 x (.inr aZ))
  cases ap E.au g' x<;> try rfl
  ·simp only[dI,e];cases ii with
   |none=>rfl
   |some y=>have:=h.2 y (.inr (by simp));simp only[this]
  ·simp only[dI,e,p]
 case append q b at_ x y=>
  have dI:hS E.au g at_=hS E.au g' at_:=by
   cases at_ with
   |none=>rfl
   |some z=>simp only[hS,h z (.inl (by simp))]
  rw[dI,h x (.inr (.inl rfl)),h y (.inr (.inr rfl))]
 case jh q b at_ x y=>
  have dI:hS E.au g at_=hS E.au g' at_:=by
   cases at_ with
   |none=>rfl
   |some z=>simp only[hS,h z (.inl (by simp))]
  rw[dI,h x (.inr (.inl rfl)),h y (.inr (.inr rfl))]
 case gi sz eo=>rw[map_congr eo h]
 case gj sz eo=>rw[map_congr eo h]
 case ji q b x y=>rw[h.1,h.2]
 case jg q b at_ x y=>
  have dI:hS E.au g at_=hS E.au g' at_:=by
   cases at_ with
   |none=>rfl
   |some z=>simp only[hS,h z (.inl (by simp))]
  rw[dI,h x (.inr (.inl rfl)),h y (.inr (.inr rfl))]
 case ir z n x fW bN ii=>
  unfold ie;rw[h.1];have dI:∀d,dv E.au g fW d=dv E.au g' fW d:=fun d=>hC (fun x aZ=>h.2 x (.inl (.inl aZ)))
  have e:∀d,dv E.au g bN d=dv E.au g' bN d:=fun d=>hC (fun x aZ=>h.2 x (.inl (.inr aZ)))
  have p:∀d,dv E.au g ii d=dv E.au g' ii d:=fun d=>hC (fun x aZ=>h.2 x (.inr aZ))
  simp only[dI,e,p]
 case k6 h5 f xs=>
  have dI:(h5.map fun x=>(x.1,ap E.au g x.2))=h5.map fun x=>(x.1,ap E.au g' x.2):=List.map_congr_left fun x aZ=>by rw[h x.2 (.inl (List.mem_map.2 ⟨x,aZ,rfl⟩))]
  rw[map_congr xs (fun x aZ=>h x (.inr aZ)),dI]
 case jv h5 f xs=>
  have dI:(h5.map fun x=>(x.1,ap E.au g x.2))=h5.map fun x=>(x.1,ap E.au g' x.2):=List.map_congr_left fun x aZ=>by rw[h.2 x.2 (.inl (List.mem_map.2 ⟨x,aZ,rfl⟩))]
  rw[h.1,map_congr xs (fun x aZ=>h.2 x (.inr aZ)),dI]
 case makeMap at_=>
  have dI:hS E.au g at_=hS E.au g' at_:=by
   cases at_ with
   |none=>rfl
   |some z=>simp only[hS,h z (by simp)]
  rw[dI]
 all_goals first|rfl |simp only[h]
def ct(g:Nat→ae)(d:Option Nat)(v:ae):Nat→ae:=
 match d with
 |none=>g
 |some n=>fun m=>if m=n then v else g m
def fH(WV:Option (Nat×Bool))(g:Nat→ae):Option Bool:=
 match WV with
 |none=>some true
 |some (t,w)=>
  match g t with
  |.bool b=>some (b==w)
  |.d7 _=>some false
  |_=>none
def iX(E:Env)(o:cB)(g:Nat→ae)(s:ag):Option (ae×ag):=
 match fH o.guard g with
 |none=>none
 |some false=>some (.d7 [],s)
 |some true=>
  match aE E g s .ok .panic o.op with
  |.ok v s'=>some (v,s')
  |_=>none
def gF(E:Env):List cB→(Nat→ae)→ag→Option ((Nat→ae)×ag)
 |[],g,s=>some (g,s)
 |o::os,g,s=>(iX E o g s).bind fun p=>gF E os (ct g o.dst p.1) p.2
def br.tmp:br→List Nat
 |.t n=>[n]
 |.at m e _=>[m,e]
 |.LG e _=>[e]
 |_=>[]
def cB.looks(o:cB):List Nat:=o.op.Hj.flatMap br.tmp++(o.guard.map (·.1)).toList
def br.same:br→br→Bool
 |.t n,.t m=>Nat.beq n m
 |.g n,.g m=>Nat.beq n m
 |.at _ b o,.LG e o'=>Nat.beq b e&&Nat.beq o o'
 |_,_=>false
theorem br.ig{a b:br}(h:a.same b=true)(G g:Nat→ae):ap G g a=.dead∨ap G g a=ap G g b:=by
 cases a<;> cases b<;> simp [br.same] at h
 ·rw[h];exact .inr rfl
 ·rw[h];exact .inr rfl
 ·rw[h.1,h.2];rename_i t _ _ b off;rcases DC (g t) (g b) off with e|⟨_,e⟩
  ·exact .inl e
  ·exact .inr e
def ud:Option Nat→Option Nat→Bool
 |none,none=>true
 |some a,some b=>Nat.beq a b
 |_,_=>false
theorem wo{a b:Option Nat}(h:ud a b=true):a=b:=by cases a<;> cases b<;> simp [ud] at h<;> simp [h]
def leaves(a b:fV):Bool:=
 match a with
 |.load n x=>
  match b with
  |.k6 h5 _ _|.jv h5 _ _=>h5.any fun y=>ud n y.1&&x.same y.2
  |.jg ..=>true
  |.kG m y _ _ _=>ud n m&&x.same y
  |_=>false
 |_=>false
def indep(a b:cB):Bool:=
 (match a.dst with
  |some d=> !b.looks.contains d
  |none=>true) &&
 (match b.dst with
  |some d=> !a.looks.contains d
  |none=>true) &&
 (match a.dst,b.dst with
  |some d,some e=> !Nat.beq d e
  |_,_=>true) &&
 (Nat.beq a.op.oU 0||Nat.beq b.op.oU 0||(Nat.beq a.op.oU 1&&Nat.beq b.op.oU 1)||leaves a.op b.op||leaves b.op a.op)
theorem Gc{G g:Nat→ae}{d:Option Nat}{v:ae}{x:br}(h:∀n,d=some n→n ∉ x.tmp):ap G (ct g d v) x=ap G g x:=by
 cases d with
 |none=>rfl
 |some n=>
  have e:=h n rfl;cases x<;> try rfl
  ·rename_i t
   have:n≠t:=by simpa [br.tmp] using e
   simp [ap,ct,Ne.symm this]
  ·rename_i t b off
   have:n≠t∧n≠b:=by simpa [br.tmp,not_or] using e
   simp [ap,ct,Ne.symm this.1,Ne.symm this.2]
  ·rename_i b off
   have:n≠b:=by simpa [br.tmp] using e
   simp [ap,ct,Ne.symm this]
theorem yY{E:Env}{o:cB}{g:Nat→ae}{d:Option Nat}{v:ae}(h:∀n,d=some n→n ∉ o.looks)(s:ag):iX E o (ct g d v) s=iX E o g s:=by
 have ar:fH o.guard (ct g d v)=fH o.guard g:=by
  unfold fH;cases cE:o.guard with
  |none=>rfl
  |some p=>
   obtain⟨t,w⟩:=p;cases d with
   |none=>rfl
   |some n=>
    have:n≠t:=fun e=>h n rfl (by rw[cB.looks,cE];simp [e])
    simp [ct,Ne.symm this]
 unfold iX;rw[ar,yX (g':=g) (fun x aZ=>Gc (fun n df q=>h n df (by rw[cB.looks];exact List.mem_append_left _ (List.mem_flatMap.2 ⟨x,aZ,q⟩))))]
theorem Gd{g:Nat→ae}{d e:Option Nat}{v u:ae}(h:∀n m,d=some n→e=some m→n≠m):ct (ct g d v) e u=ct (ct g e u) d v:=by
 cases d with
 |none=>rfl
 |some n=>
  cases e with
  |none=>rfl
  |some m=>
   have:=h n m rfl rfl;funext t;simp only[ct];by_cases ar:t=m
   ·by_cases ay:t=n
    ·exact absurd (ay.symm.trans ar) this
    ·simp [ar,Ne.symm this]
   ·simp [ar]
section
variable{E:Env}(bh:E.F=.not)
include bh
theorem wq{o:cB}(aW:o.op.oU=0){g:Nat→ae}{s s':ag}{v:ae}(h:iX E o g s=some (v,s')):s'=s∧∀e:ag,e.aa=s.aa→iX E o g e=some (v,e):=by
 unfold iX at h ⊢;cases hw:fH o.guard g with
 |none=>rw[hw] at h;cases h
 |some b=>
  rw[hw] at h;cases b with
  |false=>simp only[a8,eC] at h;exact⟨h.2.symm,fun e _=>by rw[←h.1]⟩
  |true=>
   simp only at h;obtain⟨x,aZ⟩:=uc bh g aW s.aa;rw[aZ s _ _ rfl] at h;cases x with
   |none=>simp [fX] at h
   |some y=>simp only[fX,a8,eC] at h;refine⟨h.2.symm,fun e cF=>?_⟩;simp only;rw[aZ e _ _ cF];simp [fX,h.1]
theorem nz{o:cB}(aW:o.op.oU=1){g:Nat→ae}{s s':ag}{v:ae}(h:iX E o g s=some (v,s')):s'=s:=by
 unfold iX at h;cases hw:fH o.guard g with
 |none=>rw[hw] at h;cases h
 |some b=>
  rw[hw] at h;cases b with
  |false=>simp only[a8,eC] at h;exact h.2.symm
  |true=>
   simp only at h;split at h
   ·rename_i fp p e;simp only[a8,eC] at h;rw[←h.2];exact sg bh g aW e
   ·cases h
theorem ue{o:cB}{g:Nat→ae}{s s':ag}{v:ae}(h:iX E o g s=some (v,s')):s'.aa=s.aa:=by
 unfold iX at h;cases hw:fH o.guard g with
 |none=>rw[hw] at h;cases h
 |some b=>
  rw[hw] at h;cases b with
  |false=>simp only[a8,eC] at h;rw[h.2]
  |true=>
   simp only at h;split at h
   ·rename_i fp p e;simp only[a8,eC] at h;rw[←h.2];exact yW bh g e
   ·cases h
theorem nA{n:Option Nat}{cs e:List ae}{s s':ag}{u:ae}{t:ag}(h:cs.take (n.getD 1)=e.take (n.getD 1))(bO:ew E s .ok n cs=.ok u t):ew E s' .ok n e=.ok u s':=by
 cases n with
 |none=>
  simp only[Option.getD_none] at h;cases cs with
  |nil=>simp [ew] at bO
  |cons c cs=>
   cases e with
   |nil=>simp at h
   |cons nk e=>simp only[cN,cQ,List.cons.injEq,and_true] at h;subst h;simp only[ew,bh,aN.not,ah.ok.injEq] at bO ⊢;exact⟨bO.1,trivial⟩
 |some n=>
  simp only[Option.getD_some] at h;simp only[ew,bh,aN.not] at bO ⊢;cases p:Nat.ble n cs.length with
  |false=>rw[p] at bO;cases bO
  |true=>
   rw[p,ci] at bO;simp only[ah.ok.injEq] at bO;have ar:=dL p;have ay:n≤e.length:=by have:=congrArg List.length h;simp only[List.length_take] at this;omega
   rw[show Nat.ble n e.length=true from eK ay,ci,←h,bO.1]
theorem pd{n:Option Nat}{v:ae}{s s':ag}{l:List ae}{u:ae}{t:ag}(ar:eE s n v=some l)(ay:eE s' n v=some l)(bO:dP E s .ok n v=.ok u t):dP E s' .ok n v=.ok u s':=by
 unfold eE at ar ay;cases v<;> simp only[cellsOf] at ar ay<;> try cases ar
 case bU cs=>exact nA bh rfl bO
 case ref a off=>
  simp only[dP] at bO ⊢;cases cE:s.get a with
  |none=>rw[cE] at ar;cases ar
  |some o=>
   rw[cE] at ar bO;cases o<;> try cases ar
   rename_i cs;cases e:s'.get a with
   |none=>rw[e] at ay;cases ay
   |some o'=>
    rw[e] at ay;cases o'<;> try cases ay
    rename_i h;simp only[eb,a8] at ay;exact nA bh ay.symm bO
theorem uf{s:ag}{n:Option Nat}{v:ae}{k:ae→ag→ah}:dP E s k n v=match cellsOf s v with |some cs=>ew E s k n cs|none=>.fail:=by cases v<;> simp only[dP,cellsOf];split<;> rfl
theorem qo{s s':ag}{n:Option Nat}{v u:ae}{t:ag}(h:cellsOf s v=cellsOf s' v)(bO:dP E s .ok n v=.ok u t):dP E s' .ok n v=.ok u s':=by
 rw[uf bh,h] at bO;rw[uf bh];cases aW:cellsOf s' v with
 |none=>rw[aW] at bO;cases bO
 |some cs=>rw[aW] at bO;exact nA bh rfl bO
theorem qp{s s':ag}(h:∀d i,s'.get (.g d i)=s.get (.g d i)∨((∀cs,s.get (.g d i)≠some (.cells cs))∧∀cs,s'.get (.g d i)≠some (.cells cs)))(cF:s'.aa=s.aa)(v:ae):cellsOf s v=cellsOf s' v:=by
 cases v<;> simp only[cellsOf];rename_i a off;have dI:=ag.hA s a;have p:=ag.hA s' a;rw[cF] at p;cases gb:a.aq s.aa with
 |l i=>cases a<;> simp [Loc.aq] at gb
 |g d i=>
  rw[gb] at dI p;rw[←dI,←p];rcases h d i with e|⟨ku,q⟩
  ·rw[e]
  ·cases ar:s.get (.g d i) with
   |none=>
    cases ay:s'.get (.g d i) with
    |none=>rfl
    |some o=>
     cases o<;> try rfl
     exact absurd ay (q _)
   |some o=>
    cases o
    ·exact absurd ar (ku _)
    all_goals
     cases ay:s'.get (.g d i) with
     |none=>rfl
     |some o=>
      cases o<;> try rfl
      exact absurd ay (q _)
theorem ug{q b:Nat}{l:Loc}{sz:Nat}{es:List ae}{g:ga}{y:ae}{s s':ag}{v:ae}(h:iD E s .ok q b l (.cm sz es g) y=.ok v s')(w:ae):cellsOf s w=cellsOf s' w:=by
 simp only[iD,bh,aN.not] at h;split at h
 ·cases h
 ·rename_i z new _;have h:=gE bh h;cases new with
  |nil=>simp only[ah.ok.injEq] at h;rw[h.2]
  |cons c cs=>
   have new:∀{o:cO} {l':Loc} {r:ag},(∀cs,o≠.cells cs)→s.hk l o=some (l',r)→cellsOf s w=cellsOf r w:=fun {o l' r} I df=>by
    obtain⟨d,i,_,A⟩:=hV.by df
    refine qp bh (fun e3 gX=>?_) A.aa w;rw[A.get];split
    ·rename_i B;obtain⟨rfl,rfl⟩:=B;obtain⟨M,ar,ay⟩:=A.here;refine .inr ⟨fun cs aW=>?_,fun cs aW=>I cs (Option.some.inj aW)⟩;rw[ag.lV,ar] at aW;simp only[fZ] at aW;rw[←ay,List.getElem?_eq_none (aC _)] at aW;cases aW
    ·exact .inl rfl
   cases g with
   |any=>cases h
   |nil=>
    simp only at h;split at h
    ·rename_i df;simp only[ah.ok.injEq] at h;rw[←h.2];exact new (fun cs e=>by cases e) df
    ·cases h
   |exact=>
    simp only at h;split at h
    ·rename_i df;simp only[ah.ok.injEq] at h;rw[←h.2];exact new (fun cs e=>by cases e) df
    ·cases h
   |dW a=>
    simp only at h;split at h
    ·rename_i n J;have h:=gE bh h;split at h
     ·rename_i H;simp only[ah.ok.injEq] at h;rw[←h.2];have F:=H;have p:=J;rw[←ag.kX] at F;rw[←ag.hA] at p;cases gb:a.aq s.aa with
      |l i=>cases a<;> simp [Loc.aq] at gb
      |g d i=>
       rw[gb] at F p;refine qp bh (fun e3 gX=>?_) (ag.jE H) w;rw[ag.p1 F p];split
       ·rename_i B;obtain⟨rfl,rfl⟩:=B;refine .inr ⟨fun cs aW=>?_,fun cs aW=>by cases aW⟩;rw[p] at aW;cases aW
       ·exact .inl rfl
     ·cases h
    ·cases h
theorem v3{a b:fV}(h:leaves a b=true){g:Nat→ae}{s s':ag}{v:ae}(p:aE E g s .ok .panic b=.ok v s'):∃n x,a=.load n x∧(cellsOf s (ap E.au g x)=cellsOf s' (ap E.au g x)∨ap E.au g x=.dead∨∃l,eE s n (ap E.au g x)=some l∧eE s' n (ap E.au g x)=some l):=by
 unfold leaves at h;split at h
 ·rename_i n x;refine⟨n,x,rfl,?_⟩;have key:∀(h5:List (Option Nat×br)),(h5.any fun y=>ud n y.1&&x.same y.2)=true→(∀y,y∈h5.map (fun x=>(x.1,ap E.au g x.2))→∃l,eE s y.1 y.2=some l∧eE s' y.1 y.2=some l)→ap E.au g x=.dead∨∃l,eE s n (ap E.au g x)=some l∧eE s' n (ap E.au g x)=some l:=fun h5 ar ay=>by
   obtain⟨y,fb,r⟩:=List.any_eq_true.1 ar;simp only[bm] at r;rcases br.ig r.2 E.au g with e|e
   ·exact .inl e
   rw[wo r.1,e];exact .inr (ay _ (List.mem_map.2 ⟨y,fb,rfl⟩))
  split at h
  ·rename_i h5 f args;simp only[aE,bh,aN.not] at p;exact .inr (key h5 h (ny bh p).2)
  ·rename_i h5 f args;simp only[aE] at p;unfold jX at p;split at p
   ·simp only[bh,aN.not] at p;exact .inr (key h5 h (ny bh p).2)
   ·cases p
  ·rename_i q b at_ x y;simp only[aE] at p;unfold km at p;split at p
   ·unfold hp at p;split at p
    ·exact .inl (ug bh p _)
    ·cases p
   ·cases p
  ·rename_i m y q a u;simp only[bm] at h;rcases br.ig h.2 E.au g with e|e
   ·exact .inr (.inl e)
   ·rw[wo h.1,e];exact .inr (.inr (sh bh p).2)
  ·cases h
 ·cases h
theorem si{a b:cB}(h:leaves a.op b.op=true){g:Nat→ae}{s s':ag}{v:ae}(p:iX E b g s=some (v,s')){u:ae}:iX E a g s=some (u,s)↔iX E a g s'=some (u,s'):=by
 unfold iX at p;cases hw:fH b.guard g with
 |none=>rw[hw] at p;cases p
 |some w=>
  rw[hw] at p;cases w with
  |false=>simp only[a8,eC] at p;rw[p.2]
  |true=>
   simp only at p;split at p
   ·rename_i fp B r;simp only[a8,eC] at p;rw[p.2] at r;obtain⟨n,x,y,A⟩:=v3 bh h r;unfold iX;cases F:fH a.guard g with
    |none=>simp
    |some w=>
     cases w with
     |false=>simp
     |true=>
      simp only[y,aE];rcases A with nY|e|⟨l,ar,ay⟩
      ·constructor
       ·intro f8;split at f8
        ·rename_i q;simp only[a8,eC] at f8;rw[qo bh nY q,f8.1]
        ·cases f8
       ·intro f8;split at f8
        ·rename_i q;simp only[a8,eC] at f8;rw[qo bh nY.symm q,f8.1]
        ·cases f8
      ·rw[e];simp [dP]
      constructor
      ·intro f8;split at f8
       ·rename_i q;simp only[a8,eC] at f8;rw[pd bh ar ay q,f8.1]
       ·cases f8
      ·intro f8;split at f8
       ·rename_i q;simp only[a8,eC] at f8;rw[pd bh ay ar q,f8.1]
       ·cases f8
   ·cases p
theorem sj{a b:fV}(h:leaves a b=true):a.oU=1:=by
 unfold leaves at h;split at h
 ·rfl
 ·cases h
theorem Ge{a b:cB}(bN:indep a b=true){rest:List cB}{g:Nat→ae}{s:ag}{r:(Nat→ae)×ag}(h:gF E (a::b::rest) g s=some r):gF E (b::a::rest) g s=some r:=by
 simp only[indep,bm,Bool.or_eq_true] at bN;obtain⟨⟨⟨ar,ay⟩,ch⟩,dk⟩:=bN;have d1:∀n,a.dst=some n→n ∉ b.looks:=fun n df=>by rw[df] at ar;simpa using ar
 have d2:∀n,b.dst=some n→n ∉ a.looks:=fun n df=>by rw[df] at ay;simpa using ay
 have d3:∀n m,a.dst=some n→b.dst=some m→n≠m:=fun n m df hm e=>by rw[df,hm,e] at ch;simp at ch
 simp only[gF] at h ⊢;cases A:iX E a g s with
 |none=>rw[A] at h;cases h
 |some p=>
  obtain⟨kZ,s1⟩:=p;rw[A] at h;simp only[fZ] at h;cases y:iX E b (ct g a.dst kZ) s1 with
  |none=>rw[y] at h;cases h
  |some q=>
   obtain⟨wt,s2⟩:=q;rw[y] at h;simp only[fZ] at h;rw[yY d1] at y;have key:∃S,iX E b g s=some (wt,S)∧iX E a g S=some (kZ,s2):=by
    by_cases aW:a.op.oU=0
    ·refine⟨s2,?_⟩;obtain⟨dI,B⟩:=wq bh aW A;subst dI;exact⟨y,B s2 (ue bh y)⟩
    ·by_cases F:b.op.oU=0
     ·refine⟨s,?_⟩;obtain⟨dI,B⟩:=wq bh F y;subst dI;exact⟨B s (ue bh A).symm,A⟩
     ·rcases dk with(((dk|dk)|dk)|dk)|dk
      ·exact absurd (c4 dk) aW
      ·exact absurd (c4 dk) F
      ·have dI:=nz bh (c4 dk.1) A;subst dI;have B:=nz bh (c4 dk.2) y;subst B;exact⟨_,y,A⟩
      ·have dI:=nz bh (sj bh dk) A;subst dI;exact⟨s2,y,(si bh dk y).1 A⟩
      ·have B:=nz bh (sj bh dk) y;subst B;exact⟨s,(si bh dk A).2 y,A⟩
   obtain⟨S,H,I⟩:=key;rw[H];simp only[fZ];rw[yY d2,I];simp only[fZ];rw[←Gd d3];exact h
theorem uh{o:cB}:∀(pre:List cB) {post:List cB} {g:Nat→ae} {s:ag} {r:(Nat→ae)×ag},(∀a,a∈pre→indep a o=true)→gF E (pre++o::post) g s=some r→gF E (o::(pre++post)) g s=some r
 |[],_,_,_,_,_,h=>h
 |a::pre,post,g,s,r,bN,h=>by
  refine Ge bh (bN a List.mem_cons_self) ?_;simp only[List.cons_append,gF] at h ⊢;cases e:iX E a g s with
  |none=>rw[e] at h;cases h
  |some p=>rw[e] at h;simp only[fZ] at h ⊢;exact uh pre (fun x aZ=>bN x (List.mem_cons_of_mem _ aZ)) h
end
theorem jL:∀(d n:Nat) (v:ae) (k:er→ah) (an:er) (r:ah),er.iz d n v k an=r→r≠.fail→∃d8,k d8=r∧∀m,d8.get m=if m=n then v else an.get m
 |0,n,v,k,an,r,h,bg=>absurd h.symm bg
 |d+1,n,v,k,an,r,h,bg=>by
  have I:∀m,Nat.beq (m%2) 1=true→∃q,m=2*q+1:=fun m h=>⟨m/2,by have:=c4 h;omega⟩
  have even:∀m,Nat.beq (m%2) 1=false→Nat.beq m 0=false→∃q,m=2*q+2:=fun m h J=>⟨(m-2)/2,by
   have ar:m%2≠1:=fun e=>by rw[e] at h;simp at h
   have ay:m≠0:=fun e=>by rw[e] at J;simp at J
   omega⟩
  have y:∀(l:er) (x:ae) (r:er) (q:Nat),(er.n l x r).get (2*q+1)=l.get q:=fun l x r q=>by
   have ar:Nat.beq (2*q+1) 0=false:=by rfl
   have ay:Nat.beq ((2*q+1)%2) 1=true:=by rw[show(2*q+1)%2=1 by omega];rfl
   simp only[er.get,ar,ay,cond_false,ci];congr 1;omega
  have A:∀(l:er) (x:ae) (r:er) (q:Nat),(er.n l x r).get (2*q+2)=r.get q:=fun l x r q=>by
   have ar:Nat.beq (2*q+2) 0=false:=by rfl
   have ay:Nat.beq ((2*q+2)%2) 1=false:=by rw[show(2*q+2)%2=0 by omega];rfl
   simp only[er.get,ar,ay,cond_false];congr 1;omega
  have F:∀(l:er) (x:ae) (r:er),(er.n l x r).get 0=x:=fun l x r=>rfl
  have H:∀m,m=0∨(∃q,m=2*q+1)∨∃q,m=2*q+2:=fun m=>by
   by_cases eU:m=0
   ·exact .inl eU
   ·by_cases ar:m%2=1
    ·exact .inr (.inl ⟨m/2,by omega⟩)
    ·exact .inr (.inr ⟨(m-2)/2,by omega⟩)
  cases an with
  |e=>
   simp only[er.iz] at h;cases eU:Nat.beq n 0 with
   |true=>
    rw[eU,ci] at h
    have:=c4 eU;subst this;refine⟨_,h,fun m=>?_⟩;rcases H m with rfl |⟨q,rfl⟩|⟨q,rfl⟩
    ·simp [F]
    ·rw[y];simp [er.get]
    ·rw[A];simp [er.get]
   |false=>
    rw[eU,cond_false] at h;cases ar:Nat.beq (n%2) 1 with
    |true=>
     rw[ar,ci] at h;obtain⟨p,rfl⟩:=I n ar;obtain⟨l',e,bO⟩:=jL d _ v _ _ r h bg;refine⟨_,e,fun m=>?_⟩;rcases H m with rfl |⟨q,rfl⟩|⟨q,rfl⟩
     ·simp [F,er.get]
     ·rw[y,bO q];have dI:(2*p+1-1)/2=p:=by omega
      have B:2*q+1=2*p+1↔q=p:=by omega
      simp only[dI,B];simp [er.get]
     ·rw[A,if_neg (by omega)];simp [er.get]
    |false=>
     rw[ar,cond_false] at h;obtain⟨p,rfl⟩:=even n ar eU;obtain⟨l',e,bO⟩:=jL d _ v _ _ r h bg;refine⟨_,e,fun m=>?_⟩;rcases H m with rfl |⟨q,rfl⟩|⟨q,rfl⟩
     ·simp [F,er.get]
     ·rw[y,if_neg (by omega)];simp [er.get]
     ·rw[A,bO q];have dI:(2*p+2-1)/2=p:=by omega
      have B:2*q+2=2*p+2↔q=p:=by omega
      simp only[dI,B];simp [er.get]
  |n l x M=>
   simp only[er.iz] at h;cases eU:Nat.beq n 0 with
   |true=>
    rw[eU,ci] at h
    have:=c4 eU;subst this;refine⟨_,h,fun m=>?_⟩;rcases H m with rfl |⟨q,rfl⟩|⟨q,rfl⟩
    ·simp [F]
    ·rw[y,y];simp
    ·rw[A,A];simp
   |false=>
    rw[eU,cond_false] at h;cases ar:Nat.beq (n%2) 1 with
    |true=>
     rw[ar,ci] at h;obtain⟨p,rfl⟩:=I n ar;obtain⟨l',e,bO⟩:=jL d _ v _ _ r h bg;refine⟨_,e,fun m=>?_⟩;rcases H m with rfl |⟨q,rfl⟩|⟨q,rfl⟩
     ·simp [F]
     ·rw[y,y,bO q];have dI:(2*p+1-1)/2=p:=by omega
      have B:2*q+1=2*p+1↔q=p:=by omega
      simp only[dI,B]
     ·rw[A,A,if_neg (by omega)]
    |false=>
     rw[ar,cond_false] at h;obtain⟨p,rfl⟩:=even n ar eU;obtain⟨l',e,bO⟩:=jL d _ v _ _ r h bg;refine⟨_,e,fun m=>?_⟩;rcases H m with rfl |⟨q,rfl⟩|⟨q,rfl⟩
     ·simp [F]
     ·rw[y,y,if_neg (by omega)]
     ·rw[A,A,bO q];have dI:(2*p+2-1)/2=p:=by omega
      have B:2*q+2=2*p+2↔q=p:=by omega
      simp only[dI,B]
def mQ(fy:Nat):Option Nat→Option Nat→Bool
 |none,none=>true
 |some a,some b=>Nat.beq a b&&Nat.blt a fy
 |_,_=>false
def ob(ops:Array Oper):Option (Nat×Bool)→Option (Nat×Bool)→Bool
 |none,none=>true
 |some (t,w),some (j,w')=>
  match (ops[j]?).bind (·.dst) with
  |some d=>Nat.beq d t&&w==w'
  |none=>false
 |_,_=>false
def nB(T:ki)(fy:Nat)(ops:Array Oper)(e:cB)(o:Oper):Bool:=mQ fy e.dst o.dst&&ob ops e.guard o.guard&&en T e.op o.op
def Marks(B:Nat)(w:World)(io:List Deferred):Prop:=B≤w.heap.size∧∃nT:List Nat,io=nT.map (fun D=>{target:=.collected D,args:= #[]})∧nT.Nodup∧∀D,D∈nT→B≤D∧w.heap[D]? =some (.deferred (some []))
theorem Marks.nil{B:Nat}{w:World}(h:B≤w.heap.size):Marks B w []:=⟨h,[],rfl,List.nodup_nil,fun D h=>by cases h⟩
theorem cL.lJ{κ:a5}{s:ag}{w:World}(aV:cL κ s w){b:Nat}(h:Live κ s b):(∃C e ix,w.heap[b]? =some (.cells C e ix))∨∃eZ clock,w.heap[b]? =some (.map eZ clock):=by
 obtain⟨d,i,o,ar,ay⟩:=h;have p:=aV.obj d i o ar;cases o with
 |cells cs=>obtain⟨⟨C,e,ix,ch,_⟩,_⟩:=p;simp only[aT,a8] at ay;exact .inl ⟨C,e,ix,ay ▸ ch⟩
 |tok n=>obtain⟨q,cap,sz,ch,_,⟨C,e,ix,dk,_⟩,_⟩:=p;simp only[aT,ch,eb,a8] at ay;exact .inl ⟨C,e,ix,ay ▸ dk⟩
 |gone=>cases ay
 |map es=>obtain⟨eZ,clock,ch,_⟩:=p;simp only[aT,a8] at ay;exact .inr ⟨eZ,clock,ay ▸ ch⟩
theorem Marks.ext{κ κ':a5}{s s':ag}{w w':World}{io:List Deferred}{B:Nat}(h:Marks B w io)(aV:cL κ s w)(he:e0 κ s w κ' s' w'):Marks B w' io:=by
 obtain⟨eU,nT,ar,ay,ch⟩:=h;refine⟨Nat.le_trans eU he.size,nT,ar,ay,fun D q=>⟨(ch D q).1,?_⟩⟩;have dk:=(ch D q).2;rw[he.kq D (Array.getElem?_eq_some_iff.1 dk).1 fun bO=>?_]
 ·exact dk
 ·rcases aV.lJ bO with⟨C,e,ix,p⟩|⟨eZ,clock,p⟩<;> rw[dk] at p<;> cases p
structure fm (κ:a5) (s:ag) (w:World) (g:Nat→ae) (a:Act) (fy:Nat) (B:Nat) (G:Nat→ae):Prop where
 iq:cL κ s w
 an:vj κ s g a
 defers:Marks B w a.defers
 size:a.tmps.size=fy
 au:jR κ G
theorem oc{an:er}{d:Option Nat}{v:ae}{k:er→ah}{r:ah}(aJ:iB an d v k=r)(bg:r≠.fail):∃d8,k d8=r∧d8.get=ct an.get d v:=by
 cases d with
 |none=>exact⟨an,aJ,rfl⟩
 |some n=>obtain⟨d8,ar,ay⟩:=jL 12 n v k an r aJ bg;exact⟨d8,ar,funext ay⟩
theorem ui{g:Option (Nat×Bool)}{an:er}{k:Bool→ah}{r:ah}(aJ:lR g an k=r)(bg:r≠.fail):∃b,fH g an.get=some b∧k b=r:=by
 cases g with
 |none=>exact⟨true,rfl,aJ⟩
 |some p=>obtain⟨t,w⟩:=p;simp only[lR] at aJ;simp only[fH];cases bD:an.get t<;> rw[bD] at aJ<;> simp only at aJ<;> first|exact absurd aJ.symm bg|exact⟨_,rfl,aJ⟩
theorem Hk{E:Env}(df:∀f args s v s',E.call f args s≠.panic v s'){g:Nat→ae}{s:ag}{k kp e:ae→ag→ah}(op:fV):aE E g s k kp op=aE E g s k e op:=by
 have aW:∀f args,ee E s k kp f args=ee E s k e f args:=fun f args=>by
  unfold ee;cases h:E.call f args s with
  |panic v s'=>exact absurd h (df _ _ _ _ _)
  |_=>rfl
 have kr:∀(k:ae→ag→ah) f args,ee E s k kp f args=ee E s k e f args:=fun k f args=>by
  unfold ee;cases h:E.call f args s with
  |panic v s'=>exact absurd h (df _ _ _ _ _)
  |_=>rfl
 cases op<;> simp only[aE]
 case call=>simp only[aW]
 case ee=>unfold kJ;simp only[aW]
 case k6=>simp only[hO];congr;funext args;exact kr _ _ _
 case jv=>unfold jX hO;congr;funext f dw;congr;funext args;exact kr _ _ _
theorem v5{E:Env}(bh:E.F=.not)(df:∀f args s v s',E.call f args s≠.panic v s'){g:Nat→ae}{s s':ag}{v:ae}(op:fV):aE E g s .ok .panic op≠.panic v s':=fun h=>by have ar:=iW bh g s .ok .panic op;have ay:=iW bh g s .ok (fun _ _=>.fail) op;rw[h] at ay;rw[←Hk df (kp:=.panic) op,h] at ay;cases ay
theorem lx{E:Env}(bh:E.F=.not)(df:∀f args s v s',E.call f args s≠.panic v s'){fin:er→ag→ah}{B:ae→er→ag→ah}{r:ah}(bg:r≠.fail):∀(A:List cB) {an:er} {s:ag},e9 E A an s fin B=r→∃d8 s',gF E A an.get s=some (d8.get,s')∧fin d8 s'=r
 |[],an,s,h=>⟨an,s,rfl,h⟩
 |o::os,an,s,h=>by
  simp only[e9] at h;obtain⟨b,ar,ay⟩:=ui h bg;cases b with
  |false=>simp only[cond_false] at ay;obtain⟨d8,ch,dk⟩:=oc ay bg;obtain⟨p,s',q,y⟩:=lx bh df bg os ch;exact⟨p,s',by simp only[gF,iX,ar,fZ,←dk,q],y⟩
  |true=>
   simp only[ci] at ay;rw[iW bh] at ay;cases e:aE E an.get s .ok .panic o.op with
   |fail=>rw[e] at ay;exact absurd ay.symm bg
   |panic v s'=>exact absurd e (v5 bh df o.op)
   |ok v s'=>rw[e] at ay;simp only[ah.bind] at ay;obtain⟨d8,ch,dk⟩:=oc ay bg;obtain⟨p,H,q,y⟩:=lx bh df bg os ch;exact⟨p,H,by simp only[gF,iX,ar,e,fZ,←dk,q],y⟩
section
variable{P:Program}{κ:a5}{s:ag}{w:World}{g:Nat→ae}{a:Act}{fy:Nat}{B:Nat}{G:Nat→ae}
theorem fm.put(h:fm κ s w g a fy B G){κ':a5}{s':ag}{w':World}(he:e0 κ s w κ' s' w')(aV:cL κ' s' w'){v:ae}{x:Value}(aZ:ds κ' (s.aa+1) (v.aq s.aa) x){d e3:Option Nat}(cF:mQ fy d e3=true):fm κ' s' w' (ct g d v) (a.put e3 x) fy B G:=by
 have bI:=h.an.ext he;cases d with
 |none=>
  cases e3 with
  |none=>exact⟨aV,bI,h.defers.ext h.iq he,h.size,h.au.mono he.k⟩
  |some b=>simp [mQ] at cF
 |some n=>
  cases e3 with
  |none=>simp [mQ] at cF
  |some b=>
   simp only[mQ,bm] at cF;have e:=c4 cF.1;subst e;have df:n<a.tmps.size:=by rw[h.size];have:=cF.2;rw[Nat.blt_eq] at this;exact this
   refine⟨aV,fun t=>?_,h.defers.ext h.iq he,?_,h.au.mono he.k⟩
   ·simp only[ct];by_cases d6:t=n
    ·subst d6;rw[if_pos rfl,he.aa];simp only[Act.put,Array.getD_eq_getD_getElem?,Array.getElem?_setIfInBounds_self_of_lt df,Option.getD_some];exact aZ
    ·rw[if_neg d6]
     have:=bI t;simp only[Act.put,Array.getD_eq_getD_getElem?,Array.getElem?_setIfInBounds_ne (Ne.symm d6)] at this ⊢;exact this
   ·simp [Act.put,h.size]
theorem fm.skip(h:fm κ s w g a fy B G){d e3:Option Nat}(cF:mQ fy d e3=true):fm κ s w (ct g d (.d7 [])) (a.put e3 undef) fy B G:=
 h.put (.refl _ _ _) h.iq (v:=.d7 []) (x:=undef) (.d7 [] [] rfl (fun j c x aW=>by simp at aW)) cF
theorem fm.wanted(h:fm κ s w g a fy B G){ops:Array Oper}{WV:Option (Nat×Bool)}{o:Oper}(cE:ob ops WV o.guard=true){b:Bool}(A:fH WV g=some b):Region.wanted o (yielded ops a.tmps)=b:=by
 unfold Region.wanted;cases WV with
 |none=>
  cases F:o.guard with
  |none=>simpa [fH] using A
  |some p=>rw[F] at cE;simp [ob] at cE
 |some p=>
  obtain⟨t,want⟩:=p;cases F:o.guard with
  |none=>rw[F] at cE;simp [ob] at cE
  |some q=>
   obtain⟨j,I⟩:=q;rw[F] at cE;simp only[ob] at cE;split at cE
   ·rename_i d cF;simp only[bm,beq_iff_eq] at cE;have e:=c4 cE.1;subst e;obtain rfl:=cE.2;have aZ:=h.an d;simp only[fH] at A;simp only[yielded,cF,fZ];cases bD:g d<;> rw[bD] at A aZ<;> simp only[a8,reduceCtorEq] at A
    ·rename_i H;have r:=ds.gB (b:=H) aZ
     have:a.tmps[d]? =some (.bool H):=by
      rw[Array.getD_eq_getD_getElem?] at r;cases f8:a.tmps[d]? with
      |none=>rw[f8] at r;cases r
      |some y=>rw[f8] at r;simp only[Option.getD_some] at r;rw[r]
     rw[this];simpa using A
    ·rename_i vs;obtain⟨xs,r,_⟩:=ds.tF (cs:=vs) aZ
     have:∀b,a.tmps[d]?≠some (.bool b):=fun b f8=>by rw[Array.getD_eq_getD_getElem?,f8] at r;cases r
     split
     ·rename_i H f8;exact absurd f8 (this H)
     ·simpa using A
   ·cases cE
theorem yZ{T:ki}{x:fV}{op:Op}(h:en T x op=true)(aZ:x≠.no):∀c,op≠.defer c:=by
 rintro c rfl
 cases x<;> first|exact aZ rfl |simp [en] at h
theorem y0{ro:Option Nat}{m:Nat}{P:Program}{f:FuncId}{args:Array Value}{w:World}{R:Ending→World→Prop}(h:Calls P f args w R):CallsIn (vH ro) m P f args w R:=callsIn_wide.2 h
variable{ro:Option Nat}{B:Nat}{T:ki}(eu:T.oO P){E:Env}(bh:E.F=.not)(ke:ms P E)
include eu bh ke
theorem od(h:fm κ s w g a fy B E.au){ops:Array Oper}{r:cB}{i:Nat}{o:Oper}(bN:ops[i]? =some o)(p:nB T fy ops r o=true){v:ae}{s':ag}(aJ:iX E r g s=some (v,s'))
  {K:Act→World→Prop}{Q:Exit→Act→World→Prop}(y:∀κ' w' fz,e0 κ s w κ' s' w'→fm κ' s' w' (ct g r.dst v) fz fy B E.au→K fz w'):wpOpIn (vH ro) 0 P ops Q i K a w:=by
 unfold wpOpIn;simp only[bN];simp only[nB,bm] at p;unfold iX at aJ;cases hw:fH r.guard g with
 |none=>rw[hw] at aJ;cases aJ
 |some b=>
  rw[hw] at aJ;rw[h.wanted p.1.2 hw];cases b with
  |false=>simp only[a8,eC] at aJ;obtain⟨rfl,rfl⟩:=aJ;simp only[bL,↓reduceIte];exact⟨fun _ _=>trivial,y κ w _ (.refl _ _ _) (h.skip p.1.1)⟩
  |true=>
   simp only at aJ;simp only[↓reduceIte];cases q:aE E g s .ok .panic r.op with
   |fail=>rw[q] at aJ;cases aJ
   |panic v s'=>rw[q] at aJ;cases aJ
   |ok fp H=>
    rw[q] at aJ;simp only[a8,eC] at aJ;obtain⟨rfl,rfl⟩:=aJ;obtain⟨v1,s1,c3,cF⟩:=yR (ty:=o.type) eu h.iq bh ke h.an h.au (by simp) p.2 q;simp only[ah.ok.injEq] at c3;obtain⟨rfl,rfl⟩:=c3;have F:∀(R:Result Next),(∀dst pos after guard,(execOp a.eval ⟨dst,o.op,o.type,pos,after,guard⟩).run P w=R)→(Oper.semAt ro a.eval o).run P w=R:=fun R h=>by
     rw[show Oper.semAt ro a.eval o=execOp a.eval o from by
      cases ro with
      |none=>rfl
      |some l=>exact Oper.semAt_some l _ o (yZ p.2 fun df=>by rw[df] at q;cases q)]
     exact h o.dst o.pos o.after o.guard
    unfold Oper.wpIn;refine⟨fun _ _=>trivial,?_⟩;rcases cF with⟨x,κ',w',aZ|⟨aZ,rfl⟩,he,A,bD⟩|⟨f,xs,aZ,aW⟩
    ·rw[F _ aZ,Oper.uponIn_value];exact y κ' w' _ he (h.put he A bD p.1.1)
    ·rw[F _ aZ,Oper.uponIn_skip];exact y κ' w' _ he (h.put he A bD p.1.1)
    ·rw[F _ aZ,Oper.uponIn_enter];refine⟨fun aZ=>(by cases aZ),(y0 aW).mono fun e w' ⟨x,hex,κ',he,A,bD⟩=>?_⟩;subst hex;exact y κ' w' _ he (h.put he A bD p.1.1)
theorem pD{ops:Array Oper}{Q:Exit→Act→World→Prop}{g':Nat→ae}{s':ag}:∀(l:List Nat) (q:List cB) {κ:a5} {s:ag} {w:World} {g:Nat→ae} {a:Act},l.length=q.length→
  (∀(j i:Nat) (e:cB),l[j]? =some i→q[j]? =some e→∃o,ops[i]? =some o∧nB T fy ops e o=true)→fm κ s w g a fy B E.au→gF E q g s=some (g',s')→
  (∀κ' w' fz,e0 κ s w κ' s' w'→fm κ' s' w' g' fz fy B E.au→Q .normal fz w')→wpOpsIn (vH ro) 0 P ops Q l a w
 |[],[],κ,s,w,g,a,_,_,h,aJ,r=>by simp only[gF,a8,eC] at aJ;obtain⟨rfl,rfl⟩:=aJ;exact r κ w a (.refl _ _ _) h
 |[],_::_,_,_,_,_,_,bO,_,_,_,_=>by simp at bO
 |_::_,[],_,_,_,_,_,bO,_,_,_,_=>by simp at bO
 |i::l,e::q,κ,s,w,g,a,bO,y,h,aJ,r=>by
  obtain⟨o,bN,A⟩:=y 0 i e rfl rfl;rw[wpOpsIn_cons];simp only[gF] at aJ;cases he:iX E e g s with
  |none=>rw[he] at aJ;cases aJ
  |some p=>
   rw[he] at aJ;refine od eu bh ke h bN A he fun κ' w' fz F H=>?_
   exact pD l q (by simpa using bO) (fun j i e ar ay=>y (j+1) i e (by simpa using ar) (by simpa using ay)) H aJ
    fun I J M N O=>r I J M (F.trans N) O
end
def nC(o:Oper):List Nat:=(o.after.toList.filter (Region.binds .any)).map (·.on)
def mv(acc:List Nat):List Nat→Nat
 |[]=>0
 |e::es=>mv acc es ||| ((1 <<< e) ||| acc.getD e 0)
def pE:List Nat→List Oper→List Nat
 |acc,[]=>acc
 |acc,o::os=>pE (acc++[mv acc (nC o)]) os
def xv(bits:Nat)(b:cB):Nat→List cB→Bool
 |_,[]=>true
 |m,a::as=>(bits.testBit m||indep a b)&&xv bits b (m+1) as
def qq:List cB→List Nat→List cB→Bool
 |_,_,[]=>true
 |pre,m::yJ,b::eB=>xv m b 0 pre&&qq (pre++[b]) yJ eB
 |_,[],_::_=>false
def xw:Nat→List Oper→Bool
 |_,[]=>true
 |i,o::os=>(nC o).all (fun e=>Nat.blt e i)&&xw (i+1) os
def iM(T:ki)(fy:Nat)(ops:Array Oper):List cB→List Oper→Bool
 |[],[]=>true
 |a::as,o::os=>nB T fy ops a o&&iM T fy ops as os
 |_,_=>false
def qs(T:ki)(fy:Nat)(ops:Array Oper)(e:List cB):Bool:=iM T fy ops e ops.toList&&xw 0 ops.toList&&qq [] (pE [] ops.toList) e
theorem hX{T:ki}{fy:Nat}{ops:Array Oper}:∀{as:List cB} {os:List Oper},iM T fy ops as os=true→as.length=os.length∧∀(i:Nat) (a:cB) (o:Oper),as[i]? =some a→os[i]? =some o→nB T fy ops a o=true
 |[],[],_=>⟨rfl,fun i a o h=>by simp at h⟩
 |[],_::_,h=>by simp [iM] at h
 |_::_,[],h=>by simp [iM] at h
 |a::as,o::os,h=>by
  simp only[iM,bm] at h;obtain⟨ar,ay⟩:=hX h.2;refine⟨by simp [ar],fun i fz o' e p=>?_⟩;cases i with
  |zero=>simp at e p;subst e;subst p;exact h.1
  |succ i=>exact ay i fz o' (by simpa using e) (by simpa using p)
theorem qt:∀{i:Nat} {os:List Oper},xw i os=true→∀(j:Nat) (o:Oper),os[j]? =some o→∀e,e∈nC o→e<i+j
 |i,[],_,j,o,h=>by simp at h
 |i,o'::os,h,j,o,p=>by
  simp only[xw,bm,List.all_eq_true] at h;cases j with
  |zero=>
   simp at p;subst p;intro e he
   have:=h.1 e he;rw[Nat.blt_eq] at this;omega
  |succ j=>
   intro e he
   have:=qt h.2 j o (by simpa using p) e he;omega
theorem qu{bits:Nat}{b:cB}:∀{m:Nat} {as:List cB},xv bits b m as=true→∀(j:Nat) (a:cB),as[j]? =some a→bits.testBit (m+j)=true∨indep a b=true
 |m,[],_,j,a,h=>by simp at h
 |m,fz::as,h,j,a,e=>by
  simp only[xv,bm,Bool.or_eq_true] at h;cases j with
  |zero=>simp at e;subst e;exact h.1
  |succ j=>have:=qu h.2 j a (by simpa using e);rw[show m+(j+1)=m+1+j by omega];exact this
theorem pe:∀{pre:List cB} {yJ:List Nat} {rest:List cB},qq pre yJ rest=true→∀(i m:Nat) (a b:cB),pre.length≤i→m<i→(pre++rest)[m]? =some a→(pre++rest)[i]? =some b→(yJ.getD (i-pre.length) 0).testBit m=true∨indep a b=true
 |pre,yJ,[],_,i,m,a,b,bN,hm,q,p=>by
  rw[Bz] at p
  have:=(ez.1 p).1;omega
 |pre,[],r::eB,h,i,m,a,b,bN,hm,q,p=>by simp [qq] at h
 |pre,iS::yJ,r::eB,h,i,m,a,b,bN,hm,q,p=>by
  simp only[qq,bm] at h;by_cases he:i=pre.length
  ·subst he;rw[Nat.sub_self];have y:b=r:=by simpa using p.symm
   subst y
   have:=qu h.1 m a (by rw[g1 hm] at q;exact q);simpa using this
  ·have:=pe (pre:=pre++[r]) h.2 i m a b (by simp;omega) hm (by simpa using q) (by simpa using p);have e:i-pre.length=(i-(pre++[r]).length)+1:=by simp;omega
   rw[e];simpa using this
theorem nU(acc:List Nat)(m:Nat):∀(es:List Nat),(mv acc es).testBit m=true→∃e,e∈es∧(m=e∨(acc.getD e 0).testBit m=true)
 |[],h=>by simp [mv] at h
 |e::es,h=>by
  simp only[mv,Nat.testBit_or,Bool.or_eq_true] at h;rcases h with h|h|h
  ·obtain⟨hJ,ar,ay⟩:=nU acc m es h;exact⟨hJ,List.mem_cons_of_mem _ ar,ay⟩
  ·refine⟨e,List.mem_cons_self,.inl ?_⟩;rw[Nat.one_shiftLeft,Nat.testBit_two_pow] at h;simpa using (of_decide_eq_true h).symm
  ·exact⟨e,List.mem_cons_self,.inr h⟩
def Hl(M:List Nat)(os:List Oper):Prop:=M.length=os.length∧∀i m,(M.getD i 0).testBit m=true→∃o e,os[i]? =some o∧e∈nC o∧(m=e∨(M.getD e 0).testBit m=true)
theorem qv:∀(os:List Oper) (acc:List Nat) (pre:List Oper),Hl acc pre→Hl (pE acc os) (pre++os)
 |[],acc,pre,h=>by simpa [pE] using h
 |o::os,acc,pre,h=>by
  have:=qv os (acc++[mv acc (nC o)]) (pre++[o]) ?_
  ·simpa [pE] using this
  refine⟨by simp [h.1],fun i m hm=>?_⟩;have up:∀e,(acc.getD e 0).testBit m=true→((acc++[mv acc (nC o)]).getD e 0).testBit m=true:=fun e he=>by
   have p:e<acc.length:=by
    rcases Nat.lt_or_ge e acc.length with q|q
    ·exact q
    ·rw[List.getD_eq_getElem?_getD,List.getElem?_eq_none q] at he;simp at he
   rw[List.getD_eq_getElem?_getD,g1 p,←List.getD_eq_getElem?_getD];exact he
  rcases Nat.lt_trichotomy i acc.length with q|q|q
  ·rw[List.getD_eq_getElem?_getD,g1 q,←List.getD_eq_getElem?_getD] at hm;obtain⟨o',e,ar,ay,ch⟩:=h.2 i m hm;refine⟨o',e,?_,ay,ch.imp id (up e)⟩;rw[g1 (by rw[←h.1];exact q)];exact ar
  ·subst q;have r:(mv acc (nC o)).testBit m=true:=by simpa using hm
   obtain⟨e,ar,ay⟩:=nU acc m _ r;refine⟨o,e,?_,ar,ay.imp id (up e)⟩;rw[h.1];simp
  ·rw[List.getD_eq_getElem?_getD,List.getElem?_eq_none (by simp;omega)] at hm;simp at hm
section
variable{P:Program}{fy:Nat}{B:Nat}{ro:Option Nat}{T:ki}(eu:T.oO P){E:Env}(bh:E.F=.not)(ke:ms P E)
include eu bh ke
theorem BS{ops:Array Oper}{r:List cB}(Y:qs T fy ops r=true){Q:Exit→Act→World→Prop}{g':Nat→ae}{s':ag}:∀(fuel:Nat) (L:List Nat) (listed:Array Bool) {κ:a5} {s:ag} {w:World} {g:Nat→ae} {a:Act},
  L.length=fuel→L.Pairwise (· < ·)→listed.size=ops.size→(∀i,i∈L↔i<ops.size∧listed.getD i true=false)→
  (∀i m,listed.getD i false=true→((pE [] ops.toList).getD i 0).testBit m=true→listed.getD m false=true)→fm κ s w g a fy B E.au→gF E (L.map (r.getD · default)) g s=some (g',s')→
  (∀κ' w' fz,e0 κ s w κ' s' w'→fm κ' s' w' g' fz fy B E.au→Q .normal fz w')→wpAnyIn (vH ro) 0 P .any ops Q fuel listed a w:=by
 simp only[qs,bm] at Y;obtain⟨⟨ad,af⟩,ah⟩:=Y;obtain⟨hlen,ai⟩:=hX ad;have aj:=qt af;have ak:=pe ah;have al:=qv ops.toList [] [] ⟨rfl,fun i m h=>by simp at h⟩;have am:∀(o:Oper) (e:Edge),e∈o.after→Region.binds .any e=true→e.on∈nC o:=fun o e he M=>List.mem_map.2 ⟨e,List.mem_filter.2 ⟨by simpa using he,M⟩,rfl⟩
 have an:∀(o:Oper) (n:Nat),n∈nC o→∃e,e∈o.after∧Region.binds .any e=true∧e.on=n:=fun o n df=>by obtain⟨e,he,ao⟩:=List.mem_map.1 df;obtain⟨ar,ay⟩:=List.mem_filter.1 he;exact⟨e,by simpa using ar,ay,ao⟩
 have Z:∀(listed:Array Bool) (i:Nat),i<listed.size→listed.getD i true=listed.getD i false:=fun listed i h=>by simp [Array.getD_eq_getD_getElem?,h]
 intro fuel
 induction fuel with
 |zero=>
  intro L listed κ s w g a I gb eF jJ N h aJ O
  have:L=[]:=jT I;subst this;refine⟨?_,?_⟩
  ·cases U:Region.ready .any ops listed with
   |nil=>rfl
   |cons i l=>
    have bN:i∈Region.ready .any ops listed:=by rw[U];exact List.mem_cons_self
    obtain⟨ar,o,ay,_⟩:=mem_ready.1 bN
    have:=(jJ i).2 ⟨(Array.getElem?_eq_some_iff.1 ay).1,ar⟩;cases this
  ·simp only[List.map_nil,gF,a8,eC] at aJ;obtain⟨rfl,rfl⟩:=aJ;exact O κ w a (.refl _ _ _) h
 |succ fuel ap=>
  intro L listed κ s w g a I gb eF jJ N h aJ O;refine⟨fun U=>?_,fun i bN=>?_⟩
  ·cases L with
   |nil=>simp at I
   |cons i0 l=>
    obtain⟨ar,ay⟩:=(jJ i0).1 List.mem_cons_self
    have:i0∈Region.ready .any ops listed:=by
     refine mem_ready.2 ⟨ay,ops[i0],Array.getElem?_eq_getElem ar,fun e he M=>?_⟩;have aq:=aj i0 ops[i0] (by simp [ar]) e.on (am _ _ he M);rw[bc] at aq;rw[←Z listed e.on (by omega)];cases f8:listed.getD e.on true with
     |true=>rfl
     |false=>
      have:=(jJ e.on).2 ⟨by omega,f8⟩;rcases List.mem_cons.1 this with q|q
      ·omega
      ·have:=List.rel_of_pairwise_cons gb q;omega
    rw[U] at this;cases this
  ·obtain⟨ar,o,ay,ch⟩:=mem_ready.1 bN;have J:i<ops.size:=(Array.getElem?_eq_some_iff.1 ay).1;have as:=(jJ i).2 ⟨J,ar⟩;have aa:∀m,((pE [] ops.toList).getD i 0).testBit m=true→listed.getD m false=true:=fun m hm=>by
    obtain⟨o',e,av,aw,F⟩:=al.2 i m hm
    have:o'=o:=by
     have ab:ops[i]? =some o':=by simpa using av
     rw[ay] at ab;exact(Option.some.inj ab).symm
    subst this;obtain⟨hJ,p3,rF,BD⟩:=an _ _ aw;have bO:=ch hJ p3 rF;rw[BD] at bO;rcases F with F|F
    ·rw[F];exact bO
    ·exact N e m bO F
   obtain⟨pre,post,rfl⟩:=List.append_of_mem as;have H:=List.pairwise_append.1 gb;have ac:∀m,m∈pre→m<i:=fun m hm=>H.2.2 m hm i List.mem_cons_self
   have ax:∀m,m∈post→i<m:=fun m hm=>List.rel_of_pairwise_cons H.2.1 hm
   have V:∀m,m<ops.size→r[m]? =some (r.getD m default):=fun m hm=>by
    have:m<r.length:=by rw[hlen];simpa using hm
    simp [List.getD_eq_getElem?_getD,this]
   have az:∀x,x∈pre.map (r.getD · default)→indep x (r.getD i default)=true:=fun x aZ=>by
    obtain⟨m,hm,rfl⟩:=List.mem_map.1 aZ;have aA:=ac m hm;obtain⟨aB,iY⟩:=(jJ m).1 (List.mem_append_left _ hm);rcases ak i m _ _ (Nat.zero_le _) aA (V m aB) (V i J) with q|q
    ·have:=aa m (by simpa using q);rw[Z listed m (by omega),this] at iY;cases iY
    ·exact q
   rw[List.map_append,fM] at aJ;have h4:=uh bh _ az aJ;rw[←List.map_append] at h4;simp only[gF] at h4;cases he:iX E (r.getD i default) g s with
   |none=>rw[he] at h4;cases h4
   |some p=>
    obtain⟨v,s1⟩:=p;rw[he] at h4;simp only[fZ] at h4;refine od eu bh ke h ay (ai i _ o (V i J) (by simpa using ay)) he fun κ' w' fz aC aD=>?_
    refine ap (pre++post) _ (by simp at I ⊢;omega) (List.pairwise_append.2 ⟨H.1,H.2.1.of_cons,fun x aZ y fb=>H.2.2 x aZ y (List.mem_cons_of_mem _ fb)⟩) (by simp [eF]) (fun j=>?_) (fun j m da hm=>?_) aD h4
     (fun aE aF aG aH aI=>O aE aF aG (aC.trans aH) aI)
    ·by_cases A:j=i
     ·subst A;constructor
      ·intro hm;rcases List.mem_append.1 hm with q|q
       ·exact absurd (ac j q) (Nat.lt_irrefl _)
       ·exact absurd (ax j q) (Nat.lt_irrefl _)
      ·intro hm
       have:=hm.2;simp [Array.getD_eq_getD_getElem?,eF,J] at this
     ·rw[getD_set_ne true (Ne.symm A),←jJ j];simp only[List.mem_append,List.mem_cons];constructor
      ·rintro (q|q)
       ·exact .inl q
       ·exact .inr (.inr q)
      ·rintro (q|q|q)
       ·exact .inl q
       ·exact absurd q A
       ·exact .inr q
    ·by_cases A:j=i
     ·subst A;exact getD_set_true (aa m hm)
     ·rw[getD_set_ne false (Ne.symm A)] at da;exact getD_set_true (N j m da hm)
theorem v7{κ:a5}{s:ag}{w:World}{an:er}{a:Act}{ops:Array Oper}{e:List cB}(y:iM T fy ops e ops.toList=true)(h:fm κ s w an.get a fy B E.au){fin:er→ag→ah}{A:ae→er→ag→ah}{r:ah}(bg:r≠.fail)(aJ:e9 E e an s fin A=r){Q:Exit→Act→World→Prop}
  (F:∀κ' s' w' d8 fz,e0 κ s w κ' s' w'→fm κ' s' w' d8.get fz fy B E.au→fin d8 s'=r→Q .normal fz w')(id:Nat):(Code.region id ops false).wpIn (vH ro) 0 P Q a w:=by
 obtain⟨d8,s',ar,ay⟩:=lx bh ke.m4 bg e aJ;obtain⟨hlen,H⟩:=hX y;refine wpIn_region (pD eu bh ke (List.range ops.size) e (by rw[hlen];simp) (fun j i I da J=>?_) h ar (fun κ' w' fz he M=>F κ' s' w' d8 fz he M ay));obtain⟨N,p⟩:=ez.1 da;rw[List.getElem_range] at p;subst p;have q:j<ops.size:=by simpa using N
 exact⟨ops[j],Array.getElem?_eq_getElem q,H j I _ J (by simp [q])⟩
theorem fm.drawn{κ:a5}{s:ag}{w:World}{g:Nat→ae}{a:Act}(h:fm κ s w g a fy B E.au):fm κ s {w with drawn:=w.drawn+1} g a fy B E.au∧e0 κ s w κ s {w with drawn:=w.drawn+1}:=
 ⟨⟨h.iq.world (.refl _ _) rfl rfl (fun a v e=>h.iq.h6 a v e) (fun _ _=>⟨rfl,fun _=>rfl⟩),h.an,h.defers,h.size,h.au⟩,
  ⟨.refl _ _,rfl,aC _,rfl,rfl,rfl,fun _ _ _=>rfl,fun _ _ h=>h,fun _ h=>.inl h⟩⟩
theorem y1{κ:a5}{s:ag}{w:World}{an:er}{a:Act}{ops:Array Oper}{e:List cB}(hm:P.follows .mixedOrders=true)(p:qs T fy ops e=true)(h:fm κ s w an.get a fy B E.au){fin:er→ag→ah}{y:ae→er→ag→ah}{r:ah}(bg:r≠.fail)(aJ:e9 E e an s fin y=r){Q:Exit→Act→World→Prop}
  (A:∀κ' s' w' d8 fz,e0 κ s w κ' s' w'→fm κ' s' w' d8.get fz fy B E.au→fin d8 s'=r→Q .normal fz w')(id:Nat):(Code.region id ops true).wpIn (vH ro) 0 P Q a w:=by
 obtain⟨d8,s',ar,ay⟩:=lx bh ke.m4 bg e aJ;have hlen:=(hX (by simp only[qs,bm] at p;exact p.1.1)).1;obtain⟨cF,F⟩:=h.drawn eu bh ke;refine wpIn_region_any hm (BS eu bh ke p ops.size (List.range ops.size) _ (by simp) List.pairwise_lt_range (by simp) (fun i=>?_) (fun i m bN=>?_) cF ?_ (fun κ' w' fz he H=>A κ' s' w' d8 fz (F.trans he) H ay))
 ·rw[List.mem_range];constructor
  ·intro bN;exact⟨bN,by simp [Array.getD_eq_getD_getElem?,bN]⟩
  ·exact fun bN=>bN.1
 ·by_cases q:i<ops.size
  ·simp [Array.getD_eq_getD_getElem?,q] at bN
  ·simp [Array.getD_eq_getD_getElem?,q] at bN
 ·have:(List.range ops.size).map (e.getD · default)=e:=by
   apply List.ext_getElem
   ·rw[hlen];simp
   ·intro i J I;simp [List.getD_eq_getElem?_getD,I]
  rw[this];exact ar
end
inductive W5:pu→Exit→Prop
 |norm:W5 .norm .normal
 |exit (i:Nat):W5 (.exit i) (.exit i)
 |ret:W5 .ret .ret
def jM(κ:a5)(s:ag)(w:World)(fy:Nat)(B:Nat)(G:Nat→ae)(k:pu→er→ag→ah)(r:ah):Exit→Act→World→Prop:=fun e fz w'=>∃x κ' s' d8,W5 x e∧e0 κ s w κ' s' w'∧fm κ' s' w' d8.get fz fy B G∧k x d8 s'=r
theorem jM.trans{κ κ':a5}{s s':ag}{w w':World}{fy:Nat}{B:Nat}{G:Nat→ae}{k:pu→er→ag→ah}{r:ah}(he:e0 κ s w κ' s' w'){e:Exit}{a:Act}{p:World}(h:jM κ' s' w' fy B G k r e a p):jM κ s w fy B G k r e a p:=by obtain⟨x,q,y,d8,ar,ay,ch,dk⟩:=h;exact⟨x,q,y,d8,ar,he.trans ay,ch,dk⟩
theorem g3.ext{l:Nat}{κ κ':a5}{s s':ag}{w w':World}(h:g3 l κ s w κ' s' w')(bO:w'.heap[l]? =w.heap[l]?):e0 κ s w κ' s' w':=
 ⟨h.k,h.aa,h.size,h.os,h.tape,h.output,fun b p df=>by
  by_cases e:b=l
  ·rw[e,bO]
  ·exact h.kq b p e df,h.live,h.nX⟩
theorem g3.qw{l:Nat}{κ κ':a5}{s s':ag}{w w':World}(h:g3 l κ s w κ' s' w')(bO:w.heap.size≤l):e0 κ s w κ' s' w':=
 ⟨h.k,h.aa,h.size,h.os,h.tape,h.output,fun b e df=>h.kq b e (by omega) df,h.live,h.nX⟩
theorem g3.put{κ:a5}{s:ag}{w:World}(l:Nat)(o:Obj):g3 l κ s w κ s (w.putObj l o):=
 ⟨.refl _ _,rfl,Nat.le_of_eq World.putObj_size.symm,rfl,rfl,rfl,fun b _ df _=>World.putObj_heap_other df,fun _ _ h=>h,fun _ h=>.inl h⟩
theorem cL.heap{κ:a5}{s:ag}{w w':World}(aV:cL κ s w)(h:∀(p:Nat) (o:Obj),w.heap[p]? =some o→((∃C e ix,o=.cells C e ix)∨∃eZ clock,o=.map eZ clock)→w'.heap[p]? =some o):cL κ s w':=by
 refine aV.world (.refl _ _) rfl rfl (fun a v e=>?_) (fun b q=>⟨?_,fun _=>rfl⟩)
 ·obtain⟨ar,ay⟩:=aV.h6 a v e;refine⟨ar,?_⟩;unfold World.cell? at ay ⊢;split at ay
  ·rename_i c hJ ix aW;rw[h _ _ aW (.inl ⟨_,_,_,rfl⟩)];exact ay
  ·cases ay
 ·rcases aV.lJ q with⟨C,e,ix,ar⟩|⟨eZ,clock,ar⟩
  ·rw[ar,h _ _ ar (.inl ⟨_,_,_,rfl⟩)]
  ·rw[ar,h _ _ ar (.inr ⟨_,_,rfl⟩)]
theorem cL.put{κ:a5}{s:ag}{w:World}(aV:cL κ s w){l:Nat}{r:Loop}(bO:w.heap[l]? =some (.loop r))(o:Obj):cL κ s (w.putObj l o):=
 aV.heap fun b o' ar ay=>by
  rw[World.putObj_heap_other,ar]
  rintro rfl
  rw[bO] at ar;cases ar;rcases ay with⟨C,e,ix,ay⟩|⟨eZ,clock,ay⟩<;> cases ay
theorem cL.m7{κ:a5}{s:ag}{w:World}(aV:cL κ s w){l:Nat}{r:Loop}(bO:w.heap[l]? =some (.loop r)):¬Live κ s l:=fun h=>by rcases aV.lJ h with⟨C,e,ix,p⟩|⟨eZ,clock,p⟩<;> rw[bO] at p<;> cases p
theorem cL.wu{κ:a5}{s:ag}{w:World}(aV:cL κ s w){l:Nat}{r:Option (List Deferred)}(bO:w.heap[l]? =some (.deferred r)):¬Live κ s l:=fun h=>by rcases aV.lJ h with⟨C,e,ix,p⟩|⟨eZ,clock,p⟩<;> rw[bO] at p<;> cases p
theorem World.kw(w:World)(o:Obj)(k:Nat)(h:k<w.heap.size):(w.alloc o).heap[k]? =w.heap[k]?:=by show(w.heap.push o)[k]? =_;rw[Array.getElem?_push,if_neg (by omega)]
theorem cL.alloc{κ:a5}{s:ag}{w:World}(aV:cL κ s w)(o:Obj):cL κ s (w.alloc o):=
 aV.heap fun b o' ar _=>by rw[World.kw w o b (Array.getElem?_eq_some_iff.1 ar).1,ar]
theorem e0.alloc(κ:a5)(s:ag)(w:World)(o:Obj):e0 κ s w κ s (w.alloc o):=
 ⟨.refl _ _,rfl,by rw[World.size_alloc];omega,rfl,rfl,rfl,fun b e _=>World.kw w o b e,fun _ _ h=>h,fun _ h=>.inl h⟩
section
variable{P:Program}{fy:Nat}{B:Nat}{E:Env}
def Hm(p fy:Nat)(eo:Array Tmp):Bool:=match eo.toList with
 |[q]=>Nat.beq p q&&Nat.blt p fy
 |_=>false
def Hn(P:Program)(fy:Nat)(E:Env)(ro:Option Nat)(c:ad)(code:Code):Prop:=∀{κ:a5} {s:ag} {w:World} {an:er} {a:Act} {B:Nat} {k:pu→er→ag→ah} {r:ah},r≠.fail→fm κ s w an.get a fy B E.au→exec E c an s k=r→code.wpIn (vH ro) 0 P (jM κ s w fy B E.au k r) a w
theorem sX{step:ae→ag→(pu→ag→ah)→ah}{hl:ag}{dw:List ae}{x:ae}{xs:List ae}{s:ag}{k:pu→ag→ah}:gK step hl dw (x::xs) s k=step x s fun e s=>match e with
  |.norm=>bif dw.all (fE hl s) then gK step hl dw xs s k else .fail
  |e=>k e s:=rfl
theorem xx{j f p:Nat}{g:br}{x y:ad}{g':Operand}{eo:Array Tmp}{av aw:Code}(aH:yP P f j)(cE:cp g g'=true)(U:Hm p fy eo=true)(aZ:∀l,Hn P fy E (some l) x av)(fb:∀l,Hn P fy E (some l) y aw)
  {κ:a5}{s:ag}{w:World}{an:er}{a:Act}{k:pu→er→ag→ah}{r:ah}(bg:r≠.fail)(h:fm κ s w an.get a fy B E.au)(aJ:exec E (.range j f g p x y) an s k=r):
  (Code.rangeFunc g' eo av aw).wpIn (vH none) 0 P (jM κ s w fy B E.au k r) a w:=by
 simp only[exec] at aJ;have aU:=bk h.an h.au cE;unfold ns at aJ;split at aJ
 ·rename_i vo dw bc;rw[bc] at aU;cases V:Nat.beq f vo with
  |false=>rw[V] at aJ;exact absurd aJ.symm bg
  |true=>
  rw[V] at aJ;simp only[ci] at aJ;have bd:=c4 V;subst bd;split at aJ
  ·rename_i xs fG;obtain⟨di,be,bf⟩:=ds.s8 (cs:=dw) aU;obtain⟨bh,bE⟩:eo= #[p]∧p<fy:=by
    unfold Hm at U;split at U
    ·rename_i q f8;simp only[bm] at U;have ar:=c4 U.1;have ay:=U.2;rw[Nat.blt_eq] at ay;subst ar;exact⟨by rw[←Array.toArray_toList (xs:=eo),f8],ay⟩
    ·cases U
   subst bh;obtain⟨⟨aV,bi,aX,bj⟩,aH⟩:=aH;refine wpIn_rangeFunc ?_;intro fn bF;obtain⟨rec,I⟩:∃rec:LoopState→Option Code→Loop,rec=fun gq Y=>{state:=gq,pending:=Y,fn,tmps:=a.tmps,params:= #[p],assign:=av,body:=aw,defers:=w.heap.size}:=⟨_,rfl⟩
   obtain⟨F,ai⟩:∃F,(w.alloc (.deferred (some []))).alloc (.loop (rec .ready none))=F:=⟨_,rfl⟩;obtain⟨l,bO⟩:∃l,l=w.heap.size+1:=⟨_,rfl⟩;have J:F.heap[l]? =some (.loop (rec .ready none)):=by rw[←ai,bO];have:=World.alloc_heap_new (w.alloc (.deferred (some []))) (.loop (rec .ready none));rwa [World.size_alloc] at this
   have aI:F.heap[w.heap.size]? =some (.deferred (some [])):=by rw[←ai];exact(World.kw _ _ _ (by simp)).trans (World.alloc_heap_new w _)
   have ax:e0 κ s w κ s F:=by rw[←ai];exact(e0.alloc _ _ _ _).trans (e0.alloc _ _ _ _)
   have aj:cL κ s F:=by rw[←ai];exact(h.iq.alloc _).alloc _
   refine⟨w.heap.size+1,[{target:=.collected w.heap.size,args:= #[]}],F,{target:=.fn (.func f) di.toArray,args:= #[.func (.yield (w.heap.size+1)) #[] #[]]},F,f,
    #[.func (.yield (w.heap.size+1)) #[] #[]]++di.toArray,F,?_,?_,fun _ _=>trivial,?_,fun bl=>(by cases bl),?_⟩
   ·rw[←ai,I];exact run_enterLoop_outer _ _ _ _ _
   ·simp only[resolve,be];simp [go_sem]
   ·have bn:¬aV.name= "runtime.NumGoroutine" :=by simpa using bj
    cases V:aV.body with
    |none=>rw[V] at aX;cases aX
    |some c=>simp [invoke,go_sem,callFunc,bi,bn,V]
   ·rw[←bO];obtain⟨step,aY⟩:∃step:ae→ag→(pu→ag→ah)→ah,step=fun kH s lk=>iB an (some p) kH fun d8=>exec E x d8 s (BA (exec E y) fun A _ s=>lk A s):=⟨_,rfl⟩
    obtain⟨ec,a0⟩:∃ec:pu→ag→ah,ec=fun A s=>k A an s:=⟨_,rfl⟩
    rw[←aY,←a0] at aJ;refine(aH dw xs κ s F di l fG aj bf (Array.getElem?_eq_some_iff.1 J).1 (aj.m7 J) (fun o ak=>by rw[J] at ak;cases ak;rfl)
     (fun i s'=>gK step s dw (xs.drop i) s' ec=r) (fun s' o=>∃(A:pu) (c:Code),ec A s'=r∧o=some (.loop (rec .done (some c)))∧((∃i,A=.exit i∧c=.exit i)∨(A=.ret∧c=.ret))) aJ ?_).mono ?_
    ·
     intro i a1 n6 κ' s' w' bN he M al bG bD;have bo:xs.drop i=a1::xs.drop (i+1):=by obtain⟨ar,ay⟩:=ez.1 bN;rw[kk ar,ay]
     rw[bo,sX] at al;obtain⟨az,aA⟩:∃az:pu→ag→ah,az=fun A aK=>match A with
      |.norm=>bif dw.all (fE s aK) then gK step s dw (xs.drop (i+1)) aK ec else .fail
      |A=>ec A aK:=⟨_,rfl⟩
     have am:step a1 s' az=r:=by rw[aA];exact al
     rw[aY] at am;simp only at am;obtain⟨d8,bp,bq⟩:=oc am bg;have H:w'.heap[l]? =some (.loop (rec .ready none)):=by rw[he.kq l (Array.getElem?_eq_some_iff.1 J).1 (aj.m7 J)];exact J
     have a2:=run_yield (P:=P) (args:= #[n6]) H (by rw[I];rfl);rw[I] at a2;refine⟨fn,_,av,aw,a2,roundIn_of_wpIn trivial ?_⟩;have eF:a.tmps.size=fy:=h.size;have bs:fm κ' s' w' d8.get {tmps:=((#[p]:Array Tmp).zip #[n6]).foldl (fun tmps x=>tmps.setIfInBounds x.1 x.2) a.tmps,defers:=[]} fy w'.heap.size E.au:=by
      refine⟨M,fun t=>?_,Marks.nil (aC _),by simp [eF],h.au.mono (ax.trans he).k⟩;rw[bq];simp only[ct];have gb:p<a.tmps.size:=by omega
      by_cases d6:t=p
      ·subst d6;rw[if_pos rfl,bD.kM];simp only[List.zip_toArray,List.zip_cons_cons,List.zip_nil_right,List.foldl_toArray',List.foldl_cons,List.foldl_nil,Array.getD_eq_getD_getElem?,Array.getElem?_setIfInBounds_self_of_lt gb,Option.getD_some];exact bD
      ·rw[if_neg d6]
       have:=(h.an.ext (ax.trans he)) t;simp only[List.zip_toArray,List.zip_cons_cons,List.zip_nil_right,List.foldl_toArray',List.foldl_cons,List.foldl_nil,Array.getD_eq_getD_getElem?,Array.getElem?_setIfInBounds_ne (Ne.symm d6)] at this ⊢;exact this
     refine wpIn_mono (aZ l bg bs bp) ?_
     rintro e a3 aL ⟨A,aB,s1,a4,aM,a6,ao,aN⟩
     cases aM with
     |exit i=>exact absurd aN.symm bg
     |ret=>exact absurd aN.symm bg
     |norm=>
      have aD:aL.heap[l]? =some (.loop (rec .ready none)):=by rw[a6.kq l (Array.getElem?_eq_some_iff.1 H).1 (M.m7 H)];exact H
      obtain⟨N,Z⟩:∃N,aL.putObj l (.loop {rec .ready none with state:=.busy})=N:=⟨_,rfl⟩;refine⟨N,by rw[←Z];exact run_beginRound aD (by rw[I]),?_⟩;have bt:g3 l aB s1 aL aB s1 N:=by rw[←Z];exact .put _ _
      have aO:N.heap[l]? =some (.loop {rec .ready none with state:=.busy}):=by rw[←Z];exact World.putObj_heap_same (Array.getElem?_eq_some_iff.1 aD).1
      have a7:cL aB s1 N:=by rw[←Z];exact ao.iq.put aD _
      have bu:Marks w'.heap.size N a3.defers:=by
       obtain⟨aE,nT,ap,aF,aa⟩:=ao.defers;refine⟨by rw[←Z,World.putObj_size];exact aE,nT,ap,aF,fun D O=>⟨(aa D O).1,?_⟩⟩;rw[←Z,World.putObj_heap_other,(aa D O).2]
       rintro rfl
       have:=(aa D O).2;rw[aD] at this;cases this
      have bv:fm aB s1 N a4.get a3 fy w'.heap.size E.au:=⟨a7,ao.an,bu,ao.size,ao.au⟩;have bw:exec E y a4 s1 (fun A _ s=>az A s)=r:=aN;refine wpIn_mono (fb l bg bv bw) ?_
      rintro e bH aq ⟨A,aG,s2,bI,aM,a8,aP,ab⟩
      have as:aq.heap[l]? =some (.loop {rec .ready none with state:=.busy}):=by rw[a8.kq l (Array.getElem?_eq_some_iff.1 aO).1 (a7.m7 aO)];exact aO
      have aQ:g3 l κ' s' w' aG s2 aq:=(a6.x.trans bt).trans a8.x;have fin:∀ac:Option Code,(Instr.endRound l ac).run P aq=.ok (.bool ac.isNone) (aq.putObj l (.loop (rec (if ac.isNone then .ready else .done) ac))):=fun ac=>by have:=run_endRound (P:=P) ac as;rw[I] at this ⊢;exact this
      have aR:∀o,(aq.putObj l o).heap[l]? =some o:=fun o=>World.putObj_heap_same (Array.getElem?_eq_some_iff.1 as).1
      cases aM with
      |norm=>
       refine⟨_,_,fin none,.inl ⟨rfl,aG,s2,(aQ.trans (.put l _)).ext ?_,aP.iq.put as _,?_⟩⟩
       ·rw[aR,H];rfl
       ·rw[aA] at ab;obtain⟨ar,ay⟩:=cP ab bg;exact⟨ay,ar⟩
      |exit i=>refine⟨_,_,fin (some (.exit i)),.inr ⟨rfl,aG,s2,aQ.trans (.put l _),aP.iq.put as _,.exit i,.exit i,?_,aR _,.inl ⟨i,rfl,rfl⟩⟩⟩;rw[aA] at ab;exact ab
      |ret=>refine⟨_,_,fin (some .ret),.inr ⟨rfl,aG,s2,aQ.trans (.put l _),aP.iq.put as _,.ret,.ret,?_,aR _,.inr ⟨rfl,rfl⟩⟩⟩;rw[aA] at ab;exact ab
    ·
     have out:∀(κ':a5) (s':ag) (w':World) (gq:LoopState) (Y:Option Code),g3 l κ s F κ' s' w'→cL κ' s' w'→w'.heap[l]? =some (.loop (rec gq Y))→∀A:pu,ec A s'=r→
       ∃af,af=w'.putObj l (.loop {rec gq Y with state:=.exhausted})∧∀e,W5 A e→jM κ s w fy B E.au k r e {a with defers:={target:=.collected w.heap.size,args:= #[]}::a.defers} af:=fun κ' s' w' gq Y kg M H A c3=>by
      refine⟨_,rfl,fun e bx=>⟨A,κ',s',an,bx,?_,?_,by rw[a0] at c3;exact c3⟩⟩
      ·exact((ax.x.trans kg).trans (.put l _)).qw (by omega)
      ·have aS:e0 κ s w κ' s' (w'.putObj l (.loop {rec gq Y with state:=.exhausted})):=((ax.x.trans kg).trans (.put l _)).qw (by omega);refine⟨M.put H _,h.an.ext aS,?_,h.size,h.au.mono aS.k⟩;obtain⟨aE,nT,ap,aF,aa⟩:=h.defers.ext h.iq aS;refine⟨aE,w.heap.size::nT,by simp only[fM,ap],List.nodup_cons.2 ⟨fun hm=>?_,aF⟩,fun D O=>?_⟩
       ·obtain⟨bz,a9,ba,bA,bb⟩:=h.defers;have bB:a9=nT:=by
         have:=ba.symm.trans ap;clear aE ap aF aa bz ba bA bb hm
         induction a9 generalizing nT with
         |nil=>cases nT with
          |nil=>rfl
          |cons _ _=>cases this
         |cons d io bC=>cases nT with
          |nil=>cases this
          |cons e3 bJ=>simp only[fM,List.cons.injEq,Deferred.mk.injEq,Target.collected.injEq,and_true] at this;rw[this.1,bC _ this.2]
        have:=(bb _ (bB ▸ hm)).2
        have:=(Array.getElem?_eq_some_iff.1 this).1;omega
       ·rcases List.mem_cons.1 O with rfl |O
        ·refine⟨h.defers.1,?_⟩;rw[World.putObj_heap_other (by omega),kg.kq _ (Array.getElem?_eq_some_iff.1 aI).1 (by omega) (aj.wu aI)];exact aI
        ·exact aa D O
     rintro e w' ⟨⟨v,rfl⟩,(⟨κ',s',he,M,al⟩|⟨κ',s',kg,M,A,c,c3,ak,aW⟩)⟩
     ·have H:w'.heap[l]? =some (.loop (rec .ready none)):=by rw[he.kq l (Array.getElem?_eq_some_iff.1 J).1 (aj.m7 J)];exact J
      have am:ec .norm s'=r:=by rw[List.drop_length] at al;exact al
      obtain⟨af,aT,dk⟩:=out κ' s' w' .ready none he.x M H .norm am;refine⟨none,af,?_,dk _ .norm⟩
      have:=run_endLoop (P:=P) H (by rw[I];simp);rw[this,aT,I]
     ·obtain⟨af,aT,dk⟩:=out κ' s' w' .done (some c) kg M ak A c3;refine⟨some c,af,?_,?_⟩
      ·have:=run_endLoop (P:=P) ak (by rw[I];simp);rw[this,aT,I]
      ·rcases aW with⟨i,rfl,rfl⟩|⟨rfl,rfl⟩
       ·exact wpIn_exit (dk _ (.exit i))
       ·exact wpIn_ret (dk _ .ret)
  ·exact absurd aJ.symm bg
 ·exact absurd aJ.symm bg
end
def dd(T:ki)(fy:Nat)(rd:Bool):ad→Code→Bool
 |.skip,.skip=>true
 |.skip,.label _=>true
 |.region none e,.region _ ops false=>iM T fy ops e ops.toList
 |.region (some []) e,.region _ ops true=>qs T fy ops e
 |.seq a b,.seq x y=>dd T fy rd a x&&dd T fy rd b y
 |.mask _ a,c=>dd T fy rd a c
 |.cond c a b,.cond nk x y=>cp c nk&&dd T fy rd a x&&dd T fy rd b y
 |.block i a,.block j x=>Nat.beq i j&&dd T fy rd a x
 |.loop _ a,.loop x=>dd T fy rd a x
 |.exit i,.exit j=>Nat.beq i j
 |.scope a,.scope x=> !rd&&dd T fy rd a x
 |.ret,.ret=>true
 |.range j f g p a b,.rangeFunc g' eo x y=> !rd&&T.BL f j&&cp g g'&&Hm p fy eo&&dd T fy true a x&&dd T fy true b y
 |_,_=>false
theorem hD:∀(m:g6) (k:er→ah) (an:er),∃d8,er.ja m k an=k d8∧∀t,d8.get t=an.get t∨d8.get t=.dead
 |.e,k,an=>⟨.e,by cases an<;> rfl,fun t=>.inr rfl⟩
 |.n y b p,k,.e=>by
  obtain⟨l',dI,ar⟩:=hD y (fun l=>er.ja p (fun r=>k (.n l .dead r)) .e) .e;obtain⟨q,A,ay⟩:=hD p (fun r=>k (.n l' .dead r)) .e;refine⟨.n l' .dead q,by simp only[er.ja];rw[dI];exact A,fun t=>.inr ?_⟩;have B:∀t,l'.get t=.dead:=fun t=>(ar t).elim (fun h=>h) id
  have F:∀t,q.get t=.dead:=fun t=>(ay t).elim (fun h=>h) id
  simp only[er.get,B,F];cases Nat.beq t 0<;> cases Nat.beq (t%2) 1<;> rfl
 |.n y b p,k,.n l v r=>by
  obtain⟨l',dI,ar⟩:=hD y (fun l=>er.ja p (fun r=>k (.n l (bif b then v else .dead) r)) r) l;obtain⟨q,A,ay⟩:=hD p (fun r=>k (.n l' (bif b then v else .dead) r)) r;refine⟨.n l' (bif b then v else .dead) q,by simp only[er.ja];rw[dI];exact A,fun t=>?_⟩;simp only[er.get];cases Nat.beq t 0 with
  |true=>cases b<;> simp
  |false=>
   simp only[cond_false];cases Nat.beq (t%2) 1 with
   |true=>exact ar _
   |false=>exact ay _
theorem pF{m:g6}{k:er→ah}{an:er}{r:ah}(h:er.ja m k an=r):∃d8,k d8=r∧∀t,d8.get t=an.get t∨d8.get t=.dead:=by obtain⟨d8,e,cE⟩:=hD m k an;exact⟨d8,e.symm.trans h,cE⟩
theorem oe{F:Fence}{A:Nat}{P:Program}{c:Code}{Q:Exit→Act→World→Prop}(J:Nat→Act→World→Prop)(round:∀n a w,J n a w→c.wpIn F A P (Exit.then (fun fz w'=>∃m,m<n∧J m fz w') Q) a w){n:Nat}{a:Act}{w:World}(h:J n a w):(Code.loop c).wpIn F A P Q a w:=by
 intro b k cs B y aJ;have key:∀n a w,J n a w→∃e fz w',Q e fz w'∧ArrivesIn (Machine.fenced P F) P (lone (b.atR a (.code c:: .inLoop c::k)) cs w) b k cs e fz w':=by
  intro n
  induction n using Nat.strongRecOn with
  |_ n H=>
   intro a w I;obtain⟨e,q,r,f8,p⟩:=round n a w I b (.inLoop c::k) cs B y aJ;cases e with
   |normal=>obtain⟨m,M,N⟩:=f8;obtain⟨O,U,V,Y,Z⟩:=H m M q r N;exact⟨O,U,V,Y,.of_steps (StepsIn.trans p (.one (fenced_calm y aJ rfl) stepR_inLoop)) Z⟩
   |exit id=>exact⟨_,q,r,f8,.pass (x:=.inLoop c) rfl (fun _ _=>.inl (by simp)) p⟩
   |goto l=>exact⟨_,q,r,f8,.pass (x:=.inLoop c) rfl (fun _ _=>.inl (by simp)) p⟩
   |ret=>exact⟨_,q,r,f8,.pass (x:=.inLoop c) rfl (fun _ _=>.inl (by simp)) p⟩
   |panic ZL=>exact⟨_,q,r,f8,.pass (x:=.inLoop c) rfl (fun _ _=>.inl (by simp)) p⟩
   |outgrown=>exact⟨_,q,r,f8,.pass (x:=.inLoop c) rfl (fun _ _=>.inl (by simp)) p⟩
 obtain⟨e,fz,w',f8,p⟩:=key n a w h;exact⟨e,fz,w',f8,.of_steps (.one (fenced_calm y aJ rfl) stepR_loop) p⟩
section
variable{P:Program}(hm:P.follows .mixedOrders=true){fy:Nat}{T:ki}(eu:T.oO P){E:Env}(bh:E.F=.not)(ke:ms P E)
include hm eu bh ke
theorem sk:∀(c:ad) (code:Code) {rd:Bool} {ro:Option Nat},(ro=none↔rd=false)→dd T fy rd c code=true→∀{κ:a5} {s:ag} {w:World} {an:er} {a:Act} {B:Nat} {k:pu→er→ag→ah} {r:ah},r≠.fail→fm κ s w an.get a fy B E.au→exec E c an s k=r→code.wpIn (vH ro) 0 P (jM κ s w fy B E.au k r) a w:=by
 intro c
 induction c with
 |skip=>
  intro code rd ro H A κ s w an a B k r bg h aJ;cases code<;> simp only[dd,bL] at A
  ·exact wpIn_skip ⟨.norm,κ,s,an,.norm,.refl _ _ _,h,aJ⟩
  ·exact wpIn_label ⟨.norm,κ,s,an,.norm,.refl _ _ _,h,aJ⟩
 |region mH ax=>
  intro code rd ro H A κ s w an a B k r bg h aJ;cases code with
  |region id ops d=>
   cases mH with
   |none=>
    cases d with
    |true=>simp [dd] at A
    |false=>simp only[dd] at A;simp only[exec] at aJ;exact v7 eu bh ke A h bg aJ (fun κ' s' w' d8 fz he F c3=>⟨.norm,κ',s',d8,.norm,he,F,c3⟩) id
   |some mH=>
    cases mH with
    |cons x l=>simp [dd] at A
    |nil=>
     cases d with
     |false=>simp [dd] at A
     |true=>simp only[dd] at A;simp only[exec,List.all_nil,ci] at aJ;exact y1 eu bh ke hm A h bg aJ (fun κ' s' w' d8 fz he F c3=>⟨.norm,κ',s',d8,.norm,he,F,c3⟩) id
  |_=>cases mH<;> simp [dd] at A
 |seq x y M O=>
  intro code rd ro H A κ s w an a B k r bg h aJ;cases code<;> simp only[dd,bL,bm] at A;simp only[exec] at aJ;refine wpIn_seq (wpIn_mono (M _ H A.1 bg h aJ) fun e fz w' gb=>?_);obtain⟨z,κ',s',d8,hr,he,F,c3⟩:=gb;cases hr with
  |norm=>exact wpIn_mono (O _ H A.2 bg F c3) fun e af ai gb=>gb.trans he
  |exit i=>exact⟨.exit i,κ',s',d8,.exit i,he,F,c3⟩
  |ret=>exact⟨.ret,κ',s',d8,.ret,he,F,c3⟩
 |mask m x I=>
  intro code rd ro H A κ s w an a B k r bg h aJ;have aj:dd T fy rd x code=true:=by simpa only[dd] using A
  simp only[exec] at aJ;obtain⟨J,bO,U⟩:=pF aJ;have ak:fm κ s w J.get a fy B E.au:=⟨h.iq,fun t=>by
   rcases U t with q|q
   ·rw[q];exact h.an t
   ·rw[q];exact .dead _,h.defers,h.size,h.au⟩
  exact I code H aj bg ak bO
 |cond c x y M O=>
  intro code rd ro H A κ s w an a B k r bg h aJ;cases code<;> simp only[dd,bL,bm] at A;simp only[exec] at aJ;have aW:=bk h.an h.au A.1.1;cases bD:ap E.au an.get c<;> rw[bD] at aJ aW<;> simp only at aJ<;> first|exact absurd aJ.symm bg|skip
  rename_i b;cases b with
  |true=>exact wpIn_cond_true (ds.gB (b:=true) aW) (M _ H A.1.2 bg h aJ)
  |false=>exact wpIn_cond_false (ds.gB (b:=false) aW) (O _ H A.2 bg h aJ)
 |block id c I=>
  intro code rd ro H A κ s w an a B k r bg h aJ;cases code<;> simp only[dd,bL,bm] at A;have e:=c4 A.1;subst e;simp only[exec] at aJ;refine wpIn_block (wpIn_mono (I _ H A.2 bg h aJ) fun e fz w' gb=>?_);obtain⟨z,κ',s',d8,hr,he,F,c3⟩:=gb;cases hr with
  |norm=>exact⟨.norm,κ',s',d8,.norm,he,F,c3⟩
  |exit i=>
   simp only[Exit.inBlock];simp only[eP] at c3;split
   ·rename_i bN;rw[bN,hj,ci] at c3;exact⟨.norm,κ',s',d8,.norm,he,F,c3⟩
   ·rename_i bN;rw[show Nat.beq i id=false from by cases al:Nat.beq i id with
     |false=>rfl
     |true=>exact absurd (c4 al) bN,cond_false] at c3
    exact⟨.exit i,κ',s',d8,.exit i,he,F,c3⟩
  |ret=>exact⟨.ret,κ',s',d8,.ret,he,F,c3⟩
 |loop bC c I=>
  intro code rd ro H A κ s w an a B k r bg h aJ;cases code<;> simp only[dd,bL] at A;simp only[exec] at aJ;have masked:∀{κ':a5} {s':ag} {w':World} {d8 J:er} {fz:Act},fm κ' s' w' d8.get fz fy B E.au→(∀t,J.get t=d8.get t∨J.get t=.dead)→fm κ' s' w' J.get fz fy B E.au:=fun F U=>⟨F.iq,fun t=>by
   rcases U t with q|q
   ·rw[q];exact F.an t
   ·rw[q];exact .dead _,F.defers,F.size,F.au⟩
  obtain⟨am,ac,ao⟩:=pF aJ;obtain⟨N,pf⟩:=ke.loop;rw[pf] at ac;refine oe (fun n fz w'=>∃κ' s' d8,e0 κ s w κ' s' w'∧fm κ' s' w' d8.get fz fy B E.au∧dF (exec E c) bC n d8 s' k=r) (fun n fz w' aq=>?_) ⟨κ,s,am,.refl _ _ _,masked h ao,ac⟩;obtain⟨κ',s',d8,he,F,bO⟩:=aq;cases n with
  |zero=>exact absurd bO.symm bg
  |succ n=>
   simp only[dF] at bO;refine wpIn_mono (I _ H A bg F bO) fun e af ai gb=>?_
   obtain⟨z,V,Y,ae,hr,Z,aa,c3⟩:=gb;cases hr with
   |norm=>simp only[fk] at c3;obtain⟨J,as,av⟩:=pF c3;exact⟨n,Nat.lt_succ_self n,V,Y,J,he.trans Z,masked aa av,as⟩
   |exit i=>exact⟨.exit i,V,Y,ae,.exit i,he.trans Z,aa,c3⟩
   |ret=>exact⟨.ret,V,Y,ae,.ret,he.trans Z,aa,c3⟩
 |exit id=>intro code rd ro H A κ s w an a B k r bg h aJ;cases code<;> simp only[dd,bL] at A;have e:=c4 A;subst e;exact wpIn_exit ⟨.exit id,κ,s,an,.exit id,.refl _ _ _,h,aJ⟩
 |scope c I=>
  intro code rd ro H A κ s w an a B k r bg h aJ;cases code<;> simp only[dd,bL,bm,Bool.not_eq_true'] at A;obtain⟨ab,A⟩:=A;obtain rfl:=H.2 ab;simp only[exec] at aJ;refine wpIn_wide.2 (wp_scope_straight (wpIn_wide.1 (wpIn_mono (I _ H A bg h aJ) fun e fz w' gb=>?_)));obtain⟨z,κ',s',d8,hr,he,F,c3⟩:=gb;cases hr with
  |norm=>exact⟨.norm,κ',s',d8,.norm,he,F,c3⟩
  |exit i=>exact⟨.exit i,κ',s',d8,.exit i,he,F,c3⟩
  |ret=>exact⟨.ret,κ',s',d8,.ret,he,F,c3⟩
 |range j f g p x y M O=>intro code rd ro H A κ s w an a B k r bg h aJ;cases code<;> simp only[dd,bL,bm,Bool.not_eq_true'] at A;obtain⟨⟨⟨⟨⟨ab,ar⟩,ay⟩,ch⟩,dk⟩,aw⟩:=A;obtain rfl:=H.2 ab;exact xx (eu.BL _ _ ar) ay ch (fun l=>M _ (by simp) dk) (fun l=>O _ (by simp) aw) bg h aJ
 |ret=>intro code rd ro H A κ s w an a B k r bg h aJ;cases code<;> simp only[dd,bL] at A;exact wpIn_ret ⟨.ret,κ,s,an,.ret,.refl _ _ _,h,aJ⟩
end
def iN(r:ah):Prop:=∀v s,r≠.panic v s
theorem iN.bind{r:ah}{k kp:ae→ag→ah}(ar:∀v s,iN (k v s))(ay:∀v s,iN (kp v s)):iN (ah.bind r k kp):=by
 cases r with
 |fail=>intro v s h;cases h
 |ok v s=>exact ar v s
 |panic v s=>exact ay v s
theorem iN.fail:iN .fail:=fun _ _ h=>by cases h
theorem iN.iz:∀(d n:Nat) (v:ae) (k:er→ah) (an:er),(∀an,iN (k an))→iN (er.iz d n v k an)
 |0,n,v,k,an,h=>iN.fail
 |d+1,n,v,k,.e,h=>by
  simp only[er.iz];cases Nat.beq n 0
  ·cases Nat.beq (n%2) 1
   ·exact iN.iz d _ v _ _ (fun _=>h _)
   ·exact iN.iz d _ v _ _ (fun _=>h _)
  ·exact h _
 |d+1,n,v,k,.n l x r,h=>by
  simp only[er.iz];cases Nat.beq n 0
  ·cases Nat.beq (n%2) 1
   ·exact iN.iz d _ v _ _ (fun _=>h _)
   ·exact iN.iz d _ v _ _ (fun _=>h _)
  ·exact h _
theorem iN.iB{an:er}{d:Option Nat}{v:ae}{k:er→ah}(h:∀an,iN (k an)):iN (iB an d v k):=by
 cases d with
 |none=>exact h an
 |some n=>exact iN.iz 12 n v k an h
theorem iN.e9{E:Env}(bh:E.F=.not):∀(p:List cB) {an:er} {s:ag} {fin:er→ag→ah} {e:ae→er→ag→ah},(∀an s,iN (fin an s))→(∀v an s,iN (e v an s))→iN (e9 E p an s fin e)
 |[],_,_,_,_,h,_=>h _ _
 |o::os,an,s,fin,e,h,gb=>by
  simp only[Ab.e9];have key:∀w:Bool,iN (bif w then aE E an.get s (fun v s=>Ab.iB an o.dst v fun an=>Ab.e9 E os an s fin e) (fun v s=>e v an s) o.op else Ab.iB an o.dst (.d7 []) fun an=>Ab.e9 E os an s fin e):=fun w=>by
   cases w with
   |false=>exact iN.iB (fun an=>iN.e9 bh os h gb)
   |true=>simp only[ci];rw[iW bh];exact iN.bind (fun v s=>iN.iB (fun an=>iN.e9 bh os h gb)) (fun v s=>gb _ _ _)
  unfold lR;split
  ·exact key _
  ·split
   ·exact key _
   ·exact key _
   ·exact iN.fail
theorem iN.gK{step:ae→ag→(pu→ag→ah)→ah}{hl:ag}{dw:List ae}(h:∀x s k,(∀e s,iN (k e s))→iN (step x s k)):∀(xs:List ae) {s:ag} {k:pu→ag→ah},(∀e s,iN (k e s))→iN (Ab.gK step hl dw xs s k)
 |[],_,_,c3=>c3 _ _
 |x::xs,s,k,c3=>h x s _ fun e s=>by
  cases e with
  |norm=>
   simp only;cases dw.all (fE hl s) with
   |true=>exact iN.gK h xs c3
   |false=>exact iN.fail
  |_=>exact c3 _ _
theorem iN.exec{E:Env}(bh:E.F=.not)(A:∃n,∀step bC an s k,E.loop step bC an s k=dF step bC n an s k):∀(c:ad) {an:er} {s:ag} {k:pu→er→ag→ah},(∀x an s,iN (k x an s))→iN (exec E c an s k):=by
 intro c
 induction c with
 |skip=>exact fun h=>h _ _ _
 |region mH ops=>
  intro an s k h;cases mH with
  |none=>exact iN.e9 bh ops (fun _ _=>h _ _ _) (fun _ _ _=>iN.fail)
  |some mH=>
   simp only[Ab.exec];cases mH.all (pS E.au an.get)
   ·exact iN.fail
   ·exact iN.e9 bh ops (fun _ _=>h _ _ _) (fun _ _ _=>iN.fail)
 |seq a b r y=>
  intro an s k h;simp only[Ab.exec];refine r fun x an s=>?_
  cases x with
  |norm=>exact y h
  |_=>exact h _ _ _
 |mask m a q=>intro an s k h;simp only[Ab.exec];obtain⟨d8,e,_⟩:=hD m (fun an=>Ab.exec E a an s k) an;rw[e];exact q h
 |cond c a b r y=>
  intro an s k h;simp only[Ab.exec];split
  ·rename_i t _;cases t
   ·exact y h
   ·exact r h
  ·exact iN.fail
 |block id c q=>
  intro an s k h;simp only[Ab.exec];refine q fun x an s=>?_
  cases x with
  |exit j=>simp only[eP];cases Nat.beq j id<;> exact h _ _ _
  |_=>exact h _ _ _
 |loop bC c q=>
  intro an s k h;simp only[Ab.exec];obtain⟨n,df⟩:=A;obtain⟨d8,e,aZ⟩:=hD bC (fun an=>E.loop (Ab.exec E c) bC an s k) an;rw[e];simp only[df];clear df e aZ
  induction n generalizing d8 s with
  |zero=>exact iN.fail
  |succ n B=>
   simp only[dF];refine q fun x an s=>?_
   cases x with
   |norm=>simp only[fk];obtain⟨d8,e,_⟩:=hD bC (fun an=>dF (Ab.exec E c) bC n an s k) an;rw[e];exact B (s:=s) (d8:=d8)
   |_=>exact h _ _ _
 |exit id=>exact fun h=>h _ _ _
 |scope c q=>intro an s k h;simp only[Ab.exec];exact q h
 |ret=>exact fun h=>h _ _ _
 |range j f g p a b r y=>
  intro an s k h;simp only[Ab.exec];unfold ns;split
  ·cases Nat.beq _ _ with
   |false=>exact iN.fail
   |true=>
    simp only[ci];split
    ·exact iN.gK (fun x s lk c3=>iN.iB fun an=>r fun x an s=>by
      cases x with
      |norm=>exact y (fun _ _ _=>c3 _ _)
      |_=>exact iN.fail) _ (fun _ _=>h _ _ _)
    ·exact iN.fail
  ·exact iN.fail
theorem iN.cG:∀(vs:List ae) (i:Nat) (an:er) (k:er→ah),(∀an,iN (k an))→iN (cG vs i an k)
 |[],_,an,_,h=>h an
 |v::vs,i,an,k,h=>iN.iz 12 i v _ an (fun an=>iN.cG vs (i+1) an k h)
theorem iN.finish{fn:dc}{an:er}{s:ag}:iN (finish .not fn an s):=by
 intro v s' h;simp only[Ab.finish,aN.not] at h;split at h
 ·split at h
  ·cases h
  ·split at h
   ·split at h<;> cases h
   ·cases h
 ·cases h
theorem iN.call{T:Nat→Option dc}{G:Nat→ae}{X:Nat→List ae→ag→ah}(kg:∀f args s,iN (X f args s)):∀(n f:Nat) (args:List ae) (s:ag),iN (call .not T G X n f args s)
 |0,_,_,_=>iN.fail
 |n+1,f,args,s=>by
  simp only[Ab.call];split
  ·exact kg _ _ _
  ·cases Nat.beq _ _
   ·exact iN.fail
   ·refine iN.cG _ _ _ _ fun an=>iN.exec rfl ⟨_,fun _ _ _ _ _=>rfl⟩ _ fun x an s=>?_
    cases x with
    |norm=>exact iN.finish
    |ret=>exact iN.finish
    |_=>exact iN.fail
theorem nD{k:er→ah}{r:ah}(bg:r≠.fail):∀(vs:List ae) (i:Nat) (an:er),cG vs i an k=r→∃d8,k d8=r∧∀t,d8.get t=if i≤t∧t<i+vs.length then vs.getD (t-i) .dead else an.get t
 |[],i,an,h=>⟨an,h,fun t=>by rw[if_neg (by rw[cr];omega)]⟩
 |v::vs,i,an,h=>by
  obtain⟨A,ar,ay⟩:=jL 12 i v _ an r h bg;obtain⟨d8,ch,dk⟩:=nD bg vs (i+1) A ar;refine⟨d8,ch,fun t=>?_⟩;rw[dk t];by_cases d6:t=i
  ·subst d6;rw[if_neg (by omega),ay,if_pos rfl,if_pos (by simp)];simp
  ·by_cases aW:i+1≤t∧t<i+1+vs.length
   ·rw[if_pos aW,if_pos (by simp;omega),show t-i=(t-(i+1))+1 by omega];simp
   ·rw[if_neg aW,ay,if_neg d6,if_neg (by simp;omega)]
theorem kx{α β:Type}{f:α→Option β}:∀{xs:List α} {e:List β},fA f xs=some e→e.length=xs.length∧∀(j:Nat) (y:β),e[j]? =some y→∃x,xs[j]? =some x∧f x=some y
 |[],e,h=>by simp only[fA,a8] at h;subst h;exact⟨rfl,fun j y da=>by simp at da⟩
 |x::xs,e,h=>by
  simp only[fA] at h;cases aZ:f x with
  |none=>rw[aZ] at h;cases h
  |some y=>
   rw[aZ] at h;simp only[fZ] at h;cases hm:fA f xs with
   |none=>rw[hm] at h;cases h
   |some l=>
    rw[hm] at h;simp only[eb,a8] at h;subst h;obtain⟨ar,ay⟩:=kx hm;refine⟨by simp [ar],fun j z da=>?_⟩;cases j with
    |zero=>simp at da;subst da;exact⟨x,rfl,aZ⟩
    |succ j=>simpa using ay j z (by simpa using da)
theorem og{P:Program}{w:World}{α β:Type}(f:α→Sem β):∀(e:List α) (xs:List β),xs.length=e.length→(∀(j:Nat) (r:α) (x:β),e[j]? =some r→xs[j]? =some x→(f r).run P w=.ok x w)→(e.mapM f).run P w=.ok xs w
 |[],[],_,_=>by simp
 |[],_::_,h,_=>by simp at h
 |_::_,[],h,_=>by simp at h
 |r::e,x::xs,h,da=>by have ar:=da 0 r x rfl rfl;have ay:=og f e xs (by simpa using h) (fun j r x aJ aZ=>da (j+1) r x (by simpa using aJ) (by simpa using aZ));simp [List.mapM_cons,ar,ay]
section
variable{P:Program}{κ:a5}{s:ag}{w:World}
theorem cL.g8(aV:cL κ s w):∀n,n≤s.own.length→∃κ' s',cL κ' s' w∧e0 κ s w κ' s' w∧s'.up=s.up∧s'.ro=s.ro∧s'.own.length=s.own.length∧(∀i,n≤i→s'.own[i]? =s.own[i]?)∧κ'.loc=κ.loc∧
  ∀i cs,i<n→s.own[i]? =some (.cells cs)→∃C:Array Value,(∀j (h:j<C.size),κ'.F ⟨κ.loc s.aa i,j,none⟩=some C[j])∧d9 κ' (s.aa+1) cs (C.toList.take cs.length)
 |0,_=>⟨κ,s,aV,.refl _ _ _,rfl,rfl,rfl,fun _ _=>rfl,rfl,fun i cs h=>absurd h (Nat.not_lt_zero i)⟩
 |n+1,df=>by
  obtain⟨κ',s',ar,ay,ch,dk,I,y,A,J⟩:=aV.g8 n (by omega);have cF:s'.aa=s.aa:=ay.aa;by_cases aW:∃cs,s.own[n]? =some (.cells cs)
  ·obtain⟨cs,M⟩:=aW;have cE:s'.get (.g s'.aa n)=some (.cells cs):=by
    simp only[ag.get,↓reduceIte];rw[y n (aC _),M]
   obtain⟨C,e,ix,dY,B,N,q⟩:=ar.BE (s':={s' with own:=s'.own.set n .gone}) cE (by simp [ag.set]);refine⟨_,_,N,ay.trans q,ch,dk,by simp [I],fun i bN=>?_,A,fun i r bN p=>?_⟩
   ·simp only;rw[oZ (by omega),y i (by omega)]
   ·by_cases H:i=n
    ·subst H;rw[M] at p;simp only[a8,cO.cells.injEq] at p;subst p;refine⟨C,fun j da=>?_,?_⟩
     ·rw[←A,←cF];exact nu (Nat.zero_le _) da
     ·rw[cF] at B;exact⟨B.1,fun j c x aW aZ=>(B.2 j c x aW aZ).mono (q.k.low (by omega))⟩
    ·obtain⟨O,p3,rF⟩:=J i r (by omega) p;exact⟨O,fun j da=>q.k.F _ _ (p3 j da),rF.1,fun j c x aW aZ=>(rF.2 j c x aW aZ).mono (q.k.low (by omega))⟩
  ·refine⟨κ',s',ar,ay,ch,dk,I,fun i bN=>y i (by omega),A,fun i r bN p=>?_⟩;by_cases H:i=n
   ·subst H;exact absurd ⟨r,p⟩ aW
   ·exact J i r (by omega) p
theorem v8{D off len cap sz b:Nat}{cs:List ae}{C:Array Value}(ka:∀j (h:j<C.size),κ.F ⟨b,j,none⟩=some C[j])(bD:d9 κ D cs (C.toList.take cs.length)){lh:Nat}(sQ:len≤lh)(tN:len=cap→lh=cap)(ar:ae.a6 (chunk sz len (cs.drop off))=true)(ay:off+len*sz≤cs.length)(hr:sz≠0)(q:Nat):
  ds κ q (.cm sz (chunk sz len (cs.drop off)) (if len=cap then .exact else .any)) (.slice (some ⟨b,off,none⟩) len lh):=by
 obtain⟨r,A⟩:=j0 sz hr len (cs.drop off) (by simp;omega);have bO:cs.length≤C.size:=by have:=bD.1;simp at this;omega
 have key:ds κ D (.cm sz (chunk sz len (cs.drop off)) (if len=cap then ga.exact else ga.any)) (.slice (some ⟨b,off,none⟩) (chunk sz len (cs.drop off)).length lh):=by
  refine .cm sz _ _ _ _ (fun j=>C.getD (off+j) undef) ?_ (by rw[e5];exact sQ) (fun _=>rfl) A (.inl fun e he=>d5.1 ar e he) (fun j da=>?_) (fun j c aW=>?_)
  ·by_cases h:len=cap
   ·simp [h,iF,e5,tN h]
   ·simp [h,iF]
  ·rw[r] at da;simp at da;have p:off+j<C.size:=by omega
   rw[fF rfl];show κ.F ⟨b,off+j,none⟩=_;rw[ka _ p];simp [Array.getD,p]
  ·rw[r,List.getElem?_take] at aW;split at aW
   ·rw[List.getElem?_drop] at aW;obtain⟨y,fb,B⟩:=bD.get aW;have p:off+j<cs.length:=(ez.1 aW).1
    have:C.getD (off+j) undef=y:=by
     rw[List.getElem?_take,if_pos p] at fb;have H:C[off+j]? =some y:=by simpa using fb
     simp [Array.getD_eq_getD_getElem?,H]
    rw[this];exact B
   ·cases aW
 rw[e5] at key;refine key.bj ?_ q (fun _ _ h=>h);split<;> rfl
theorem j2{κ':a5}(c3:f6 κ κ' (s.aa+1))(M:∀i cs,s.own[i]? =some (.cells cs)→∃C:Array Value,(∀j (h:j<C.size),κ'.F ⟨κ.loc s.aa i,j,none⟩=some C[j])∧d9 κ' (s.aa+1) cs (C.toList.take cs.length)){v fp:ae}{x:Value}(bD:ds κ (s.aa+1) (v.aq s.aa) x)(h:f4 s v=some fp):ds κ' s.aa fp x:=by
 have own:∀{i off len cap sz:Nat},ds κ (s.aa+1) (.cD (.g s.aa i) off len cap sz) x→g8 s i off len cap sz=some fp→ds κ' s.aa fp x:=fun {i off len cap sz} bD h=>by
  obtain⟨lh,e,cF,bN,sQ,tS⟩:=bD.jq;unfold Ab.g8 at h;split at h
  ·rename_i cs N;simp only at h;split at h
   ·rename_i r;simp only[bm,Bool.not_eq_true'] at r;simp only[a8] at h;subst h;obtain⟨C,p3,rF⟩:=M i cs N;rw[e];exact v8 p3 rF sQ (fun h=>by rcases tS with ar|⟨ar,ay,_⟩<;> omega) r.1.1 (dL r.1.2) (fun eU=>by rw[eU] at r;simp at r) _
   ·cases h
  ·cases h
 have any:∀{sz:Nat} {es:List ae} {l:Loc},ae.a6 es=true→ds κ (s.aa+1) (ae.aq s.aa (.cm sz es (.dW l))) x→ds κ' s.aa (.cm sz es .any) x:=fun {sz es l} y bD=>by
  have J:=d5.1 y;simp only[ae.aq] at bD;rcases bD.hf with⟨_,ay,_⟩|⟨a,cap,di,rfl,cE,df,H,dk,q,I,A⟩
  ·simp [ga.aq] at ay
  ·refine .cm _ _ _ _ _ di trivial df H dk (.inl J) (fun j da=>c3.F _ _ (I j da)) (fun j c aW=>(A j c aW).bj ?_ _ c3.F);obtain⟨e,he,B⟩:=List.mem_flatMap.1 (List.mem_of_getElem? aW);exact hU (J e he) B
 unfold f4 at h;split at h
 ·exact own bD h
 ·split at h
  ·rename_i cF;subst cF;exact own bD h
  ·split at h
   ·rename_i p;simp only[a8] at h;subst h;obtain⟨lh,e,cF,bN,sQ,tS⟩:=ds.jq bD;rw[e,←c3.loc _ _ cF bN];exact .cD _ _ _ _ _ _ _ p (fL bN (c3.n _ cF)) sQ (tS.imp id fun⟨ar,ay,ch,dk⟩=>⟨ar,ay,ch,by rw[c3.loc _ _ cF bN];exact c3.kL _ _ _ _ cF bN dk⟩)
   ·cases h
 ·split at h
  ·rename_i p;simp only[a8] at h;subst h;obtain⟨e,cF,bN⟩:=ds.l1 bD;rw[e,←c3.loc _ _ cF bN];exact .ref _ _ _ p (fL bN (c3.n _ cF))
  ·cases h
 ·split at h
  ·rename_i y;simp only[a8] at h;subst h;exact any y bD
  ·cases h
 ·split at h
  ·rename_i p;simp only[a8] at h;subst h;have bD:ds κ (s.aa+1) (.cm _ _ (.dW (.g _ _))) x:=bD;rcases bD.hf with⟨_,ay,_⟩|⟨a,cap,di,rfl,cE,df,H,dk,q,I,A⟩
   ·cases ay
   ·refine .cm _ _ _ _ _ di ⟨p,(cE.mono c3).2⟩ df H dk q (fun j da=>c3.F _ _ (I j da)) (fun j c aW=>?_);obtain⟨e,he,B⟩:=List.mem_flatMap.1 (List.mem_of_getElem? aW);rcases q with q|⟨e3,gX,hJ,q⟩
    ·exact(A j c aW).bj (hU (q e he) B) _ c3.F
    ·cases hJ;exact(((A j c aW).mono c3).lower (tz (q e he) B)).up p
  ·split at h
   ·rename_i y;simp only[a8] at h;subst h;exact any y bD
   ·cases h
 ·split at h
  ·rename_i p;simp only[a8] at h;subst h;have bD:ds κ (s.aa+1) (.map (.g _ _)) x:=bD;cases bD;rename_i cF bN;rw[←c3.loc _ _ cF bN];exact .map _ _ p (fL bN (c3.n _ cF))
  ·cases h
 ·split at h
  ·rename_i aJ;simp only[a8] at h;subst h;have bD:ds κ (s.aa+1) (.fn _ _) x:=bD;exact bD.bj (by simpa [ae.bj] using aJ) _ c3.F
  ·split at h
   ·rename_i aJ;simp only[bm,Nat.blt_eq] at aJ;simp only[a8] at h;subst h;have bD:ds κ (s.aa+1) (.fn _ _) x:=bD
    have:=((bD.mono c3).lower (d:=s.aa-1) (by simpa [ae.low] using aJ.2));rw[show s.aa-1+1=s.aa by omega] at this;exact this
   ·cases h
 ·split at h
  ·rename_i aJ;simp only[a8] at h;subst h;rw[iV aJ] at bD;exact bD.bj aJ _ c3.F
  ·cases h
theorem qx{α β:Type}{f:α→Option β}:∀{l m:List α} {l' iS:List β},fA f l=some l'→fA f m=some iS→fA f (l++m)=some (l'++iS)
 |[],m,l',iS,h,e=>by simp only[fA,a8] at h;subst h;exact e
 |x::l,m,l',iS,h,e=>by
  simp only[fA] at h;cases aZ:f x with
  |none=>rw[aZ] at h;cases h
  |some y=>
   rw[aZ,fZ] at h;cases bO:fA f l with
   |none=>rw[bO] at h;cases h
   |some p=>rw[bO] at h;simp only[eb,a8] at h;subst h;simp only[List.cons_append,fA,aZ,fZ,qx bO e,eb]
theorem uj{v fp:ae}(h:f4 s v=some fp)(bD:v.cells=[v]):fp.cells=[fp]:=by
 have an:∀{i off len cap sz:Nat},g8 s i off len cap sz=some fp→fp.cells=[fp]:=fun {i off len cap sz} h=>by
  unfold Ab.g8 at h;split at h
  ·simp only at h;split at h
   ·simp only[a8] at h;subst h;rfl
   ·cases h
  ·cases h
 unfold f4 at h;split at h
 ·exact an h
 ·split at h
  ·exact an h
  ·split at h
   ·simp only[a8] at h;subst h;rfl
   ·cases h
 ·split at h
  ·simp only[a8] at h;subst h;rfl
  ·cases h
 ·split at h
  ·simp only[a8] at h;subst h;rfl
  ·cases h
 ·split at h
  ·simp only[a8] at h;subst h;rfl
  ·split at h
   ·simp only[a8] at h;subst h;rfl
   ·cases h
 ·split at h
  ·simp only[a8] at h;subst h;rfl
  ·cases h
 ·split at h
  ·simp only[a8] at h;subst h;rfl
  ·split at h
   ·simp only[a8] at h;subst h;rfl
   ·cases h
 ·split at h
  ·simp only[a8] at h;subst h;exact bD
  ·cases h
theorem oh{e hJ:ae}(h:mX s e=some hJ):fA (f4 s) e.cells=some hJ.cells:=by
 unfold mX at h;split at h
 ·rename_i cs;obtain⟨l,ar,ay⟩:=Option.map_eq_some_iff.1 h;subst ay;exact ar
 ·rename_i df;have aW:e.cells=[e]:=by
   cases e<;> first|rfl |exact absurd rfl (df _)
  rw[aW,uj h aW];simp only[fA,h,fZ,eb]
theorem nV:∀{es p:List ae},fA (mX s) es=some p→fA (f4 s) (es.flatMap ae.cells)=some (p.flatMap ae.cells)
 |[],p,h=>by simp only[fA,a8] at h;subst h;rfl
 |e::es,p,h=>by
  simp only[fA] at h;cases he:mX s e with
  |none=>rw[he] at h;cases h
  |some hJ=>
   rw[he,fZ] at h;cases bO:fA (mX s) es with
   |none=>rw[bO] at h;cases h
   |some l=>rw[bO] at h;simp only[eb,a8] at h;subst h;simp only[List.flatMap_cons];exact qx (oh he) (nV bO)
theorem oi{κ':a5}(c3:f6 κ κ' (s.aa+1))(p:∀i cs,s.own[i]? =some (.cells cs)→∃C:Array Value,(∀j (h:j<C.size),κ'.F ⟨κ.loc s.aa i,j,none⟩=some C[j])∧d9 κ' (s.aa+1) cs (C.toList.take cs.length)){v fp:ae}{x:Value}(bD:ds κ (s.aa+1) (v.aq s.aa) x)(h:eQ s v=some fp):ds κ' s.aa fp x:=by
 have y:∀{sz:Nat} {es:List ae} {l:Loc},v=.cm sz es (.dW l)→(ae.a6 es=true→f4 s v=some (.cm sz es .any))→kW s sz es=some fp→ds κ' s.aa fp x:=fun {sz es l} A eU h=>by
  unfold kW at h;split at h
  ·rename_i aJ;simp only[a8] at h;subst h;exact j2 c3 p bD (eU aJ)
  ·obtain⟨B,ar,ay⟩:=Option.bind_eq_some_iff.1 h;split at ay
   ·rename_i aJ;simp only[a8] at ay;subst ay;subst A;simp only[ae.aq] at bD;rcases bD.hf with⟨_,ch,_⟩|⟨a,cap,di,rfl,cE,df,H,dk,Y,I,J⟩
    ·simp [ga.aq] at ch
    ·have hm:=nV ar;obtain⟨dI,M⟩:=kx ar;obtain⟨N,O⟩:=kx hm;rw[←dI];refine .cm sz B .any a cap di trivial (by rw[dI];exact df) (fun e6=>H (fun eU=>e6 (jT (by rw[dI,eU];rfl)))) (fun e he=>?_) (.inl fun e he=>d5.1 aJ e he) (fun j da=>c3.F _ _ (I j (by rw[←N];exact da))) (fun j c aW=>?_)
     ·obtain⟨j,da⟩:=List.getElem?_of_mem he;obtain⟨nY,U,q⟩:=M j e da
      have:=oh q;rw[(kx this).1];exact dk nY (List.mem_of_getElem? U)
     ·obtain⟨et,V,q⟩:=O j c aW
      have:=J j et V;exact j2 c3 p (by rw[this.kM];exact this) q
   ·cases ay
 unfold eQ at h;split at h
 ·rename_i sz es i;exact y rfl (fun aJ=>by simp only[f4,aJ,↓reduceIte]) h
 ·rename_i sz es d i;split at h
  ·rename_i r;exact j2 c3 p bD (by simp only[f4,r,↓reduceIte];exact h)
  ·rename_i r;exact y rfl (fun aJ=>by simp only[f4,r,aJ,↓reduceIte]) h
 ·exact j2 c3 p bD h
theorem v9{κ':a5}(c3:f6 κ κ' (s.aa+1))(e:∀i cs,s.own[i]? =some (.cells cs)→∃C:Array Value,(∀j (h:j<C.size),κ'.F ⟨κ.loc s.aa i,j,none⟩=some C[j])∧d9 κ' (s.aa+1) cs (C.toList.take cs.length)){v fp:ae}{x:Value}(bD:ds κ (s.aa+1) (v.aq s.aa) x)(h:freeze s v=some fp):ds κ' s.aa fp x:=by
 unfold freeze at h;split at h
 ·rename_i cs;cases hm:fA (eQ s) cs with
  |none=>rw[hm] at h;cases h
  |some l=>
   rw[hm] at h;simp only[eb,a8] at h;subst h;obtain⟨xs,rfl,bO,aZ⟩:=ds.l0 (cs:=cs) bD;obtain⟨ar,ay⟩:=kx hm;refine .agg l xs (by rw[bO,ar]) (fun j c y aW fb=>?_);obtain⟨et,p,q⟩:=ay j c aW
   have:=aZ j et y p fb;exact oi c3 e (by rw[this.kM];exact this) q
 ·exact oi c3 e bD h
def pG(T:ki):r2→ResultVar→Bool
 |.t n,.tmp m=>Nat.beq n m
 |.cell a n,.cell b ty=>Nat.beq a b&&T.load ty n
 |_,_=>false
def ly(T:ki):List r2→List ResultVar→Bool
 |[],[]=>true
 |a::as,b::eB=>pG T a b&&ly T as eB
 |_,_=>false
theorem pg{T:ki}:∀{as:List r2} {eB:List ResultVar},ly T as eB=true→as.length=eB.length∧∀(j:Nat) (a:r2) (b:ResultVar),as[j]? =some a→eB[j]? =some b→pG T a b=true
 |[],[],_=>⟨rfl,fun j a b h=>by simp at h⟩
 |[],_::_,h=>by simp [ly] at h
 |_::_,[],h=>by simp [ly] at h
 |a::as,b::eB,h=>by
  simp only[ly,bm] at h;obtain⟨ar,ay⟩:=pg h.2;refine⟨by simp [ar],fun j fz q e p=>?_⟩;cases j with
  |zero=>simp at e p;subst e;subst p;exact h.1
  |succ j=>exact ay j fz q (by simpa using e) (by simpa using p)
theorem BT{T:ki}(eu:T.oO P){fy:Nat}{B:Nat}{G:Nat→ae}{an:er}{a:Act}(h:fm κ s w an.get a fy B G){q:r2}{b:ResultVar}(p:pG T q b=true){v:ae}(bD:pV an s q=some v):
  ∃x,(∀f:ResultVar→Sem Value,(∀t,f (.tmp t)=Pure.pure (a.tmps.getD t undef))→(∀t ty,f (.cell t ty)=(do loadVar ty (←asAddr (a.tmps.getD t undef)):Sem Value))→(f b).run P w=.ok x w)∧ds κ (s.aa+1) (v.aq s.aa) x:=by
 cases q with
 |t n=>
  cases b with
  |cell t ty=>simp [pG] at p
  |tmp m=>
   simp only[pG] at p
   have:=c4 p;subst this;simp only[pV,a8] at bD;subst bD;exact⟨_,fun f ar _=>by rw[ar];simp,h.an n⟩
 |cell t n=>
  cases b with
  |tmp m=>simp [pG] at p
  |cell m ty=>
   simp only[pG,bm] at p
   have:=c4 p.1;subst this;have aZ:=h.an t;simp only[pV] at bD;split at bD
   ·rename_i WU off H;rw[H] at aZ;simp only[ae.aq] at aZ;rw[←ag.hA] at bD;cases gb:WU.aq s.aa with
    |l i=>cases WU<;> simp [Loc.aq] at gb
    |g d i=>
     rw[gb] at aZ bD;obtain⟨e,cF,bN⟩:=aZ.l1;have key:∀cs,s.get (.g d i)=some (.cells cs)→ew {F:=.not,au:=G,call:=fun _ _ _=>.fail,loop:=fun _ _ _ _ _=>.fail} s .ok n (cs.drop off)=.ok v s→∃x,(∀f:ResultVar→Sem Value,(∀t,f (.tmp t)=Pure.pure (a.tmps.getD t undef))→(∀t ty,f (.cell t ty)=(do loadVar ty (←asAddr (a.tmps.getD t undef)):Sem Value))→(f (.cell t ty)).run P w=.ok x w)∧ds κ (s.aa+1) (v.aq s.aa) x:=fun cs cE bO=>by obtain⟨v1,x,r,I,y⟩:=rK (P:=P) (rH (nw h.iq cE off) (show d+1≤s.aa+1 by omega)) (eu.load p.2) rfl bO (by simp);simp only[ah.ok.injEq] at r;obtain⟨rfl,_⟩:=r;refine⟨x,fun f _ ay=>?_,by rw[y.kM];exact y⟩;rw[ay,e];simp [asAddr,I]
     split at bD
     ·rename_i cs cE;refine key cs cE ?_;simp only[ew,aN.not];cases A:cs.drop off with
      |nil=>
       have:(cs.drop off)[0]? =some v:=by rw[List.getElem?_drop];simpa using bD
       rw[A] at this;cases this
      |cons c l=>
       have:(cs.drop off)[0]? =some v:=by rw[List.getElem?_drop];simpa using bD
       rw[A] at this;simp only[List.getElem?_cons_zero,a8] at this;subst this;rfl
     ·rename_i cs m cE;split at bD
      ·rename_i hle;simp only[a8] at bD;subst bD;refine key cs cE ?_
       have:=dL hle;have J:Nat.ble m (cs.drop off).length=true:=by rw[Nat.ble_eq];simp;omega
       simp only[ew,aN.not,J,ci]
      ·cases bD
     ·cases bD
   ·cases bD
end
def uk(T:ki)(e:dc)(fn:Func):Bool:=
 match fn.body with
 |some c=> !(fn.name== "runtime.NumGoroutine")&&Nat.beq e.fy fn.ntmps&&Nat.ble e.WT fn.ntmps&&ly T e.results fn.results.toList&&dd T e.fy false e.body c
 |none=>false
def BU(P:Program)(T:ki)(qy:Nat→Option dc):Prop:=∀f e,qy f=some e→∃fn,P.funcs[f]? =some fn∧uk T e fn=true
structure Sv (P:Program) (qy:Nat→Option dc) (G:Nat→ae) (X:Nat→List ae→ag→ah):Prop where
 m4:∀f args s,iN (X f args s)
 ok:∀f args s v s' κ w xs,qy f=none→X f args s=.ok v s'→cL κ s w→jR κ G→d9 κ (s.aa+1) args xs→
  (∃x w',(callFunc f xs.toArray).run P w=.ok (.value x) w'∧l3 κ s w v s' x w')∨
  ((callFunc f xs.toArray).run P w=.ok (.enter f xs.toArray) w∧Calls P f xs.toArray w fun e w'=>∃x,e=.returned x∧l3 κ s w v s' x w')
structure DI (nT:List Nat) (w w':World):Prop where
 size:w'.heap.size=w.heap.size
 os:w'.os=w.os
 tape:w'.tape=w.tape
 output:w'.output=w.output
 same:∀b,b ∉ nT→w'.heap[b]? =w.heap[b]?
theorem ky{P:Program}{fn:Func}{tmps:Array Value}{R:Ending→World→Prop}:∀(nT:List Nat) (w:World),nT.Nodup→(∀D,D∈nT→w.heap[D]? =some (.deferred (some [])))→(∀w',DI nT w w'→∃y,(results fn tmps).run P w'=.ok y w'∧R (.returned y) w')→
  LeavesInM Fence.wide 0 P fn tmps R (nT.map fun D=>{target:=.collected D,args:= #[]}) .returning w
 |[],w,_,_,h=>by obtain⟨y,ar,ay⟩:=h w ⟨rfl,rfl,rfl,rfl,fun _ _=>rfl⟩;exact⟨y,ar,ay⟩
 |D::nT,w,df,cF,h=>by
  obtain⟨r,A⟩:=List.nodup_cons.1 df;have B:=cF D List.mem_cons_self;refine⟨by simp,.inl ⟨D,_,rfl,run_takeDeferred B,ky nT _ A (fun F p=>?_) (fun w' hw=>h w' ?_)⟩⟩
  ·rw[World.putObj_heap_other (fun e=>by subst e;exact r p)];exact cF F (List.mem_cons_of_mem _ p)
  ·refine⟨hw.size.trans World.putObj_size,hw.os,hw.tape,hw.output,fun b q=>?_⟩;rw[hw.same b (fun hm=>q (List.mem_cons_of_mem _ hm)),World.putObj_heap_other (fun e=>by subst e;exact q List.mem_cons_self)]
theorem fm.shut{κ:a5}{s:ag}{w w':World}{g:Nat→ae}{a:Act}{fy B:Nat}{G:Nat→ae}(h:fm κ s w g a fy B G){nT:List Nat}(p:∀D,D∈nT→w.heap[D]? =some (.deferred (some [])))(hw:DI nT w w'):fm κ s w' g {a with defers:=[]} fy 0 G:=
 ⟨h.iq.heap fun b o ar ay=>by rw[hw.same b,ar];intro hm;rw[p b hm] at ar;cases ar;rcases ay with⟨C,e,ix,ay⟩|⟨eZ,clock,ay⟩<;> (cases ay),h.an,Marks.nil (Nat.zero_le _),h.size,h.au⟩
theorem e0.shut{κ κ':a5}{s s':ag}{w w' e:World}(h:e0 κ s w κ' s' w'){nT:List Nat}(p:∀D,D∈nT→w.heap.size≤D)(hw:DI nT w' e):e0 κ s w κ' s' e:=
 ⟨h.k,h.aa,by rw[hw.size];exact h.size,hw.os.trans h.os,hw.tape.trans h.tape,hw.output.trans h.output,fun b q bO=>by rw[hw.same b (fun hm=>by have:=p b hm;omega)];exact h.kq b q bO,h.live,h.nX⟩
theorem oj{P:Program}{f:FuncId}{fn:Func}{c:Code}{args:Array Value}{w:World}{R:Ending→World→Prop}{κ:a5}{s:ag}{fy:Nat}{G:Nat→ae}{k:pu→er→ag→ah}{r:ah}(bg:P.funcs[f]? =some fn)(q:fn.body=some c)
  (h:c.wpIn (vH none) 0 P (jM κ s w fy w.heap.size G k r) {tmps:=args++Array.replicate (fn.ntmps-args.size) undef,defers:=[]} w)
  (A:∀(x:pu) (κ':a5) (s':ag) (d8:er) (fz:Act) (w':World),e0 κ s w κ' s' w'→fm κ' s' w' d8.get fz fy 0 G→k x d8 s'=r→(x=.norm∨x=.ret)∧∃y,(results fn fz.tmps).run P w'=.ok y w'∧R (.returned y) w')
  (kg:∀i d8 s',k (.exit i) d8 s'≠r):Calls P f args w R:=by
 refine(callsIn_wide (n:=0)).1 (callsIn_of_wp_marks bg q trivial (wpIn_mono h ?_))
 rintro e fz w' ⟨x,κ',s',d8,aZ,he,aJ,c3⟩
 have key:LeavesInM Fence.wide 0 P fn fz.tmps R fz.defers .returning w':=by
  obtain⟨eU,nT,ar,ay,ch⟩:=aJ.defers;rw[ar];refine ky nT w' ay (fun D p=>(ch D p).2) fun B hw=>?_
  exact(A x κ' s' d8 {fz with defers:=[]} B (he.shut (fun D p=>(ch D p).1) hw) (aJ.shut (fun D p=>(ch D p).2) hw) c3).2
 cases aZ with
 |norm=>exact key
 |ret=>exact key
 |exit i=>exact absurd c3 (kg _ _ _)
section
variable{P:Program}{κ:a5}{s:ag}{w:World}
theorem ul{κ:a5}{D:Nat}{vs:List ae}{xs:List Value}(h:d9 κ D vs xs):ds κ D (r3 vs) (if h:xs.toArray.size=1 then xs.toArray[0] else .tuple xs.toArray):=by
 match vs,xs,h with
 |[v],[x],h=>exact h.2 0 v x rfl rfl
 |[],xs,h=>have:xs=[]:=jT h.1;subst this;exact .d7 [] [] rfl (fun j c x aW=>by simp at aW)
 |v::v2::vs,xs,h=>
  have bO:xs.length=vs.length+2:=by rw[h.1];rfl
  rw[dif_neg (by simp;omega)];exact .d7 _ xs h.1 h.2
 |[v],[],h=>exact absurd h.1 (by simp)
 |[v],_::_::_,h=>exact absurd h.1 (by simp)
theorem ph{T:ki}(eu:T.oO P){fy:Nat}{B:Nat}{G:Nat→ae}{an:er}{a:Act}(h:fm κ s w an.get a fy B G){q:dc}{fn:Func}(M:ly T q.results fn.results.toList=true){vs:List ae}(N:fA (pV an s) q.results=some vs):
  ∃xs:List Value,(results fn a.tmps).run P w=.ok (if h:xs.toArray.size=1 then xs.toArray[0] else .tuple xs.toArray) w∧d9 κ (s.aa+1) (vs.map (ae.aq s.aa)) xs:=by
 obtain⟨F,O⟩:=kx N;obtain⟨H,U⟩:=pg M;have I:∀(j:Nat) (b:ResultVar),fn.results.toList[j]? =some b→∃x,(∀f:ResultVar→Sem Value,(∀t,f (.tmp t)=Pure.pure (a.tmps.getD t undef))→(∀t ty,f (.cell t ty)=(do loadVar ty (←asAddr (a.tmps.getD t undef)):Sem Value))→(f b).run P w=.ok x w)∧∀v,vs[j]? =some v→ds κ (s.aa+1) (v.aq s.aa) x:=fun j b e=>by
  have da:=(ez.1 e).1;have V:j<q.results.length:=by rw[H];exact da
  have J:j<vs.length:=by rw[F];exact V
  obtain⟨Y,dI,Z⟩:=O j vs[j] (fB J);obtain⟨x,ab,ac⟩:=BT eu h (U j Y b dI e) Z;refine⟨x,ab,fun v bD=>?_⟩;rw[fB J] at bD;simp only[a8] at bD;subst bD;exact ac
 have fG:∃xs:List Value,xs.length=fn.results.toList.length∧∀(j:Nat) (b:ResultVar) (x:Value),fn.results.toList[j]? =some b→xs[j]? =some x→(∀f:ResultVar→Sem Value,(∀t,f (.tmp t)=Pure.pure (a.tmps.getD t undef))→(∀t ty,f (.cell t ty)=(do loadVar ty (←asAddr (a.tmps.getD t undef)):Sem Value))→(f b).run P w=.ok x w)∧∀v,vs[j]? =some v→ds κ (s.aa+1) (v.aq s.aa) x:=by
  refine⟨(List.range fn.results.toList.length).map fun j=>if da:j<fn.results.toList.length then Classical.choose (I j _ (fB da)) else undef,by simp,fun j b x e aZ=>?_⟩;have da:=(ez.1 e).1;have ad:fn.results.toList[j]=b:=(ez.1 e).2;simp only[iy,List.getElem?_range da,eb,a8] at aZ;rw[dif_pos da] at aZ
  have:=Classical.choose_spec (I j _ (fB da));rw[aZ,ad] at this;exact this
 obtain⟨xs,y,aZ⟩:=fG;refine⟨xs,?_,by rw[y,ht,F,H],fun j c x aW p=>?_⟩
 ·unfold results;rw[Array.mapM_eq_mapM_toList]
  have:=fun f ar ay=>og (P:=P) (w:=w) f fn.results.toList xs y (fun j r x aJ p=>(aZ j r x aJ p).1 f ar ay)
  rw[map_eq_pure_bind,Sem.run_bind,Sem.run_bind,this]
  ·rfl
  ·intro t;rfl
  ·intro t ty;rfl
 ·have da:j<fn.results.toList.length:=by rw[←y];exact(ez.1 p).1
  rw[iy] at aW;cases A:vs[j]? with
  |none=>rw[A] at aW;cases aW
  |some v=>rw[A] at aW;simp only[eb,a8] at aW;subst aW;exact(aZ j _ x (fB da) p).2 v A
theorem wa{T:ki}(eu:T.oO P){fy:Nat}{B:Nat}{G:Nat→ae}{an:er}{a:Act}(h:fm κ s w an.get a fy B G){p:dc}{fn:Func}(c3:p.bC=false)(H:ly T p.results fn.results.toList=true){v:ae}{s':ag}(bg:finish .not p an s=.ok v s'):
  ∃x κ' e own,(results fn a.tmps).run P w=.ok x w∧s.up=own::s'.up∧s'= {own,up:=s'.up,ro:=s.ro}∧e.up=s.up∧e.ro=s.ro∧e0 κ s w κ' e w∧cL κ' e w∧ds κ' s.aa v x:=by
 simp only[finish,c3,aN.not,bL,↓reduceIte] at bg;cases q:fA (pV an s) p.results with
 |none=>rw[q] at bg;cases bg
 |some vs=>
  rw[q] at bg;simp only at bg;cases r:fA (freeze s) vs with
  |none=>rw[r] at bg;cases bg
  |some jD=>
   rw[r] at bg;simp only at bg;cases y:s.up with
   |nil=>rw[y] at bg;cases bg
   |cons own up=>
    rw[y] at bg;simp only[ah.ok.injEq] at bg;obtain⟨rfl,rfl⟩:=bg;obtain⟨I,J⟩:=kx r;obtain⟨κ',e,M,A,N,O,ac,ad,af,U⟩:=h.iq.g8 s.own.length (aC _);have V:∀i cs,s.own[i]? =some (.cells cs)→∃C:Array Value,(∀j (h:j<C.size),κ'.F ⟨κ.loc s.aa i,j,none⟩=some C[j])∧d9 κ' (s.aa+1) cs (C.toList.take cs.length):=fun i cs bN=>U i cs (ez.1 bN).1 bN
    obtain⟨xs,Y,aZ⟩:=ph eu h H q;refine⟨_,κ',e,own,Y,rfl,rfl,by rw[N,y],O,A,M,?_⟩;refine ul ⟨by rw[aZ.1,ht,I],fun j c x aW Z=>?_⟩;obtain⟨LI,dI,ab⟩:=J j c aW;exact v9 A.k V (aZ.2 j _ x (by rw[iy,dI];rfl) Z) ab
theorem xy{T:ki}(eu:T.oO P){fy:Nat}{B:Nat}{G:Nat→ae}{an:er}{a:Act}(h:fm κ s w an.get a fy B G){e:dc}{fn:Func}(c3:e.bC=true)(q:ly T e.results fn.results.toList=true){v:ae}{s':ag}(bg:finish .not e an s=.ok v s'):
  ∃x,(results fn a.tmps).run P w=.ok x w∧s'=s∧ds κ (s.aa+1) (v.aq s.aa) x:=by
 simp only[finish,c3,aN.not,↓reduceIte] at bg;cases p:fA (pV an s) e.results with
 |none=>rw[p] at bg;cases bg
 |some vs=>
  rw[p] at bg;simp only[ah.ok.injEq] at bg;obtain⟨rfl,rfl⟩:=bg;obtain⟨xs,r,aZ⟩:=ph eu h q p;refine⟨_,r,rfl,?_⟩
  have:=ul aZ;rw[this.kM];exact this
variable(hm:P.follows .mixedOrders=true){T:ki}(eu:T.oO P){qy:Nat→Option dc}(wv:BU P T qy){G:Nat→ae}{X:Nat→List ae→ag→ah}(kg:Sv P qy G X)
include hm eu wv kg
theorem um:∀n m,ms P {F:=.not,au:=G,call:=call .not qy G X n,loop:=fun step bC an s k=>dF step bC m an s k}
 |0,m=>⟨⟨m,fun _ _ _ _ _=>rfl⟩,fun f args s v s' h=>(by simp [call] at h),fun f args s v s' κ w xs h=>(by simp [call] at h)⟩
 |n+1,m=>by
  refine⟨⟨m,fun _ _ _ _ _=>rfl⟩,fun f args s=>iN.call kg.m4 (n+1) f args s,fun f args s v s' κ w xs h aV dM r=>?_⟩;simp only at h dM;simp only[call] at h;cases bg:qy f with
  |none=>rw[bg] at h;exact kg.ok f args s v s' κ w xs bg h aV dM r
  |some e=>
   rw[bg] at h;simp only at h;obtain⟨fn,N,p⟩:=wv f e bg;unfold uk at p;cases A:fn.body with
   |none=>rw[A] at p;cases p
   |some c=>
    rw[A] at p;simp only[bm,Bool.not_eq_true'] at p;obtain⟨⟨⟨⟨gR,ak⟩,al⟩,ad⟩,ae⟩:=p;have az:e.fy=fn.ntmps:=c4 ak;have aA:=dL al;obtain⟨hlen,h⟩:=cP h (by simp);have hlen:=c4 hlen;have am:¬fn.name= "runtime.NumGoroutine" :=by simpa using gR
    refine .inr ⟨by simp [callFunc,N,am,A],?_⟩;cases H:e.bC with
    |true=>
     rw[H] at h;simp only[↓reduceIte] at h;obtain⟨an,hex,O⟩:=nD (by simp) _ _ _ h;have ke:=um n n;have ao:xs.length=args.length:=r.1;have U:fm κ s w an.get {tmps:=xs.toArray++Array.replicate (fn.ntmps-xs.toArray.size) undef,defers:=[]} e.fy w.heap.size G:=by
      refine⟨aV,fun t=>?_,Marks.nil (aC _),?_,dM⟩
      ·rw[O t];split
       ·rename_i d6;have V:t<args.length:=by omega
        have dI:args[t]? =some args[t]:=fB V;have B:xs[t]? =some xs[t]:=fB (by omega);have bD:=r.2 t _ _ dI B;have Y:(xs.toArray++Array.replicate (fn.ntmps-xs.toArray.size) undef).getD t undef=xs[t]:=by rw[Array.getD_eq_getD_getElem?,Array.getElem?_append_left (by simp;omega)];simp [B]
        rw[Y,Nat.sub_zero,List.getD_eq_getElem?_getD,dI,Option.getD_some,bD.kM];exact bD
       ·exact .dead _
      ·simp;omega
     refine oj N A (sk hm eu rfl ke e.body c (rd:=false) (by simp) ae (by simp) U hex) (fun x af I d8 fz w' he aJ c3=>?_) (fun i d8 s' c3=>by cases c3);have key:finish .not e d8 I=.ok v s'→∃y,(results fn fz.tmps).run P w'=.ok y w'∧∃x,Ending.returned y=.returned x∧l3 κ s w v s' x w':=fun c3=>by obtain⟨y,p3,rF,BD⟩:=xy eu aJ H ad c3;subst rF;refine⟨y,p3,y,rfl,af,he,aJ.iq,?_⟩;rw[he.aa] at BD;exact BD
     cases x with
     |norm=>exact⟨.inl rfl,key c3⟩
     |ret=>exact⟨.inr rfl,key c3⟩
     |_=>cases c3
    |false=>
     rw[H] at h;simp only[bL,↓reduceIte] at h;obtain⟨an,hex,O⟩:=nD (by simp) _ _ _ h;obtain⟨ah,ap,Z,aq,ai⟩:=aV.push;have ke:=um n n;have ao:xs.length=args.length:=r.1;have U:fm ah s.push w an.get {tmps:=xs.toArray++Array.replicate (fn.ntmps-xs.toArray.size) undef,defers:=[]} e.fy w.heap.size G:=by
      refine⟨ap,fun t=>?_,Marks.nil (aC _),?_,dM.mono Z⟩
      ·rw[O t];split
       ·rename_i d6;have V:t<args.length:=by omega
        have dI:args[t]? =some args[t]:=fB V;have B:xs[t]? =some xs[t]:=fB (by omega);have bD:=r.2 t _ _ dI B;have Y:(xs.toArray++Array.replicate (fn.ntmps-xs.toArray.size) undef).getD t undef=xs[t]:=by rw[Array.getD_eq_getD_getElem?,Array.getElem?_append_left (by simp;omega)];simp [B]
        rw[Y,Nat.sub_zero,List.getD_eq_getElem?_getD,dI,Option.getD_some,bD.kM];exact(bD.mono Z).up (by rw[ag.iG];omega)
       ·exact .dead _
      ·simp;omega
     refine oj N A (sk hm eu rfl ke e.body c (rd:=false) (by simp) ae (by simp) U hex) (fun x af I d8 fz w' he aJ c3=>?_) (fun i d8 s' c3=>by cases c3);have key:finish .not e d8 I=.ok v s'→∃y,(results fn fz.tmps).run P w'=.ok y w'∧∃x,Ending.returned y=.returned x∧l3 κ s w v s' x w':=fun c3=>by
      obtain⟨y,as,J,own,p3,rF,BD,YF,YG,av,YK,W6⟩:=wa eu aJ H ad c3;refine⟨y,p3,y,rfl,as,?_,?_,?_⟩
      ·
       have bh:=he.trans av;have M:s'= {own,up:=s'.up,ro:=J.ro}:=by rw[YG];exact BD
       have aj:J.up=own::s'.up:=by rw[YF,rF]
       have cF:s'.aa=s.aa:=by
        have ar:=bh.aa;rw[ag.iG] at ar;have ay:J.aa=s'.aa+1:=by rw[M];simp only[ag.aa,aj,bM];omega
        omega
       have ab:∀b,Live ah s.push b↔Live κ s b:=fun b=>by
        constructor
        ·rintro ⟨d,i,o,gZ,g9⟩
         rw[ag.m0] at gZ;exact⟨d,i,o,gZ,by rw[←ai d i o gZ];exact g9⟩
        ·rintro ⟨d,i,o,gZ,g9⟩
         exact⟨d,i,o,by rw[ag.m0];exact gZ,by rw[ai d i o gZ];exact g9⟩
       refine⟨Z.trans (bh.k.low (by rw[ag.iG];omega)),cF,bh.size,bh.os,bh.tape,bh.output,fun b ac bO=>bh.kq b ac (fun aw=>bO ((ab b).1 aw)),fun b ac bO=>?_,fun a ax=>?_⟩
       ·refine(ab b).1 (bh.live b ac ?_);obtain⟨d,i,o,gZ,g9⟩:=bO;rw[M] at gZ;exact⟨d,i,o,ag.p5 aj gZ,g9⟩
       ·rcases bh.nX a ax with q|q|q
        ·rw[aq] at q;exact .inl q
        ·exact .inr (.inl q)
        ·exact .inr (.inr ((ab _).1 q))
      ·have M:s'= {own,up:=s'.up,ro:=J.ro}:=by rw[YG];exact BD
       rw[M];exact YK.pop (by rw[YF,rF])
      ·have cF:I.aa=s.aa+1:=by rw[he.aa,ag.iG]
       rw[cF] at W6;rw[W6.kM];exact W6
     cases x with
     |norm=>exact⟨.inl rfl,key c3⟩
     |ret=>exact⟨.inr rfl,key c3⟩
     |_=>cases c3
end
end Go.Ab
end
section
namespace Go.Ab
open Classical
def LP(a b:ah):Prop:=a=.fail∨a=b
theorem LP.refl(a:ah):LP a a:=.inr rfl
theorem LP.eq{a b r:ah}(h:LP a b)(e:a=r)(aJ:r≠.fail):b=r:=by
 rcases h with h|h
 ·exact absurd (e.symm.trans h) aJ
 ·exact h ▸ e
def gS(a:Nat→ah)(b:ah):Prop:=(∀n,LP (a n) b)∧(b≠.fail→∃N,∀n,N≤n→a n=b)
theorem gS.const(a:ah):gS (fun _=>a) a:=⟨fun _=>.refl _,fun _=>⟨0,fun _ _=>rfl⟩⟩
theorem gS.of_eq{a:Nat→ah}{b:ah}(h:∀n,a n=b):gS a b:=⟨fun n=>.inr (h n),fun _=>⟨0,fun n _=>h n⟩⟩
theorem gS.fail:gS (fun _=>.fail) .fail:=.const _
theorem gS.bind{a:Nat→ah}{b:ah}(h:gS a b){k kp:Nat→ae→ag→ah}{l y:ae→ag→ah}(c3:∀v s,gS (fun n=>k n v s) (l v s))(gb:∀v s,gS (fun n=>kp n v s) (y v s)):gS (fun n=>ah.bind (a n) (k n) (kp n)) (ah.bind b l y):=by
 refine⟨fun n=>?_,fun p=>?_⟩
 ·rcases h.1 n with e|e
  ·left;simp only[e];rfl
  ·simp only[e];cases b with
   |fail=>exact .refl _
   |ok v s=>exact(c3 v s).1 n
   |panic v s=>exact(gb v s).1 n
 ·cases q:b with
  |fail=>rw[q] at p;exact absurd rfl p
  |ok v s=>rw[q] at p h;obtain⟨N,pf⟩:=h.2 (by simp);obtain⟨M,r⟩:=(c3 v s).2 p;exact⟨max N M,fun n df=>by show ah.bind (a n) _ _=_;rw[pf n (by omega)];exact r n (by omega)⟩
  |panic v s=>rw[q] at p h;obtain⟨N,pf⟩:=h.2 (by simp);obtain⟨M,r⟩:=(gb v s).2 p;exact⟨max N M,fun n df=>by show ah.bind (a n) _ _=_;rw[pf n (by omega)];exact r n (by omega)⟩
def DJ(k:Nat→hc)(l:hc):Prop:=∀x an s,gS (fun n=>k n x an s) (l x an s)
def k2(gq:Nat→mg)(e:mg):Prop:=∀an s k l,DJ k l→gS (fun n=>gq n an s (k n)) (e an s l)
def lK(gq:mg):Prop:=∀an s k l,(∀x an s,LP (k x an s) (l x an s))→LP (gq an s k) (gq an s l)
theorem k2.mono{gq:mg}(h:k2 (fun _=>gq) gq):lK gq:=fun an s k l c3=>by
 have:=h an s (fun n=>if n=0 then k else l) l (fun x an s=>⟨fun n=>by
  simp only;split
  ·exact c3 x an s
  ·exact .refl _,fun _=>⟨1,fun n df=>by simp [show n≠0 by omega]⟩⟩)
 simpa using this.1 0
def er.mask:g6→er→er
 |.e,_=>.e
 |.n h _ p,.e=>.n (er.mask h .e) .dead (er.mask p .e)
 |.n h b p,.n l v r=>.n (er.mask h l) (bif b then v else .dead) (er.mask p r)
theorem hY:∀(m:g6) (k:er→ah) (an:er),er.ja m k an=k (er.mask m an)
 |.e,k,an=>by cases an<;> rfl
 |.n h b p,k,.e=>by simp only[er.ja,er.mask,hY h,hY p]
 |.n h b p,k,.n l v r=>by simp only[er.ja,er.mask,hY h,hY p]
theorem iO(gq:mg)(bC:g6)(n:Nat)(an:er)(s:ag)(k:hc):dF gq bC (n+1) an s k=gq an s (fk bC (dF gq bC n) k):=rfl
theorem gm{gq:Nat→mg}{e:mg}(h:k2 gq e){k:Nat→hc}{l:hc}(c3:DJ k l)(bC:g6):∀(m:Nat) (an:er) (s:ag),gS (fun n=>dF (gq n) bC m an s (k n)) (dF e bC m an s l)
 |0,_,_=>.fail
 |m+1,an,s=>by
  simp only[iO];refine h _ _ _ _ (fun x an s=>?_);cases x with
  |norm=>simp only[fk,hY];exact gm h c3 bC m _ s
  |_=>exact c3 _ _ _
theorem qz{gq:mg}(h:lK gq)(bC:g6)(k:hc):∀(m:Nat) (an:er) (s:ag),LP (dF gq bC m an s k) (dF gq bC (m+1) an s k)
 |0,_,_=>.inl rfl
 |m+1,an,s=>by
  rw[iO,iO];refine h _ _ _ _ (fun x an s=>?_);cases x with
  |norm=>simp only[fk,hY];exact qz h bC k m _ s
  |_=>exact .refl _
theorem iZ{gq:mg}(h:lK gq){bC:g6}{k:hc}{m:Nat}{an:er}{s:ag}{r:ah}(aJ:r≠.fail)(e:dF gq bC m an s k=r):∀iS,m≤iS→dF gq bC iS an s k=r:=by
 intro iS hm
 induction hm with
 |refl=>exact e
 |step _ p=>exact(qz h bC k _ an s).eq p aJ
noncomputable def bz(gq:mg)(bC:g6)(an:er)(s:ag)(k:hc):ah:=if h:∃n,dF gq bC n an s k≠.fail then dF gq bC h.choose an s k else .fail
theorem l4{gq:mg}(h:lK gq){bC:g6}{k:hc}{m:Nat}{an:er}{s:ag}{r:ah}(aJ:r≠.fail)(e:dF gq bC m an s k=r):bz gq bC an s k=r:=by have aZ:∃n,dF gq bC n an s k≠.fail:=⟨m,by rw[e];exact aJ⟩;unfold bz;rw[dif_pos aZ];have ar:=aZ.choose_spec;have ay:=iZ h ar rfl (max aZ.choose m) (by omega);have ch:=iZ h aJ e (max aZ.choose m) (by omega);exact ay.symm.trans ch
theorem k3{gq:mg}{bC:g6}{k:hc}{an:er}{s:ag}{r:ah}(aJ:r≠.fail)(e:bz gq bC an s k=r):∃m,dF gq bC m an s k=r:=by
 unfold bz at e;split at e
 ·exact⟨_,e⟩
 ·exact absurd e.symm aJ
def hZ(a:Nat→mg→g6→mg)(b:mg→g6→mg):Prop:=∀(gq:Nat→mg) (e:mg) bC an s k l,(∀n,lK (gq n))→lK e→k2 gq e→DJ k l→gS (fun n=>a n (gq n) bC an s (k n)) (b e bC an s l)
theorem mw:hZ (fun _=>bz) bz:=fun gq p bC an s k l ar ay ch dk=>by
 refine⟨fun n=>?_,fun h=>?_⟩
 ·by_cases bg:bz (gq n) bC an s (k n)=.fail
  ·exact .inl bg
  ·obtain⟨m,e⟩:=k3 bg rfl;exact .inr (l4 ay bg (((gm ch dk bC m an s).1 n).eq e bg)).symm
 ·obtain⟨m,e⟩:=k3 h rfl;obtain⟨N,pf⟩:=(gm ch dk bC m an s).2 (by rw[e];exact h);exact⟨N,fun n df=>l4 (ar n) h ((pf n df).trans e)⟩
theorem uo:hZ (fun n gq bC an s k=>dF gq bC n an s k) bz:=fun gq p bC an s k l ar ay ch dk=>by
 refine⟨fun n=>?_,fun h=>?_⟩
 ·by_cases bg:dF (gq n) bC n an s (k n)=.fail
  ·exact .inl bg
  ·exact .inr (l4 ay bg (((gm ch dk bC n an s).1 n).eq rfl bg)).symm
 ·obtain⟨m,e⟩:=k3 h rfl;obtain⟨N,pf⟩:=(gm ch dk bC m an s).2 (by rw[e];exact h);exact⟨max N m,fun n df=>iZ (ar n) h ((pf n (by omega)).trans e) n (by omega)⟩
theorem wb(m:Nat):hZ (fun i gq bC an s k=>dF gq bC (if i=0 then m else m+1) an s k) (fun gq bC an s k=>dF gq bC (m+1) an s k):=fun gq h bC an s k l ar ay ch dk=>by
 refine⟨fun n=>?_,fun e=>?_⟩
 ·simp only;split
  ·by_cases bg:dF (gq n) bC m an s (k n)=.fail
   ·exact .inl bg
   ·exact .inr ((iZ ay bg (((gm ch dk bC m an s).1 n).eq rfl bg) (m+1) (by omega)).symm)
  ·exact(gm ch dk bC (m+1) an s).1 n
 ·obtain⟨N,pf⟩:=(gm ch dk bC (m+1) an s).2 e;exact⟨max N 1,fun n df=>by simp only[show n≠0 by omega,↓reduceIte];exact pf n (by omega)⟩
def gg(G:Nat→ae)(c:Nat→List ae→ag→ah)(l:mg→g6→mg):Env:={F:=.not,au:=G,call:=c,loop:=l}
section
variable{G:Nat→ae}{c:Nat→Nat→List ae→ag→ah}{cu:Nat→List ae→ag→ah}{l:Nat→mg→g6→mg}{lu:mg→g6→mg}(aW:∀f args s,gS (fun n=>c n f args s) (cu f args s))
include aW
theorem uq(s:ag)(f:Nat)(args:List ae):gS (fun n=>ee (gg G (c n) (l n)) s .ok .panic f args) (ee (gg G cu lu) s .ok .panic f args):=by
 have e:∀E:Env,ee E s .ok .panic f args=ah.bind (E.call f args s) (fun v s'=>bif Nat.beq s'.aa s.aa then .ok v s' else .fail) .panic:=fun E=>by unfold ee;cases E.call f args s<;> rfl
 simp only[e];exact(aW f args s).bind (fun _ _=>.const _) (fun _ _=>.const _)
theorem sl(s:ag)(f:Nat)(args:List ae):gS (fun n=>hd (gg G (c n) (l n)) s .ok f args) (hd (gg G cu lu) s .ok f args):=by
 have e:∀E:Env,hd E s .ok f args=bif ae.a6 args then ah.bind (E.call f args {own:=[],up:=[],ro:=[]}) (fun v _=>bif v.bj then .ok v s else .fail) (fun _ _=>.fail) else .fail:=fun E=>by
  unfold hd;cases ae.a6 args<;> try rfl
  cases E.call f args _<;> rfl
 simp only[e];cases ae.a6 args
 ·exact .fail
 ·exact(aW f args _).bind (fun _ _=>.const _) (fun _ _=>.const _)
theorem sm(s:ag)(xs:List (Option Nat×ae))(f:Nat)(args:List ae):gS (fun n=>hO (gg G (c n) (l n)) s .ok .panic xs f args) (hO (gg G cu lu) s .ok .panic xs f args):=by
 have e:∀E:Env,hO E s .ok .panic xs f args=ah.bind (E.call f args s) (fun v s'=>bif Nat.beq s'.aa s.aa then(bif xs.all fun x=>nq (eE s x.1 x.2) (eE s' x.1 x.2) then .ok v s' else .fail) else .fail) .panic:=fun E=>by unfold hO ee;cases E.call f args s<;> rfl
 simp only[e];exact(aW f args s).bind (fun _ _=>.const _) (fun _ _=>.const _)
theorem y2(an:Nat→ae)(s:ag)(op:fV):gS (fun n=>aE (gg G (c n) (l n)) an s .ok .panic op) (aE (gg G cu lu) an s .ok .panic op):=by
 cases op with
 |call f args=>show gS (fun n=>ee (gg G (c n) (l n)) s .ok .panic f (args.map fun x=>(ap G an x).aq s.aa)) (ee (gg G cu lu) s .ok .panic f (args.map fun x=>(ap G an x).aq s.aa));exact uq aW s f _
 |k6 h5 f args=>show gS (fun n=>hO (gg G (c n) (l n)) s .ok .panic (h5.map fun x=>(x.1,ap G an x.2)) f (args.map fun x=>(ap G an x).aq s.aa)) (hO (gg G cu lu) s .ok .panic (h5.map fun x=>(x.1,ap G an x.2)) f (args.map fun x=>(ap G an x).aq s.aa));exact sm aW s _ f _
 |jv h5 f args=>
  show gS (fun n=>jX (gg G (c n) (l n)) s .ok .panic (h5.map fun x=>(x.1,ap G an x.2)) (ap G an f) (args.map fun x=>(ap G an x).aq s.aa)) (jX (gg G cu lu) s .ok .panic (h5.map fun x=>(x.1,ap G an x.2)) (ap G an f) (args.map fun x=>(ap G an x).aq s.aa));cases ap G an f with
  |fn g dw=>exact sm aW s _ g _
  |_=>exact .fail
 |hI f args=>show gS (fun n=>hd (gg G (c n) (l n)) s .ok f (args.map fun x=>(ap G an x).aq s.aa)) (hd (gg G cu lu) s .ok f (args.map fun x=>(ap G an x).aq s.aa));exact sl aW s f _
 |ee f args=>
  show gS (fun n=>kJ (gg G (c n) (l n)) s .ok .panic (ap G an f) (args.map fun x=>(ap G an x).aq s.aa)) (kJ (gg G cu lu) s .ok .panic (ap G an f) (args.map fun x=>(ap G an x).aq s.aa));cases ap G an f with
  |fn g dw=>exact uq aW s g _
  |_=>exact .fail
 |lj f args=>
  show gS (fun n=>jn (gg G (c n) (l n)) s .ok (ap G an f) (args.map fun x=>(ap G an x).aq s.aa)) (jn (gg G cu lu) s .ok (ap G an f) (args.map fun x=>(ap G an x).aq s.aa));cases ap G an f with
  |fn g dw=>exact sl aW s g _
  |_=>exact .fail
 |_=>exact .of_eq (fun n=>rfl)
theorem xz(an:Nat→ae)(s:ag)(op:fV){k kp:Nat→ae→ag→ah}{m mp:ae→ag→ah}(c3:∀v s,gS (fun n=>k n v s) (m v s))(gb:∀v s,gS (fun n=>kp n v s) (mp v s)):
  gS (fun n=>aE (gg G (c n) (l n)) an s (k n) (kp n) op) (aE (gg G cu lu) an s m mp op):=by
 have e:∀n,aE (gg G (c n) (l n)) an s (k n) (kp n) op=ah.bind (aE (gg G (c n) (l n)) an s .ok .panic op) (k n) (kp n):=fun n=>iW rfl _ _ _ _ _
 rw[iW (E:=gg G cu lu) rfl];simp only[e];exact(y2 aW an s op).bind c3 gb
theorem lL:∀(d i:Nat) (v:ae) {k:Nat→er→ah} {m:er→ah} (_:∀an,gS (fun n=>k n an) (m an)) (an:er),gS (fun n=>an.iz d i v (k n)) (an.iz d i v m)
 |0,_,_,_,_,_,_=>.fail
 |d+1,i,v,k,m,h,.e=>by
  simp only[er.iz];cases Nat.beq i 0 with
  |true=>exact h _
  |false=>
   cases Nat.beq (i%2) 1 with
   |true=>exact lL d _ v (fun l=>h _) _
   |false=>exact lL d _ v (fun l=>h _) _
 |d+1,i,v,k,m,h,.n a x b=>by
  simp only[er.iz];cases Nat.beq i 0 with
  |true=>exact h _
  |false=>
   cases Nat.beq (i%2) 1 with
   |true=>exact lL d _ v (fun l=>h _) _
   |false=>exact lL d _ v (fun l=>h _) _
theorem rQ(dst:Option Nat)(v:ae){k:Nat→er→ah}{m:er→ah}(h:∀an,gS (fun n=>k n an) (m an))(an:er):gS (fun n=>iB an dst v (k n)) (iB an dst v m):=by
 cases dst with
 |none=>exact h an
 |some i=>exact lL aW 12 i v h an
theorem mx:∀(os:List cB) (an:er) (s:ag) {k:Nat→er→ag→ah} {m:er→ag→ah} {kp:Nat→ae→er→ag→ah} {mp:ae→er→ag→ah} (_:∀an s,gS (fun n=>k n an s) (m an s)) (_:∀v an s,gS (fun n=>kp n v an s) (mp v an s)),
  gS (fun n=>e9 (gg G (c n) (l n)) os an s (k n) (kp n)) (e9 (gg G cu lu) os an s m mp)
 |[],an,s,k,m,kp,mp,h,gb=>h an s
 |o::os,an,s,k,m,kp,mp,h,gb=>by
  simp only[e9];have key:∀w:Bool,gS (fun n=>bif w then aE (gg G (c n) (l n)) an.get s (fun v s=>iB an o.dst v fun an=>e9 (gg G (c n) (l n)) os an s (k n) (kp n)) (fun v s=>kp n v an s) o.op else iB an o.dst (.d7 []) fun an=>e9 (gg G (c n) (l n)) os an s (k n) (kp n))
    (bif w then aE (gg G cu lu) an.get s (fun v s=>iB an o.dst v fun an=>e9 (gg G cu lu) os an s m mp) (fun v s=>mp v an s) o.op else iB an o.dst (.d7 []) fun an=>e9 (gg G cu lu) os an s m mp):=fun w=>by
   cases w with
   |true=>exact xz aW an.get s o.op (fun v s=>rQ aW o.dst v (fun an=>mx os an s h gb) an) (fun v s=>gb v an s)
   |false=>exact rQ aW o.dst _ (fun an=>mx os an s h gb) an
  unfold lR;split
  ·exact key _
  ·split
   ·exact key _
   ·exact key _
   ·exact .fail
omit aW in
theorem ol{hl:ag}{dw:List ae}{gq:Nat→ae→ag→(pu→ag→ah)→ah}{p:ae→ag→(pu→ag→ah)→ah}(h:∀(x:ae) (s:ag) (k:Nat→pu→ag→ah) (m:pu→ag→ah),(∀e s,gS (fun n=>k n e s) (m e s))→gS (fun n=>gq n x s (k n)) (p x s m)):
  ∀(xs:List ae) (s:ag) {k:Nat→pu→ag→ah} {m:pu→ag→ah},(∀e s,gS (fun n=>k n e s) (m e s))→gS (fun n=>gK (gq n) hl dw xs s (k n)) (gK p hl dw xs s m)
 |[],s,k,m,c3=>c3 _ _
 |x::xs,s,k,m,c3=>h x s _ _ fun e s=>by
  cases e with
  |norm=>
   simp only;cases dw.all (fE hl s) with
   |true=>exact ol h xs s c3
   |false=>exact .fail
  |_=>exact c3 _ _
variable(bO:hZ l lu)(hm:∀n,hZ (fun _=>l n) (l n))(iY:hZ (fun _=>lu) lu)
include bO hm iY
theorem ur:∀(code:ad),k2 (fun n=>exec (gg G (c n) (l n)) code) (exec (gg G cu lu) code)∧(∀n,k2 (fun _=>exec (gg G (c n) (l n)) code) (exec (gg G (c n) (l n)) code))∧k2 (fun _=>exec (gg G cu lu) code) (exec (gg G cu lu) code):=by
 have y:∀(code:ad) (c:Nat→Nat→List ae→ag→ah) (cu:Nat→List ae→ag→ah) (l:Nat→mg→g6→mg) (lu:mg→g6→mg),(∀f args s,gS (fun n=>c n f args s) (cu f args s))→hZ l lu→(∀n,hZ (fun _=>l n) (l n))→hZ (fun _=>lu) lu→k2 (fun n=>exec (gg G (c n) (l n)) code) (exec (gg G cu lu) code):=by
  intro code
  induction code with
  |skip=>intro c cu l lu aW bO hm iY an s k m c3;exact c3 _ _ _
  |region mH ops=>
   intro c cu l lu aW bO hm iY an s k m c3;cases mH with
   |none=>exact mx aW ops an s (fun an s=>c3 _ _ _) (fun v an s=>.fail)
   |some mH=>
    simp only[exec];show gS (fun n=>bif mH.all (pS G an.get) then _ else _) (bif mH.all (pS G an.get) then _ else _);cases mH.all (pS G an.get)
    ·exact .fail
    ·exact mx aW ops an s (fun an s=>c3 _ _ _) (fun v an s=>.fail)
  |seq a b h q=>
   intro c cu l lu aW bO hm iY an s k m c3;simp only[exec];refine h c cu l lu aW bO hm iY an s _ _ (fun x an s=>?_);cases x with
   |norm=>exact q c cu l lu aW bO hm iY an s k m c3
   |_=>exact c3 _ _ _
  |cond x a b h q=>
   intro c cu l lu aW bO hm iY an s k m c3;simp only[exec];show gS (fun n=>match ap G an.get x with |.bool t=>bif t then exec (gg G (c n) (l n)) a an s (k n) else exec (gg G (c n) (l n)) b an s (k n)|_=>.fail) (match ap G an.get x with |.bool t=>bif t then exec (gg G cu lu) a an s m else exec (gg G cu lu) b an s m|_=>.fail);cases ap G an.get x with
   |bool t=>cases t with
    |true=>exact h c cu l lu aW bO hm iY an s k m c3
    |false=>exact q c cu l lu aW bO hm iY an s k m c3
   |_=>exact .fail
  |mask iS a e=>intro c cu l lu aW bO hm iY an s k m c3;simp only[exec,hY];exact e c cu l lu aW bO hm iY _ s k m c3
  |block id a e=>
   intro c cu l lu aW bO hm iY an s k m c3;simp only[exec];refine e c cu l lu aW bO hm iY an s _ _ (fun x an s=>?_);cases x with
   |exit j=>
    simp only[eP];cases Nat.beq j id
    ·exact c3 _ _ _
    ·exact c3 _ _ _
   |_=>exact c3 _ _ _
  |loop bC a e=>
   intro c cu l lu aW bO hm iY an s k m c3;simp only[exec,hY];refine bO _ _ bC _ s k m (fun n=>?_) ?_ (e c cu l lu aW bO hm iY) c3
   ·exact(e (fun _=>c n) (c n) (fun _=>l n) (l n) (fun _ _ _=>.const _) (hm n) (fun _=>hm n) (hm n)).mono
   ·exact(e (fun _=>cu) cu (fun _=>lu) lu (fun _ _ _=>.const _) iY (fun _=>iY) iY).mono
  |exit id=>intro c cu l lu aW bO hm iY an s k m c3;exact c3 _ _ _
  |scope a e=>intro c cu l lu aW bO hm iY an s k m c3;simp only[exec];exact e c cu l lu aW bO hm iY an s k m c3
  |ret=>intro c cu l lu aW bO hm iY an s k m c3;exact c3 _ _ _
  |range j f g p a b h q=>
   intro c cu l lu aW bO hm iY an s k m c3;simp only[exec];show gS (fun n=>ns j f (ap G an.get g) _ s _) (ns j f (ap G an.get g) _ s _);unfold ns;cases ap G an.get g with
   |fn vo dw=>
    simp only;cases Nat.beq f vo with
    |false=>exact .fail
    |true=>
     simp only[ci];cases pU s j dw with
     |none=>exact .fail
     |some xs=>
      refine ol (fun x s lk iS A=>?_) xs s (fun r s=>c3 r an s);refine rQ aW (some p) x (fun d8=>?_) an;refine h c cu l lu aW bO hm iY d8 s _ _ (fun r an s=>?_);cases r with
      |norm=>exact q c cu l lu aW bO hm iY an s _ _ (fun r an s=>A r s)
      |_=>exact .fail
   |_=>exact .fail
 intro code;exact⟨y code c cu l lu aW bO hm iY,fun n=>y code (fun _=>c n) (c n) (fun _=>l n) (l n) (fun _ _ _=>.const _) (hm n) (fun _=>hm n) (hm n),y code (fun _=>cu) cu (fun _=>lu) lu (fun _ _ _=>.const _) iY (fun _=>iY) iY⟩
end
theorem la(m:Nat):hZ (fun _ gq bC an s k=>dF gq bC m an s k) (fun gq bC an s k=>dF gq bC m an s k):=fun _ _ bC an s _ _ _ _ ch dk=>gm ch dk bC m an s
theorem qA:∀(vs:List ae) (i:Nat) (an:er) {k:Nat→er→ah} {m:er→ah} (_:∀an,gS (fun n=>k n an) (m an)),gS (fun n=>cG vs i an (k n)) (cG vs i an m)
 |[],_,an,_,_,h=>h an
 |v::vs,i,an,k,m,h=>lL (c:=fun _ _ _ _=>.fail) (cu:=fun _ _ _=>.fail) (fun _ _ _=>.fail) 12 i v (fun an=>qA vs (i+1) an h) an
def body(T:Nat→Option dc)(G:Nat→ae)(X:Nat→List ae→ag→ah)(c:Nat→List ae→ag→ah)(l:mg→g6→mg)(f:Nat)(args:List ae)(s:ag):ah:=
 match T f with
 |none=>X f args s
 |some fn=>
  bif Nat.beq args.length fn.WT then
   cG args 0 .e fun an=>exec (gg G c l) fn.body an (if fn.bC then s else {own:=[],up:=s.own::s.up,ro:=s.ro}) (Hd .not fn)
  else .fail
theorem ww{T:Nat→Option dc}{G:Nat→ae}{X:Nat→List ae→ag→ah}{c:Nat→Nat→List ae→ag→ah}{cu:Nat→List ae→ag→ah}{l:Nat→mg→g6→mg}{lu:mg→g6→mg}(aW:∀f args s,gS (fun n=>c n f args s) (cu f args s))(bO:hZ l lu)(hm:∀n,hZ (fun _=>l n) (l n))(iY:hZ (fun _=>lu) lu)(f:Nat)(args:List ae)(s:ag):
  gS (fun n=>body T G X (c n) (l n) f args s) (body T G X cu lu f args s):=by
 unfold body;cases T f with
 |none=>exact .const _
 |some fn=>
  simp only;cases Nat.beq args.length fn.WT with
  |false=>exact .fail
  |true=>simp only[ci];refine qA args 0 .e (fun an=>(ur aW bO hm iY fn.body).1 an _ _ _ (fun x an s=>?_));cases x<;> exact .const _
theorem nE(T:Nat→Option dc)(G:Nat→ae)(X:Nat→List ae→ag→ah)(n f:Nat)(args:List ae)(s:ag):call .not T G X (n+1) f args s=body T G X (call .not T G X n) (fun gq bC an s k=>dF gq bC n an s k) f args s:=rfl
section
variable(T:Nat→Option dc)(G:Nat→ae)(X:Nat→List ae→ag→ah)
theorem y3:∀(n f:Nat) (args:List ae) (s:ag),LP (call .not T G X n f args s) (call .not T G X (n+1) f args s)
 |0,f,args,s=>.inl rfl
 |n+1,f,args,s=>by
  have h:=ww (T:=T) (G:=G) (X:=X) (c:=fun i=>call .not T G X (if i=0 then n else n+1)) (cu:=call .not T G X (n+1)) (fun f args s=>⟨fun i=>by
    simp only;split
    ·exact y3 n f args s
    ·exact .refl _,fun _=>⟨1,fun i bN=>by simp [show i≠0 by omega]⟩⟩) (wb n) (fun i=>by by_cases bN:i=0<;> simp only[bN,↓reduceIte]<;> exact la _) (la (n+1)) f args s
  have:=h.1 0;simp only[↓reduceIte] at this;rw[nE,nE];exact this
theorem qB{n f:Nat}{args:List ae}{s:ag}{r:ah}(aJ:r≠.fail)(e:call .not T G X n f args s=r):∀m,n≤m→call .not T G X m f args s=r:=by
 intro m hm
 induction hm with
 |refl=>exact e
 |step _ h=>exact(y3 T G X _ f args s).eq h aJ
noncomputable def aX(f:Nat)(args:List ae)(s:ag):ah:=if h:∃n,call .not T G X n f args s≠.fail then call .not T G X h.choose f args s else .fail
theorem nF{n f:Nat}{args:List ae}{s:ag}{r:ah}(aJ:r≠.fail)(e:call .not T G X n f args s=r):aX T G X f args s=r:=by have aZ:∃n,call .not T G X n f args s≠.fail:=⟨n,by rw[e];exact aJ⟩;unfold aX;rw[dif_pos aZ];have ar:=aZ.choose_spec;exact(qB T G X ar rfl (max aZ.choose n) (by omega)).symm.trans (qB T G X aJ e (max aZ.choose n) (by omega))
theorem om{f:Nat}{args:List ae}{s:ag}{r:ah}(aJ:r≠.fail)(e:aX T G X f args s=r):∃n,call .not T G X n f args s=r:=by
 unfold aX at e;split at e
 ·exact⟨_,e⟩
 ·exact absurd e.symm aJ
theorem y4(f:Nat)(args:List ae)(s:ag):gS (fun n=>call .not T G X n f args s) (aX T G X f args s):=by
 refine⟨fun n=>?_,fun h=>?_⟩
 ·by_cases bg:call .not T G X n f args s=.fail
  ·exact .inl bg
  ·exact .inr (nF T G X bg rfl).symm
 ·obtain⟨n,e⟩:=om T G X h rfl;exact⟨n,fun m hm=>qB T G X h e m hm⟩
theorem xA(f:Nat)(args:List ae)(s:ag):aX T G X f args s=body T G X (aX T G X) bz f args s:=by
 have h:=ww (T:=T) (G:=G) (X:=X) (y4 T G X) uo (fun n=>la n) mw f args s;by_cases bg:body T G X (aX T G X) bz f args s=.fail
 ·rw[bg];by_cases aW:aX T G X f args s=.fail
  ·exact aW
  ·obtain⟨n,e⟩:=om T G X aW rfl
   have:=qB T G X aW e (n+1) (by omega);rw[nE] at this;exact absurd ((h.1 n).eq this aW) (by rw[bg];exact fun q=>aW q.symm)
 ·obtain⟨N,pf⟩:=h.2 bg;have e:=(nE T G X N f args s).trans (pf N (aC _));exact nF T G X bg e
end
theorem xB{G:Nat→ae}{cu:Nat→List ae→ag→ah}(code:ad)(bC:g6)(an:er)(s:ag)(k:hc):bz (exec (gg G cu bz) code) bC an s k=exec (gg G cu bz) code an s (fk bC (bz (exec (gg G cu bz) code) bC) k):=by
 have r:=(ur (G:=G) (c:=fun _=>cu) (cu:=cu) (l:=fun _=>bz) (lu:=bz) (fun _ _ _=>.const _) mw (fun _=>mw) mw code).1;have p:=r.mono;have c3:DJ (fun n=>fk bC (dF (exec (gg G cu bz) code) bC n) k) (fk bC (bz (exec (gg G cu bz) code) bC) k):=fun x an s=>by
  cases x with
  |norm=>
   simp only[fk,hY];generalize er.mask bC an=an;refine⟨fun n=>?_,fun y=>?_⟩
   ·by_cases bg:dF (exec (gg G cu bz) code) bC n an s k=.fail
    ·exact .inl bg
    ·exact .inr (l4 p bg rfl).symm
   ·obtain⟨n,e⟩:=k3 y rfl;exact⟨n,fun m hm=>iZ p y e m hm⟩
  |_=>exact .const _
 have h:=r an s _ _ c3;generalize A:exec (gg G cu bz) code an s (fk bC (bz (exec (gg G cu bz) code) bC) k)=R at h ⊢;by_cases bg:R=.fail
 ·rw[bg];by_cases aW:bz (exec (gg G cu bz) code) bC an s k=.fail
  ·exact aW
  ·obtain⟨n,e⟩:=k3 aW rfl
   have:=(iO _ _ _ _ _ _).symm.trans (iZ p aW e (n+1) (by omega));exact absurd ((h.1 n).eq this aW) (by rw[bg];exact fun q=>aW q.symm)
 ·obtain⟨N,pf⟩:=h.2 bg;exact l4 p bg ((iO _ _ _ _ _ _).trans (pf N (aC _)))
end Go.Ab
end
section
namespace Go.Ab
def LQ(x:ae)(s:ag)(k:ae→ag→ah):ah:=bif x.fj then k (.bU (x.aq s.aa).cells) s else .fail
def Ho(x:ae)(s:ag)(k:ae→ag→ah):ah:=bif x.fj then k (.ref (.l s.own.length) 0) (s.new (.cells (x.aq s.aa).cells)) else .fail
def xC(d:Nat):List ae→List (Nat×Nat×ae)→Option (List ae)
 |cs,[]=>some cs
 |cs,(off,sz,x)::eo=>
  let v:=x.aq d
  bif v.fj&&Nat.beq v.cells.length sz&&Nat.ble (off+sz) cs.length then xC d (dO cs off v.cells) eo else none
def DK(zero:List ae)(eo:List (Nat×Nat×ae))(s:ag)(k:ae→ag→ah):ah:=
 match (xC s.aa zero eo).map .agg with
 |some v=>k v s
 |none=>.fail
def oV(o:Option ae)(d:Nat):Option Nat:=
 match o with
 |none=>some d
 |some x=>eD x
def hSub(x:ae)(fW bN:Option ae)(s:ag)(k:ae→ag→ah):ah:=
 match x with
 |.str eB=>
  match oV fW 0,oV bN eB.length with
  |some l,some h=>bif Nat.ble l h&&Nat.ble h eB.length then k (.str ((eB.drop l).take (h-l))) s else .fail
  |_,_=>.fail
 |_=>.fail
def my(z:Nat)(x:ae)(fW bN ii:Option ae)(s:ag)(k:ae→ag→ah):ah:=
 match x with
 |.cm sz es g=>
  match oV fW 0,oV bN es.length with
  |some l,some h=>
   match ii with
   |none=>
    bif Nat.beq z sz&&Nat.ble l h&&Nat.ble h es.length&&oM g l h es then
     k (.cm sz ((es.drop l).take (h-l)) (match g with
      |.nil=>.nil
      |.exact=>if h=es.length then .exact else .any
      |.dW a=>if l=0∧h=es.length then .dW a else .any
      |.any=>.any)) s
    else .fail
   |some x=>
    match eD x,g with
    |_,.nil=>.fail
    |some m,_=>bif Nat.beq z sz&&Nat.ble l h&&Nat.ble h m&&Nat.ble m es.length&&tu g es then k (.cm sz ((es.drop l).take (h-l)) (if h=m then .exact else .any)) s else .fail
    |_,_=>.fail
  |_,_=>.fail
 |.cD a off len cap sz=>
  match oV fW 0,oV bN len,oV ii cap with
  |some l,some h,some m=>bif Nat.beq z sz&&Nat.ble l h&&Nat.ble h m&&Nat.ble m cap&&Nat.ble len cap then k (.cD a (if m=l then off else off+l*sz) (h-l) (m-l) sz) s else .fail
  |_,_,_=>.fail
 |_=>.fail
def qC(z n:Nat)(x:ae)(fW bN ii:Option ae)(s:ag)(k:ae→ag→ah):ah:=
 match x with
 |.ref a off=>
  match oV fW 0,oV bN n,oV ii n with
  |some l,some h,some m=>bif Nat.ble l h&&Nat.ble h m&&Nat.ble m n then k (.cD a (if m=l then off else off+l*z) (h-l) (m-l) z) s else .fail
  |_,_,_=>.fail
 |_=>.fail
def YL(v:ae):Option Loc:=
 match v with
 |.ref a _=>some a
 |.map a=>some a
 |_=>none
def xD(v:ae)(want:Bool)(op:(ae→ag→ah)→ah)(s:ag)(k:ae→ag→ah):ah:=
 match v with
 |.bool b=>bif b==want then op k else k (.d7 []) s
 |.d7 _=>k (.d7 []) s
 |_=>.fail
def Sw(v:ae)(a b:ah):ah:=
 match v with
 |.bool t=>bif t then a else b
 |_=>.fail
def lb(s:ag)(v:ae)(n:Option Nat):Option ae:=
 match v with
 |.ref a off=>
  match s.get a,n with
  |some (.cells cs),none=>cs[off]?
  |some (.cells cs),some n=>if Nat.ble (off+n) cs.length then some (.agg ((cs.drop off).take n)) else none
  |_,_=>none
 |_=>none
def qD(bC:Bool)(e:List (Option ae))(s:ag):ah:=
 match fA (fun x=>x) e with
 |some vs=>
  bif bC then .ok (r3 (vs.map (ae.aq s.aa))) s
  else
   match fA (freeze s) vs with
   |some vs=>
    match s.up with
    |own::up=>.ok (r3 vs) {own,up,ro:=s.ro}
    |[]=>.fail
   |none=>.fail
 |none=>.fail
def ag.ak(s:ag):ag:={own:=[],up:=s.own::s.up,ro:=s.ro}
abbrev bb:=ae→ag→ah
structure m8 where
 bi:Nat→ae
 dH:mg→g6→mg
 ba:g6→ad→mg
 bw:Bool→List (Option ae)→ag→ah
 iP:ae→ag→bb→ah
 cq:ag→bb→ae→ae→ae→ah
 fc:ae→ag→bb→ah
 wx:ae→ag→bb→ah
 eh:List ae→List (Nat×Nat×ae)→ag→bb→ah
 bG:ag→bb→Nat→List ae→ah
 qE:ag→bb→ae→ah
 aK:ag→bb→Option Nat→ae→ah
 dy:ag→bb→Nat→ae→ae→ah
 sn:ag→bb→ae→ah
 ai:ag→bb→Option ae→ah
 bT:ag→bb→IntKind→ae→ah
 wy:ag→bb→ae→ah
 kO:ag→bb→ae→ah
 pi:ag→bb→ae→ah
 kP:ag→bb→List ae→Nat→ae→ae→ah
 us:ae→Option ae→Option ae→ag→bb→ah
 jr:Nat→ae→Option ae→Option ae→Option ae→ag→bb→ah
 a7:ag→bb→Nat→ae→ah
 y5:ag→bb→Nat→Option Nat→ae→ah
 c7:ag→bb→Nat→ae→ae→ah
 lM:ag→bb→Nat→Nat→ae→ae→ah
 g5:ag→bb→ae→ae→ah
 wz:ag→bb→Nat→Nat→Option Nat→ae→ae→ah
 de:ag→bb→Nat→ae→ah
 cn:ag→bb→Nat→List ae→ah
 qF:ag→bb→ae→List ae→ah
 fI:ag→bb→Nat→List ae→ah
 wA:ag→bb→ae→List ae→ah
 wB:ag→bb→Option Nat→ae→Nat→ae→ae→ah
 y6:ag→bb→List (Option Nat×ae)→Nat→List ae→ah
 wC:ag→bb→List (Option Nat×ae)→ae→List ae→ah
 dz:ag→bb→Bool→ae→ah
 hs:ag→bb→Nat→Nat→Option Loc→ae→ae→ah
 uu:ag→bb→Nat→Nat→Option Loc→ae→ae→ah
 uv:ag→bb→Nat→Nat→Option Loc→ae→ae→ah
 j3:ag→bb→Nat→List ae→ah
 oo:ag→bb→Nat→List ae→ah
 uw:ag→bb→Nat→Nat→ae→ae→ah
 lN:Nat→Nat→ae→Option ae→Option ae→Option ae→ag→bb→ah
 qG:ag→bb→Nat→ae→ae→ah
 xE:ag→bb→(ae→ae→Option ae)→List ae→ah
 ux:ag→bb→Option Loc→ah
 wD:ag→bb→vn→ae→ae→ae→ah
 wE:ag→bb→vn→ae→Bool→ae→ae→ah
 af:ae→Bool→(bb→ah)→ag→bb→ah
 bt:ae→ah→ah→ah
 y7:Nat→Nat→ae→(ae→ag→(pu→ag→ah)→ah)→ag→(pu→ag→ah)→ah
def lz(G:Nat→ae)(an:Nat→ae):Option br→Option ae
 |none=>none
 |some x=>some (ap G an x)
def xF(G:Nat→ae)(an:Nat→ae):Option br→Option Loc
 |none=>some (.l 0)
 |some x=>YL (ap G an x)
def partsOf(G:Nat→ae)(an:Nat→ae):List (Nat×Nat×br)→List (Nat×Nat×ae)
 |[]=>[]
 |(off,sz,x)::eo=>(off,sz,ap G an x)::partsOf G an eo
def pH(P:m8)(an:Nat→ae)(s:ag)(k:bb)(op:fV):ah:=
 match op with
 |.move x=>k (ap P.bi an x) s
 |.nm x=>k (n2 (ap P.bi an x)) s
 |.pick c a b=>P.cq s k (ap P.bi an c) (ap P.bi an a) (ap P.bi an b)
 |.alloc zero=>P.iP (.ref (.l s.own.length) 0) (s.new (.cells zero)) k
 |.e7 x=>P.fc (ap P.bi an x) s k
 |.ju x=>P.wx (ap P.bi an x) s k
 |.build zero parts=>P.eh zero (partsOf P.bi an parts) s k
 |.buildSlice sz parts=>P.bG s k sz (parts.map (ap P.bi an))
 |.nl x=>P.qE s k (ap P.bi an x)
 |.load n a=>P.aK s k n (ap P.bi an a)
 |.store n a v=>P.dy s k n (ap P.bi an a) ((ap P.bi an v).aq s.aa)
 |.kG m y n a v=>P.wB s k m (ap P.bi an y) n (ap P.bi an a) ((ap P.bi an v).aq s.aa)
 |.nilCheck x=>P.sn s k (ap P.bi an x)
 |.bin op x y=>P.ai s k (ao op (ap P.bi an x) (ap P.bi an y))
 |.eq neg e x y=>P.ai s k ((pt e (ap P.bi an x) (ap P.bi an y)).map fun b=>.bool (bif neg then !b else b))
 |.un op x=>P.ai s k (kl op (ap P.bi an x))
 |.kS d x=>P.bT s k d (ap P.bi an x)
 |.nn x=>P.wy s k (ap P.bi an x)
 |.gu x=>P.kO s k (ap P.bi an x)
 |.iA x=>P.pi s k (ap P.bi an x)
 |.jf t x=>P.iP (.iface t ((ap P.bi an x).aq s.aa)) s k
 |.jU f dw=>P.iP (.fn f (dw.map fun x=>(ap P.bi an x).aq s.aa)) s k
 |.makeSlice zero bytes l c=>P.kP s k zero bytes (ap P.bi an l) (ap P.bi an c)
 |.jV x fW bN=>P.us (ap P.bi an x) (lz P.bi an fW) (lz P.bi an bN) s k
 |.slice z x fW bN ii=>P.jr z (ap P.bi an x) (lz P.bi an fW) (lz P.bi an bN) (lz P.bi an ii) s k
 |.fieldAddr off a=>P.a7 s k off (ap P.bi an a)
 |.field off n x=>P.y5 s k off n (ap P.bi an x)
 |.h7 sz x i=>P.c7 s k sz (ap P.bi an x) (ap P.bi an i)
 |.e8 sz len x i=>P.lM s k sz len (ap P.bi an x) (ap P.bi an i)
 |.ml x i=>P.g5 s k (ap P.bi an x) (ap P.bi an i)
 |.np sz len n x i=>P.wz s k sz len n (ap P.bi an x) (ap P.bi an i)
 |.extract x i=>P.de s k i (ap P.bi an x)
 |.call f args=>P.cn s k f (args.map fun x=>(ap P.bi an x).aq s.aa)
 |.ee f args=>P.qF s k (ap P.bi an f) (args.map fun x=>(ap P.bi an x).aq s.aa)
 |.hI f args=>P.fI s k f (args.map fun x=>(ap P.bi an x).aq s.aa)
 |.lj f args=>P.wA s k (ap P.bi an f) (args.map fun x=>(ap P.bi an x).aq s.aa)
 |.k6 h5 f args=>P.y6 s k (h5.map fun x=>(x.1,ap P.bi an x.2)) f (args.map fun x=>(ap P.bi an x).aq s.aa)
 |.jv h5 f args=>P.wC s k (h5.map fun x=>(x.1,ap P.bi an x.2)) (ap P.bi an f) (args.map fun x=>(ap P.bi an x).aq s.aa)
 |.len b x=>P.dz s k b (ap P.bi an x)
 |.append q bytes b x y=>P.hs s k q bytes (xF P.bi an b) (ap P.bi an x) (ap P.bi an y)
 |.jh q bytes b x y=>P.uv s k q bytes (xF P.bi an b) (ap P.bi an x) (ap P.bi an y)
 |.gj sz parts=>P.j3 s k sz (parts.map fun x=>(ap P.bi an x).aq s.aa)
 |.gi sz parts=>P.oo s k sz (parts.map fun x=>(ap P.bi an x).aq s.aa)
 |.ji q bytes x y=>P.uw s k q bytes (ap P.bi an x) (ap P.bi an y)
 |.jg q bytes b x y=>P.uu s k q bytes (xF P.bi an b) (ap P.bi an x) (ap P.bi an y)
 |.ir z n x fW bN ii=>P.lN z n (ap P.bi an x) (lz P.bi an fW) (lz P.bi an bN) (lz P.bi an ii) s k
 |.copy q d x=>P.qG s k q (ap P.bi an d) (ap P.bi an x)
 |.min xs=>P.xE s k min2 (xs.map fun x=>(ap P.bi an x).aq s.aa)
 |.max xs=>P.xE s k max2 (xs.map fun x=>(ap P.bi an x).aq s.aa)
 |.makeMap b=>P.ux s k (xF P.bi an b)
 |.mm kb m x v=>P.wD s k kb (ap P.bi an m) ((ap P.bi an x).aq s.aa) ((ap P.bi an v).aq s.aa)
 |.lookup kb zero ok m x=>P.wE s k kb zero ok (ap P.bi an m) ((ap P.bi an x).aq s.aa)
 |.ts neg x=>P.ai s k (w4 neg (ap P.bi an x))
 |.no=>.fail
def l5(P:m8):List cB→er→ag→(er→ag→ah)→ah
 |[],an,s,fin=>fin an s
 |o::os,an,s,fin=>
  match o.guard with
  |none=>pH P an.get s (fun v s=>iB an o.dst v fun an=>l5 P os an s fin) o.op
  |some (t,want)=>P.af (an.get t) want (fun k=>pH P an.get s k o.op) s (fun v s=>iB an o.dst v fun an=>l5 P os an s fin)
def a1(P:m8):ad→mg
 |.skip,an,s,k=>k .norm an s
 |.region none ops,an,s,k=>l5 P ops an s (fun an s=>k .norm an s)
 |.region (some []) ops,an,s,k=>l5 P ops an s (fun an s=>k .norm an s)
 |.region (some (_::_)) _,_,_,_=>.fail
 |.seq a b,an,s,k=>a1 P a an s (hL (a1 P b) k)
 |.mask m a,an,s,k=>P.ba m a (er.mask m an) s k
 |.cond c a b,an,s,k=>P.bt (ap P.bi an.get c) (a1 P a an s k) (a1 P b an s k)
 |.block id c,an,s,k=>a1 P c an s (eP id k)
 |.loop bC c,an,s,k=>P.dH (a1 P c) bC (er.mask bC an) s k
 |.exit id,an,s,k=>k (.exit id) an s
 |.scope c,an,s,k=>a1 P c an s k
 |.ret,an,s,k=>k .ret an s
 |.range j f g p a b,an,s,k=>P.y7 j f (ap P.bi an.get g) (fun x s lk=>iB an (some p) x fun d8=>a1 P a d8 s (BA (a1 P b) fun e _ s=>lk e s)) s fun e s=>k e an s
def DL(an:er)(s:ag):r2→Option ae
 |.t n=>some (an.get n)
 |.cell a n=>lb s (an.get a) n
def co(P:m8)(fn:dc):hc:=fun x an s=>
 match x with
 |.norm=>P.bw fn.bC (fn.results.map (DL an s)) s
 |.ret=>P.bw fn.bC (fn.results.map (DL an s)) s
 |_=>.fail
def jb:ad→Bool
 |.region (some (_::_)) _=>false
 |.seq a b|.cond _ a b=>jb a&&jb b
 |.mask _ a|.block _ a|.loop _ a|.scope a=>jb a
 |.range _ _ _ _ a b=>jb a&&jb b
 |_=>true
noncomputable def l6(G:Nat→ae)(c:Nat→List ae→ag→ah):m8 where
 bi:=G
 dH:=bz
 ba:=fun _ a an s k=>exec (gg G c bz) a an s k
 bw:=qD
 iP:=fun v s k=>k v s
 cq:=fun s k nk a b=>mK (gg G c bz) s k nk a b
 fc:=LQ
 wx:=Ho
 eh:=DK
 bG:=fun s k sz es=>hz (gg G c bz) s k sz es
 qE:=fun s k v=>kI (gg G c bz) s k v
 aK:=fun s k n v=>dP (gg G c bz) s k n v
 dy:=fun s k n a v=>fr (gg G c bz) s k n a v
 sn:=fun s k v=>iE (gg G c bz) s k v
 ai:=fun s k v=>pQ (gg G c bz) s k v
 bT:=fun s k d v=>jH (gg G c bz) s k d v
 wy:=fun s k v=>lP s k v
 kO:=fun s k v=>gk (gg G c bz) s k v
 pi:=fun s k v=>gW (gg G c bz) s k v
 kP:=fun s k z b l nk=>mJ (gg G c bz) s k z b l nk
 us:=hSub
 jr:=my
 a7:=fun s k off v=>gv (gg G c bz) s k off v
 y5:=fun s k off n v=>lm (gg G c bz) s k off n v
 c7:=fun s k sz x i=>kd (gg G c bz) s k sz x i
 lM:=fun s k sz len x i=>hy (gg G c bz) s k sz len x i
 g5:=fun s k x i=>hT (gg G c bz) s k x i
 wz:=fun s k sz len n x i=>jW (gg G c bz) s k sz len n x i
 de:=fun s k i v=>jG (gg G c bz) s k i v
 cn:=fun s k f args=>ee (gg G c bz) s k (fun _ _=>.fail) f args
 qF:=fun s k f args=>kJ (gg G c bz) s k (fun _ _=>.fail) f args
 fI:=fun s k f args=>hd (gg G c bz) s k f args
 wA:=fun s k f args=>jn (gg G c bz) s k f args
 wB:=fun s k m y n a v=>kT (gg G c bz) s k m y n a v
 y6:=fun s k h5 f args=>hO (gg G c bz) s k (fun _ _=>.fail) h5 f args
 wC:=fun s k h5 f args=>jX (gg G c bz) s k (fun _ _=>.fail) h5 f args
 dz:=fun s k b v=>o0 (gg G c bz) s k b v
 hs:=fun s k q bytes b x y=>hp (gg G c bz) s k q bytes b x y
 uv:=fun s k q bytes b x y=>lQ (gg G c bz) s k q bytes b x y
 j3:=fun s k sz es=>jm (gg G c bz) s k sz es
 oo:=fun s k sz es=>jl (gg G c bz) s k sz es
 uw:=fun s k q bytes x y=>lF (gg G c bz) s k q bytes (mI s x) y
 uu:=fun s k q bytes b x y=>km (gg G c bz) s k q bytes b x y
 lN:=fun z n x fW bN ii s k=>qC z n x fW bN ii s k
 qG:=fun s k q d x=>ln (gg G c bz) s k q d x
 xE:=fun s k f xs=>kK (gg G c bz) s k f xs
 ux:=fun s k b=>lG (gg G c bz) s k b
 wD:=fun s k kb m x v=>kU (gg G c bz) s k kb m x v
 wE:=fun s k kb z ok m x=>kV (gg G c bz) s k kb z ok m x
 af:=xD
 bt:=Sw
 y7:=ns
section
variable(G:Nat→ae)(c:Nat→List ae→ag→ah)
theorem wF(d:Nat)(an:Nat→ae):∀(eo:List (Nat×Nat×br)) (cs:List ae),xC d cs (partsOf G an eo)=eY G d an cs eo
 |[],cs=>rfl
 |(off,sz,x)::eo,cs=>by simp only[partsOf,xC,eY];rw[wF d an eo]
theorem xG(an:Nat→ae)(o:Option br)(d:Nat):oV (lz G an o) d=dv G an o d:=by cases o<;> rfl
theorem so(an:Nat→ae)(s:ag)(k:bb)(op:fV):pH (l6 G c) an s k op=aE (gg G c bz) an s k (fun _ _=>.fail) op:=by
 cases op<;> try rfl
 case build zero parts=>
  simp only[pH,aE,l6,DK,wF,pQ];show _=match (eY G s.aa an zero parts).map .agg with |some v=>k v s|none=>.fail
  cases eY G s.aa an zero parts<;> rfl
 case jV x fW bN=>simp only[pH,aE,l6,hSub,jk,xG];rfl
 case slice z x fW bN ii=>
  simp only[pH,aE,l6,my,jw,xG];show _=jw (gg G c bz) an s k z (ap G an x) fW bN ii;unfold jw;cases ap G an x<;> try rfl
  cases ii<;> rfl
 case ir z n x fW bN ii=>simp only[pH,aE,l6,qC,ie,xG];show _=ie (gg G c bz) an s k z n (ap G an x) fW bN ii;unfold ie;cases ap G an x<;> rfl
theorem mR:∀(os:List cB) (an:er) (s:ag) (fin:er→ag→ah),l5 (l6 G c) os an s fin=e9 (gg G c bz) os an s fin (fun _ _ _=>.fail)
 |[],an,s,fin=>rfl
 |o::os,an,s,fin=>by
  simp only[l5,e9];have key:(fun(v:ae) (s:ag)=>iB an o.dst v fun an=>l5 (l6 G c) os an s fin)=fun v s=>iB an o.dst v fun an=>e9 (gg G c bz) os an s fin (fun _ _ _=>.fail):=by funext v s;congr 1;funext an;exact mR os an s fin
  cases cE:o.guard with
  |none=>simp only[lR,ci];rw[key,so]
  |some p=>obtain⟨t,want⟩:=p;simp only[lR,key,so];rw[show(l6 G c).af=xD from rfl];unfold xD;cases an.get t<;> rfl
theorem oq:∀(code:ad),jb code=true→a1 (l6 G c) code=exec (gg G c bz) code:=by
 intro code
 induction code with
 |skip=>intro _;rfl
 |region mH ops=>
  intro h;cases mH with
  |none=>funext an s k;exact mR G c ops an s _
  |some mH=>
   cases mH with
   |nil=>funext an s k;simp only[a1,exec,List.all_nil,ci];exact mR G c ops an s _
   |cons _ _=>simp [jb] at h
 |seq a b q r=>intro h;simp only[jb,bm] at h;funext an s k;simp only[a1,exec,q h.1,r h.2]
 |mask m a e=>intro h;funext an s k;simp only[a1,exec,hY];rfl
 |cond x a b q r=>intro h;simp only[jb,bm] at h;funext an s k;simp only[a1,exec,q h.1,r h.2];rfl
 |block id a e=>intro h;funext an s k;simp only[a1,exec,e h]
 |loop bC a e=>intro h;funext an s k;simp only[a1,exec,e h,hY];rfl
 |exit id=>intro _;rfl
 |scope a e=>intro h;funext an s k;simp only[a1,exec,e h]
 |ret=>intro _;rfl
 |range j f g p a b q r=>intro h;simp only[jb,bm] at h;funext an s k;simp only[a1,exec,q h.1,r h.2];rfl
theorem wG{α β e:Type}(f:β→Option e)(g:α→β):∀l:List α,fA f (l.map g)=fA (fun x=>f (g x)) l
 |[]=>rfl
 |x::l=>by simp only[fM,fA,wG f g l]
theorem BV(fn:dc):co (l6 G c) fn=Hd .not fn:=by
 have key:∀an s,qD fn.bC (fn.results.map (DL an s)) s=finish .not fn an s:=fun an s=>by
  unfold qD finish;rw[wG,show(fun x=>DL an s x)=pV an s from by funext x;cases x<;> rfl];cases fA (pV an s) fn.results with
  |none=>rfl
  |some vs=>cases fn.bC<;> rfl
 funext x an s;cases x with
 |norm=>exact key an s
 |ret=>exact key an s
 |_=>rfl
end
structure m8.oO (Z:m8):Prop where
 m:∀m a an s k,jb a=true→Z.ba m a an s k=a1 Z a an s k
 l:∀c bC an s k,jb c=true→Z.dH (a1 Z c) bC an s k=a1 Z c an s (fk bC (Z.dH (a1 Z c) bC) k)
section
variable(T:Nat→Option dc)(G:Nat→ae)(X:Nat→List ae→ag→ah)
noncomputable def a3:m8:=l6 G (aX T G X)
theorem Sx:(a3 T G X).oO:=by
 refine⟨fun m a an s k h=>?_,fun c bC an s k h=>?_⟩
 ·unfold a3;rw[oq G _ a h];rfl
 ·unfold a3;rw[oq G _ c h];exact xB c bC an s k
theorem Gf{f:Nat}{fn:dc}{args:List ae}{s:ag}(eu:T f=some fn)(df:Nat.beq args.length fn.WT=true)(aW:jb fn.body=true):
  aX T G X f args s=cG args 0 .e fun an=>a1 (a3 T G X) fn.body an (bif fn.bC then s else s.ak) (co (a3 T G X) fn):=by
 rw[xA];unfold body;rw[eu];simp only[df,ci,a3,oq G _ fn.body aW,BV];congr;funext an;cases fn.bC<;> rfl
instance:Inhabited (a3 T G X).oO:=⟨Sx T G X⟩
theorem c9{f:Nat}{fn:dc}{args:List ae}{s:ag}(eu:T f=some fn:=by kernel_rfl)(df:Nat.beq args.length fn.WT=true:=by kernel_rfl)(aW:jb fn.body=true:=by kernel_rfl):aX T G X f args s=cG args 0 .e fun an=>a1 (a3 T G X) fn.body an (bif fn.bC then s else s.ak) (co (a3 T G X) fn):=Gf T G X eu df aW
end
theorem m8.oO.hi{Z:m8}(h:Z.oO){m:g6}{a:ad}{an:er}{s:ag}{k:hc}{R:ah}(e:jb a=true:=by kernel_rfl)(p:a1 Z a an s k=R:=by kernel_rfl):Z.ba m a an s k=R:=(h.m m a an s k e).trans p
theorem m8.oO.wH{Z:m8}(h:Z.oO){c:ad}{bC:g6}{an:er}{s:ag}{k:hc}{R:ah}(e:jb c=true:=by kernel_rfl)(p:a1 Z c an s (fk bC (Z.dH (a1 Z c) bC) k)=R:=by kernel_rfl):Z.dH (a1 Z c) bC an s k=R:=(h.l c bC an s k e).trans p
end Go.Ab
end
section
namespace Go.Ab
variable{T:Nat→Option dc}{G:Nat→ae}{X:Nat→List ae→ag→ah}{s:ag}{k:bb}
theorem ha(n:Option Nat)(v:ae):(a3 T G X).aK s k n v=dP (gg G (aX T G X) bz) s k n v:=rfl
theorem m9(n:Nat)(a v:ae):(a3 T G X).dy s k n a v=fr (gg G (aX T G X) bz) s k n a v:=rfl
theorem cx(v:ae):(a3 T G X).iP v s k=k v s:=rfl
theorem cy(v:ae):(a3 T G X).ai s k (some v)=k v s:=rfl
theorem bH(t:Bool)(a b:ae):(a3 T G X).cq s k (.bool t) a b=k (if t=true then a else b) s:=by cases t<;> rfl
theorem bd(t:Bool)(a b:ah):(a3 T G X).bt (.bool t) a b=if t=true then a else b:=by cases t<;> rfl
theorem uy(t w:Bool)(op:bb→ah):(a3 T G X).af (.bool t) w op s k=if t=w then op k else k (.d7 []) s:=by cases t<;> cases w<;> rfl
theorem cI(l:List ae)(w:Bool)(op:bb→ah):(a3 T G X).af (.d7 l) w op s k=k (.d7 []) s:=rfl
def na(v:ae)(op:bb→ah)(s:ag)(k:bb):ah:=
 match v with
 |.bool b=>bif b then op k else k (.bool false) s
 |_=>.fail
def rR(v:ae)(op:bb→ah)(s:ag)(k:bb):ah:=
 match v with
 |.bool b=>bif b then k (.bool true) s else op k
 |_=>.fail
theorem bP(t:Bool)(op:bb→ah):na (.bool t) op s k=if t=true then op k else k (.bool false) s:=by cases t<;> rfl
theorem cR(t:Bool)(op:bb→ah):rR (.bool t) op s k=if t=true then k (.bool true) s else op k:=by cases t<;> rfl
theorem bW(v:ae)(gR:bb→ah):(a3 T G X).af v true (gR) s (fun cg s1=>(a3 T G X).cq s1 k v cg (.bool false))=na v (fun k=>gR k) s k:=by
 cases v<;> try rfl
 rename_i b;cases b<;> rfl
theorem cS(v:ae)(gR:bb→ah):(a3 T G X).af v false (gR) s (fun cg s1=>(a3 T G X).cq s1 k v (.bool true) cg)=rR v (fun k=>gR k) s k:=by
 cases v<;> try rfl
 rename_i b;cases b<;> rfl
theorem bX(v:ae)(gR:bb→ah)(e:ae→ag→bb→ah):(a3 T G X).af v true (gR) s (fun cg s1=>(a3 T G X).af v true (e cg s1) s1 (fun h s2=>(a3 T G X).cq s2 k v h (.bool false)))=na v (fun k=>gR (fun cg s1=>e cg s1 k)) s k:=by
 cases v<;> try rfl
 rename_i b;cases b<;> rfl
theorem cT(v:ae)(gR:bb→ah)(e:ae→ag→bb→ah):(a3 T G X).af v false (gR) s (fun cg s1=>(a3 T G X).af v false (e cg s1) s1 (fun h s2=>(a3 T G X).cq s2 k v (.bool true) h))=rR v (fun k=>gR (fun cg s1=>e cg s1 k)) s k:=by
 cases v<;> try rfl
 rename_i b;cases b<;> rfl
theorem bQ(v:ae)(gR:bb→ah)(h:ae→ag→bb→ah)(p:ae→ag→ae→ag→bb→ah):(a3 T G X).af v true (gR) s (fun cg s1=>(a3 T G X).af v true (h cg s1) s1 (fun e s2=>(a3 T G X).af v true (p cg s1 e s2) s2 (fun q r=>(a3 T G X).cq r k v q (.bool false))))=na v (fun k=>gR (fun cg s1=>h cg s1 (fun e s2=>p cg s1 e s2 k))) s k:=by
 cases v<;> try rfl
 rename_i b;cases b<;> rfl
theorem cU(v:ae)(gR:bb→ah)(h:ae→ag→bb→ah)(p:ae→ag→ae→ag→bb→ah):(a3 T G X).af v false (gR) s (fun cg s1=>(a3 T G X).af v false (h cg s1) s1 (fun e s2=>(a3 T G X).af v false (p cg s1 e s2) s2 (fun q r=>(a3 T G X).cq r k v (.bool true) q)))=rR v (fun k=>gR (fun cg s1=>h cg s1 (fun e s2=>p cg s1 e s2 k))) s k:=by
 cases v<;> try rfl
 rename_i b;cases b<;> rfl
theorem bY(v:ae)(gR:bb→ah)(q:ae→ag→bb→ah)(r:ae→ag→ae→ag→bb→ah)(y:ae→ag→ae→ag→ae→ag→bb→ah):(a3 T G X).af v true (gR) s (fun cg s1=>(a3 T G X).af v true (q cg s1) s1 (fun e s2=>(a3 T G X).af v true (r cg s1 e s2) s2 (fun p h=>(a3 T G X).af v true (y cg s1 e s2 p h) h (fun A B=>(a3 T G X).cq B k v A (.bool false)))))=na v (fun k=>gR (fun cg s1=>q cg s1 (fun e s2=>r cg s1 e s2 (fun p h=>y cg s1 e s2 p h k)))) s k:=by
 cases v<;> try rfl
 rename_i b;cases b<;> rfl
theorem cV(v:ae)(gR:bb→ah)(q:ae→ag→bb→ah)(r:ae→ag→ae→ag→bb→ah)(y:ae→ag→ae→ag→ae→ag→bb→ah):(a3 T G X).af v false (gR) s (fun cg s1=>(a3 T G X).af v false (q cg s1) s1 (fun e s2=>(a3 T G X).af v false (r cg s1 e s2) s2 (fun p h=>(a3 T G X).af v false (y cg s1 e s2 p h) h (fun A B=>(a3 T G X).cq B k v (.bool true) A))))=rR v (fun k=>gR (fun cg s1=>q cg s1 (fun e s2=>r cg s1 e s2 (fun p h=>y cg s1 e s2 p h k)))) s k:=by
 cases v<;> try rfl
 rename_i b;cases b<;> rfl
theorem bZ(v:ae)(gR:bb→ah)(y:ae→ag→bb→ah)(A:ae→ag→ae→ag→bb→ah)(B:ae→ag→ae→ag→ae→ag→bb→ah)(F:ae→ag→ae→ag→ae→ag→ae→ag→bb→ah):(a3 T G X).af v true (gR) s (fun cg s1=>(a3 T G X).af v true (y cg s1) s1 (fun e s2=>(a3 T G X).af v true (A cg s1 e s2) s2 (fun p h=>(a3 T G X).af v true (B cg s1 e s2 p h) h (fun r q=>(a3 T G X).af v true (F cg s1 e s2 p h r q) q (fun H I=>(a3 T G X).cq I k v H (.bool false))))))=na v (fun k=>gR (fun cg s1=>y cg s1 (fun e s2=>A cg s1 e s2 (fun p h=>B cg s1 e s2 p h (fun r q=>F cg s1 e s2 p h r q k))))) s k:=by
 cases v<;> try rfl
 rename_i b;cases b<;> rfl
theorem cW(v:ae)(gR:bb→ah)(y:ae→ag→bb→ah)(A:ae→ag→ae→ag→bb→ah)(B:ae→ag→ae→ag→ae→ag→bb→ah)(F:ae→ag→ae→ag→ae→ag→ae→ag→bb→ah):(a3 T G X).af v false (gR) s (fun cg s1=>(a3 T G X).af v false (y cg s1) s1 (fun e s2=>(a3 T G X).af v false (A cg s1 e s2) s2 (fun p h=>(a3 T G X).af v false (B cg s1 e s2 p h) h (fun r q=>(a3 T G X).af v false (F cg s1 e s2 p h r q) q (fun H I=>(a3 T G X).cq I k v (.bool true) H)))))=rR v (fun k=>gR (fun cg s1=>y cg s1 (fun e s2=>A cg s1 e s2 (fun p h=>B cg s1 e s2 p h (fun r q=>F cg s1 e s2 p h r q k))))) s k:=by
 cases v<;> try rfl
 rename_i b;cases b<;> rfl
theorem b0(v:ae)(gR:bb→ah)(B:ae→ag→bb→ah)(F:ae→ag→ae→ag→bb→ah)(H:ae→ag→ae→ag→ae→ag→bb→ah)(I:ae→ag→ae→ag→ae→ag→ae→ag→bb→ah)(J:ae→ag→ae→ag→ae→ag→ae→ag→ae→ag→bb→ah):(a3 T G X).af v true (gR) s (fun cg s1=>(a3 T G X).af v true (B cg s1) s1 (fun e s2=>(a3 T G X).af v true (F cg s1 e s2) s2 (fun p h=>(a3 T G X).af v true (H cg s1 e s2 p h) h (fun r q=>(a3 T G X).af v true (I cg s1 e s2 p h r q) q (fun A y=>(a3 T G X).af v true (J cg s1 e s2 p h r q A y) y (fun M N=>(a3 T G X).cq N k v M (.bool false)))))))=na v (fun k=>gR (fun cg s1=>B cg s1 (fun e s2=>F cg s1 e s2 (fun p h=>H cg s1 e s2 p h (fun r q=>I cg s1 e s2 p h r q (fun A y=>J cg s1 e s2 p h r q A y k)))))) s k:=by
 cases v<;> try rfl
 rename_i b;cases b<;> rfl
theorem cX(v:ae)(gR:bb→ah)(B:ae→ag→bb→ah)(F:ae→ag→ae→ag→bb→ah)(H:ae→ag→ae→ag→ae→ag→bb→ah)(I:ae→ag→ae→ag→ae→ag→ae→ag→bb→ah)(J:ae→ag→ae→ag→ae→ag→ae→ag→ae→ag→bb→ah):(a3 T G X).af v false (gR) s (fun cg s1=>(a3 T G X).af v false (B cg s1) s1 (fun e s2=>(a3 T G X).af v false (F cg s1 e s2) s2 (fun p h=>(a3 T G X).af v false (H cg s1 e s2 p h) h (fun r q=>(a3 T G X).af v false (I cg s1 e s2 p h r q) q (fun A y=>(a3 T G X).af v false (J cg s1 e s2 p h r q A y) y (fun M N=>(a3 T G X).cq N k v (.bool true) M))))))=rR v (fun k=>gR (fun cg s1=>B cg s1 (fun e s2=>F cg s1 e s2 (fun p h=>H cg s1 e s2 p h (fun r q=>I cg s1 e s2 p h r q (fun A y=>J cg s1 e s2 p h r q A y k)))))) s k:=by
 cases v<;> try rfl
 rename_i b;cases b<;> rfl
theorem b1(v:ae)(gR:bb→ah)(H:ae→ag→bb→ah)(I:ae→ag→ae→ag→bb→ah)(J:ae→ag→ae→ag→ae→ag→bb→ah)(M:ae→ag→ae→ag→ae→ag→ae→ag→bb→ah)(N:ae→ag→ae→ag→ae→ag→ae→ag→ae→ag→bb→ah)(O:ae→ag→ae→ag→ae→ag→ae→ag→ae→ag→ae→ag→bb→ah):(a3 T G X).af v true (gR) s (fun cg s1=>(a3 T G X).af v true (H cg s1) s1 (fun e s2=>(a3 T G X).af v true (I cg s1 e s2) s2 (fun p h=>(a3 T G X).af v true (J cg s1 e s2 p h) h (fun r q=>(a3 T G X).af v true (M cg s1 e s2 p h r q) q (fun A y=>(a3 T G X).af v true (N cg s1 e s2 p h r q A y) y (fun F B=>(a3 T G X).af v true (O cg s1 e s2 p h r q A y F B) B (fun U V=>(a3 T G X).cq V k v U (.bool false))))))))=na v (fun k=>gR (fun cg s1=>H cg s1 (fun e s2=>I cg s1 e s2 (fun p h=>J cg s1 e s2 p h (fun r q=>M cg s1 e s2 p h r q (fun A y=>N cg s1 e s2 p h r q A y (fun F B=>O cg s1 e s2 p h r q A y F B k))))))) s k:=by
 cases v<;> try rfl
 rename_i b;cases b<;> rfl
theorem cY(v:ae)(gR:bb→ah)(H:ae→ag→bb→ah)(I:ae→ag→ae→ag→bb→ah)(J:ae→ag→ae→ag→ae→ag→bb→ah)(M:ae→ag→ae→ag→ae→ag→ae→ag→bb→ah)(N:ae→ag→ae→ag→ae→ag→ae→ag→ae→ag→bb→ah)(O:ae→ag→ae→ag→ae→ag→ae→ag→ae→ag→ae→ag→bb→ah):(a3 T G X).af v false (gR) s (fun cg s1=>(a3 T G X).af v false (H cg s1) s1 (fun e s2=>(a3 T G X).af v false (I cg s1 e s2) s2 (fun p h=>(a3 T G X).af v false (J cg s1 e s2 p h) h (fun r q=>(a3 T G X).af v false (M cg s1 e s2 p h r q) q (fun A y=>(a3 T G X).af v false (N cg s1 e s2 p h r q A y) y (fun F B=>(a3 T G X).af v false (O cg s1 e s2 p h r q A y F B) B (fun U V=>(a3 T G X).cq V k v (.bool true) U)))))))=rR v (fun k=>gR (fun cg s1=>H cg s1 (fun e s2=>I cg s1 e s2 (fun p h=>J cg s1 e s2 p h (fun r q=>M cg s1 e s2 p h r q (fun A y=>N cg s1 e s2 p h r q A y (fun F B=>O cg s1 e s2 p h r q A y F B k))))))) s k:=by
 cases v<;> try rfl
 rename_i b;cases b<;> rfl
theorem b2(v:ae)(gR:bb→ah)(J:ae→ag→bb→ah)(M:ae→ag→ae→ag→bb→ah)(N:ae→ag→ae→ag→ae→ag→bb→ah)(O:ae→ag→ae→ag→ae→ag→ae→ag→bb→ah)(U:ae→ag→ae→ag→ae→ag→ae→ag→ae→ag→bb→ah)(V:ae→ag→ae→ag→ae→ag→ae→ag→ae→ag→ae→ag→bb→ah)(Y:ae→ag→ae→ag→ae→ag→ae→ag→ae→ag→ae→ag→ae→ag→bb→ah):(a3 T G X).af v true (gR) s (fun cg s1=>(a3 T G X).af v true (J cg s1) s1 (fun e s2=>(a3 T G X).af v true (M cg s1 e s2) s2 (fun p h=>(a3 T G X).af v true (N cg s1 e s2 p h) h (fun r q=>(a3 T G X).af v true (O cg s1 e s2 p h r q) q (fun A y=>(a3 T G X).af v true (U cg s1 e s2 p h r q A y) y (fun F B=>(a3 T G X).af v true (V cg s1 e s2 p h r q A y F B) B (fun I H=>(a3 T G X).af v true (Y cg s1 e s2 p h r q A y F B I H) H (fun Z aa=>(a3 T G X).cq aa k v Z (.bool false)))))))))=na v (fun k=>gR (fun cg s1=>J cg s1 (fun e s2=>M cg s1 e s2 (fun p h=>N cg s1 e s2 p h (fun r q=>O cg s1 e s2 p h r q (fun A y=>U cg s1 e s2 p h r q A y (fun F B=>V cg s1 e s2 p h r q A y F B (fun I H=>Y cg s1 e s2 p h r q A y F B I H k)))))))) s k:=by
 cases v<;> try rfl
 rename_i b;cases b<;> rfl
theorem cZ(v:ae)(gR:bb→ah)(J:ae→ag→bb→ah)(M:ae→ag→ae→ag→bb→ah)(N:ae→ag→ae→ag→ae→ag→bb→ah)(O:ae→ag→ae→ag→ae→ag→ae→ag→bb→ah)(U:ae→ag→ae→ag→ae→ag→ae→ag→ae→ag→bb→ah)(V:ae→ag→ae→ag→ae→ag→ae→ag→ae→ag→ae→ag→bb→ah)(Y:ae→ag→ae→ag→ae→ag→ae→ag→ae→ag→ae→ag→ae→ag→bb→ah):(a3 T G X).af v false (gR) s (fun cg s1=>(a3 T G X).af v false (J cg s1) s1 (fun e s2=>(a3 T G X).af v false (M cg s1 e s2) s2 (fun p h=>(a3 T G X).af v false (N cg s1 e s2 p h) h (fun r q=>(a3 T G X).af v false (O cg s1 e s2 p h r q) q (fun A y=>(a3 T G X).af v false (U cg s1 e s2 p h r q A y) y (fun F B=>(a3 T G X).af v false (V cg s1 e s2 p h r q A y F B) B (fun I H=>(a3 T G X).af v false (Y cg s1 e s2 p h r q A y F B I H) H (fun Z aa=>(a3 T G X).cq aa k v (.bool true) Z))))))))=rR v (fun k=>gR (fun cg s1=>J cg s1 (fun e s2=>M cg s1 e s2 (fun p h=>N cg s1 e s2 p h (fun r q=>O cg s1 e s2 p h r q (fun A y=>U cg s1 e s2 p h r q A y (fun F B=>V cg s1 e s2 p h r q A y F B (fun I H=>Y cg s1 e s2 p h r q A y F B I H k)))))))) s k:=by
 cases v<;> try rfl
 rename_i b;cases b<;> rfl
theorem b3(v:ae)(gR:bb→ah)(N:ae→ag→bb→ah)(O:ae→ag→ae→ag→bb→ah)(U:ae→ag→ae→ag→ae→ag→bb→ah)(V:ae→ag→ae→ag→ae→ag→ae→ag→bb→ah)(Y:ae→ag→ae→ag→ae→ag→ae→ag→ae→ag→bb→ah)(Z:ae→ag→ae→ag→ae→ag→ae→ag→ae→ag→ae→ag→bb→ah)(aa:ae→ag→ae→ag→ae→ag→ae→ag→ae→ag→ae→ag→ae→ag→bb→ah)(ab:ae→ag→ae→ag→ae→ag→ae→ag→ae→ag→ae→ag→ae→ag→ae→ag→bb→ah):(a3 T G X).af v true (gR) s (fun cg s1=>(a3 T G X).af v true (N cg s1) s1 (fun e s2=>(a3 T G X).af v true (O cg s1 e s2) s2 (fun p h=>(a3 T G X).af v true (U cg s1 e s2 p h) h (fun r q=>(a3 T G X).af v true (V cg s1 e s2 p h r q) q (fun A y=>(a3 T G X).af v true (Y cg s1 e s2 p h r q A y) y (fun F B=>(a3 T G X).af v true (Z cg s1 e s2 p h r q A y F B) B (fun I H=>(a3 T G X).af v true (aa cg s1 e s2 p h r q A y F B I H) H (fun M J=>(a3 T G X).af v true (ab cg s1 e s2 p h r q A y F B I H M J) J (fun ac ad=>(a3 T G X).cq ad k v ac (.bool false))))))))))=na v (fun k=>gR (fun cg s1=>N cg s1 (fun e s2=>O cg s1 e s2 (fun p h=>U cg s1 e s2 p h (fun r q=>V cg s1 e s2 p h r q (fun A y=>Y cg s1 e s2 p h r q A y (fun F B=>Z cg s1 e s2 p h r q A y F B (fun I H=>aa cg s1 e s2 p h r q A y F B I H (fun M J=>ab cg s1 e s2 p h r q A y F B I H M J k))))))))) s k:=by
 cases v<;> try rfl
 rename_i b;cases b<;> rfl
theorem c0(v:ae)(gR:bb→ah)(N:ae→ag→bb→ah)(O:ae→ag→ae→ag→bb→ah)(U:ae→ag→ae→ag→ae→ag→bb→ah)(V:ae→ag→ae→ag→ae→ag→ae→ag→bb→ah)(Y:ae→ag→ae→ag→ae→ag→ae→ag→ae→ag→bb→ah)(Z:ae→ag→ae→ag→ae→ag→ae→ag→ae→ag→ae→ag→bb→ah)(aa:ae→ag→ae→ag→ae→ag→ae→ag→ae→ag→ae→ag→ae→ag→bb→ah)(ab:ae→ag→ae→ag→ae→ag→ae→ag→ae→ag→ae→ag→ae→ag→ae→ag→bb→ah):(a3 T G X).af v false (gR) s (fun cg s1=>(a3 T G X).af v false (N cg s1) s1 (fun e s2=>(a3 T G X).af v false (O cg s1 e s2) s2 (fun p h=>(a3 T G X).af v false (U cg s1 e s2 p h) h (fun r q=>(a3 T G X).af v false (V cg s1 e s2 p h r q) q (fun A y=>(a3 T G X).af v false (Y cg s1 e s2 p h r q A y) y (fun F B=>(a3 T G X).af v false (Z cg s1 e s2 p h r q A y F B) B (fun I H=>(a3 T G X).af v false (aa cg s1 e s2 p h r q A y F B I H) H (fun M J=>(a3 T G X).af v false (ab cg s1 e s2 p h r q A y F B I H M J) J (fun ac ad=>(a3 T G X).cq ad k v (.bool true) ac)))))))))=rR v (fun k=>gR (fun cg s1=>N cg s1 (fun e s2=>O cg s1 e s2 (fun p h=>U cg s1 e s2 p h (fun r q=>V cg s1 e s2 p h r q (fun A y=>Y cg s1 e s2 p h r q A y (fun F B=>Z cg s1 e s2 p h r q A y F B (fun I H=>aa cg s1 e s2 p h r q A y F B I H (fun M J=>ab cg s1 e s2 p h r q A y F B I H M J k))))))))) s k:=by
 cases v<;> try rfl
 rename_i b;cases b<;> rfl
theorem bn(v:ae)(gR:bb→ah)(U:ae→ag→bb→ah)(V:ae→ag→ae→ag→bb→ah)(Y:ae→ag→ae→ag→ae→ag→bb→ah)(Z:ae→ag→ae→ag→ae→ag→ae→ag→bb→ah)(aa:ae→ag→ae→ag→ae→ag→ae→ag→ae→ag→bb→ah)(ab:ae→ag→ae→ag→ae→ag→ae→ag→ae→ag→ae→ag→bb→ah)(ac:ae→ag→ae→ag→ae→ag→ae→ag→ae→ag→ae→ag→ae→ag→bb→ah)(ad:ae→ag→ae→ag→ae→ag→ae→ag→ae→ag→ae→ag→ae→ag→ae→ag→bb→ah)(ai:ae→ag→ae→ag→ae→ag→ae→ag→ae→ag→ae→ag→ae→ag→ae→ag→ae→ag→bb→ah):(a3 T G X).af v true (gR) s (fun cg s1=>(a3 T G X).af v true (U cg s1) s1 (fun e s2=>(a3 T G X).af v true (V cg s1 e s2) s2 (fun p h=>(a3 T G X).af v true (Y cg s1 e s2 p h) h (fun r q=>(a3 T G X).af v true (Z cg s1 e s2 p h r q) q (fun A y=>(a3 T G X).af v true (aa cg s1 e s2 p h r q A y) y (fun F B=>(a3 T G X).af v true (ab cg s1 e s2 p h r q A y F B) B (fun I H=>(a3 T G X).af v true (ac cg s1 e s2 p h r q A y F B I H) H (fun M J=>(a3 T G X).af v true (ad cg s1 e s2 p h r q A y F B I H M J) J (fun O N=>(a3 T G X).af v true (ai cg s1 e s2 p h r q A y F B I H M J O N) N (fun aj ak=>(a3 T G X).cq ak k v aj (.bool false)))))))))))=na v (fun k=>gR (fun cg s1=>U cg s1 (fun e s2=>V cg s1 e s2 (fun p h=>Y cg s1 e s2 p h (fun r q=>Z cg s1 e s2 p h r q (fun A y=>aa cg s1 e s2 p h r q A y (fun F B=>ab cg s1 e s2 p h r q A y F B (fun I H=>ac cg s1 e s2 p h r q A y F B I H (fun M J=>ad cg s1 e s2 p h r q A y F B I H M J (fun O N=>ai cg s1 e s2 p h r q A y F B I H M J O N k)))))))))) s k:=by
 cases v<;> try rfl
 rename_i b;cases b<;> rfl
theorem b4(v:ae)(gR:bb→ah)(U:ae→ag→bb→ah)(V:ae→ag→ae→ag→bb→ah)(Y:ae→ag→ae→ag→ae→ag→bb→ah)(Z:ae→ag→ae→ag→ae→ag→ae→ag→bb→ah)(aa:ae→ag→ae→ag→ae→ag→ae→ag→ae→ag→bb→ah)(ab:ae→ag→ae→ag→ae→ag→ae→ag→ae→ag→ae→ag→bb→ah)(ac:ae→ag→ae→ag→ae→ag→ae→ag→ae→ag→ae→ag→ae→ag→bb→ah)(ad:ae→ag→ae→ag→ae→ag→ae→ag→ae→ag→ae→ag→ae→ag→ae→ag→bb→ah)(ai:ae→ag→ae→ag→ae→ag→ae→ag→ae→ag→ae→ag→ae→ag→ae→ag→ae→ag→bb→ah):(a3 T G X).af v false (gR) s (fun cg s1=>(a3 T G X).af v false (U cg s1) s1 (fun e s2=>(a3 T G X).af v false (V cg s1 e s2) s2 (fun p h=>(a3 T G X).af v false (Y cg s1 e s2 p h) h (fun r q=>(a3 T G X).af v false (Z cg s1 e s2 p h r q) q (fun A y=>(a3 T G X).af v false (aa cg s1 e s2 p h r q A y) y (fun F B=>(a3 T G X).af v false (ab cg s1 e s2 p h r q A y F B) B (fun I H=>(a3 T G X).af v false (ac cg s1 e s2 p h r q A y F B I H) H (fun M J=>(a3 T G X).af v false (ad cg s1 e s2 p h r q A y F B I H M J) J (fun O N=>(a3 T G X).af v false (ai cg s1 e s2 p h r q A y F B I H M J O N) N (fun aj ak=>(a3 T G X).cq ak k v (.bool true) aj))))))))))=rR v (fun k=>gR (fun cg s1=>U cg s1 (fun e s2=>V cg s1 e s2 (fun p h=>Y cg s1 e s2 p h (fun r q=>Z cg s1 e s2 p h r q (fun A y=>aa cg s1 e s2 p h r q A y (fun F B=>ab cg s1 e s2 p h r q A y F B (fun I H=>ac cg s1 e s2 p h r q A y F B I H (fun M J=>ad cg s1 e s2 p h r q A y F B I H M J (fun O N=>ai cg s1 e s2 p h r q A y F B I H M J O N k)))))))))) s k:=by
 cases v<;> try rfl
 rename_i b;cases b<;> rfl
theorem bo(v:ae)(gR:bb→ah)(Y:ae→ag→bb→ah)(Z:ae→ag→ae→ag→bb→ah)(aa:ae→ag→ae→ag→ae→ag→bb→ah)(ab:ae→ag→ae→ag→ae→ag→ae→ag→bb→ah)(ac:ae→ag→ae→ag→ae→ag→ae→ag→ae→ag→bb→ah)(ad:ae→ag→ae→ag→ae→ag→ae→ag→ae→ag→ae→ag→bb→ah)(ai:ae→ag→ae→ag→ae→ag→ae→ag→ae→ag→ae→ag→ae→ag→bb→ah)(aj:ae→ag→ae→ag→ae→ag→ae→ag→ae→ag→ae→ag→ae→ag→ae→ag→bb→ah)(ak:ae→ag→ae→ag→ae→ag→ae→ag→ae→ag→ae→ag→ae→ag→ae→ag→ae→ag→bb→ah)(al:ae→ag→ae→ag→ae→ag→ae→ag→ae→ag→ae→ag→ae→ag→ae→ag→ae→ag→ae→ag→bb→ah):(a3 T G X).af v true (gR) s (fun cg s1=>(a3 T G X).af v true (Y cg s1) s1 (fun e s2=>(a3 T G X).af v true (Z cg s1 e s2) s2 (fun p h=>(a3 T G X).af v true (aa cg s1 e s2 p h) h (fun r q=>(a3 T G X).af v true (ab cg s1 e s2 p h r q) q (fun A y=>(a3 T G X).af v true (ac cg s1 e s2 p h r q A y) y (fun F B=>(a3 T G X).af v true (ad cg s1 e s2 p h r q A y F B) B (fun I H=>(a3 T G X).af v true (ai cg s1 e s2 p h r q A y F B I H) H (fun M J=>(a3 T G X).af v true (aj cg s1 e s2 p h r q A y F B I H M J) J (fun O N=>(a3 T G X).af v true (ak cg s1 e s2 p h r q A y F B I H M J O N) N (fun V U=>(a3 T G X).af v true (al cg s1 e s2 p h r q A y F B I H M J O N V U) U (fun am an=>(a3 T G X).cq an k v am (.bool false))))))))))))=na v (fun k=>gR (fun cg s1=>Y cg s1 (fun e s2=>Z cg s1 e s2 (fun p h=>aa cg s1 e s2 p h (fun r q=>ab cg s1 e s2 p h r q (fun A y=>ac cg s1 e s2 p h r q A y (fun F B=>ad cg s1 e s2 p h r q A y F B (fun I H=>ai cg s1 e s2 p h r q A y F B I H (fun M J=>aj cg s1 e s2 p h r q A y F B I H M J (fun O N=>ak cg s1 e s2 p h r q A y F B I H M J O N (fun V U=>al cg s1 e s2 p h r q A y F B I H M J O N V U k))))))))))) s k:=by
 cases v<;> try rfl
 rename_i b;cases b<;> rfl
theorem b5(v:ae)(gR:bb→ah)(Y:ae→ag→bb→ah)(Z:ae→ag→ae→ag→bb→ah)(aa:ae→ag→ae→ag→ae→ag→bb→ah)(ab:ae→ag→ae→ag→ae→ag→ae→ag→bb→ah)(ac:ae→ag→ae→ag→ae→ag→ae→ag→ae→ag→bb→ah)(ad:ae→ag→ae→ag→ae→ag→ae→ag→ae→ag→ae→ag→bb→ah)(ai:ae→ag→ae→ag→ae→ag→ae→ag→ae→ag→ae→ag→ae→ag→bb→ah)(aj:ae→ag→ae→ag→ae→ag→ae→ag→ae→ag→ae→ag→ae→ag→ae→ag→bb→ah)(ak:ae→ag→ae→ag→ae→ag→ae→ag→ae→ag→ae→ag→ae→ag→ae→ag→ae→ag→bb→ah)(al:ae→ag→ae→ag→ae→ag→ae→ag→ae→ag→ae→ag→ae→ag→ae→ag→ae→ag→ae→ag→bb→ah):(a3 T G X).af v false (gR) s (fun cg s1=>(a3 T G X).af v false (Y cg s1) s1 (fun e s2=>(a3 T G X).af v false (Z cg s1 e s2) s2 (fun p h=>(a3 T G X).af v false (aa cg s1 e s2 p h) h (fun r q=>(a3 T G X).af v false (ab cg s1 e s2 p h r q) q (fun A y=>(a3 T G X).af v false (ac cg s1 e s2 p h r q A y) y (fun F B=>(a3 T G X).af v false (ad cg s1 e s2 p h r q A y F B) B (fun I H=>(a3 T G X).af v false (ai cg s1 e s2 p h r q A y F B I H) H (fun M J=>(a3 T G X).af v false (aj cg s1 e s2 p h r q A y F B I H M J) J (fun O N=>(a3 T G X).af v false (ak cg s1 e s2 p h r q A y F B I H M J O N) N (fun V U=>(a3 T G X).af v false (al cg s1 e s2 p h r q A y F B I H M J O N V U) U (fun am an=>(a3 T G X).cq an k v (.bool true) am)))))))))))=rR v (fun k=>gR (fun cg s1=>Y cg s1 (fun e s2=>Z cg s1 e s2 (fun p h=>aa cg s1 e s2 p h (fun r q=>ab cg s1 e s2 p h r q (fun A y=>ac cg s1 e s2 p h r q A y (fun F B=>ad cg s1 e s2 p h r q A y F B (fun I H=>ai cg s1 e s2 p h r q A y F B I H (fun M J=>aj cg s1 e s2 p h r q A y F B I H M J (fun O N=>ak cg s1 e s2 p h r q A y F B I H M J O N (fun V U=>al cg s1 e s2 p h r q A y F B I H M J O N V U k))))))))))) s k:=by
 cases v<;> try rfl
 rename_i b;cases b<;> rfl
theorem bp(v:ae)(gR:bb→ah)(aa:ae→ag→bb→ah)(ab:ae→ag→ae→ag→bb→ah)(ac:ae→ag→ae→ag→ae→ag→bb→ah)(ad:ae→ag→ae→ag→ae→ag→ae→ag→bb→ah)(ai:ae→ag→ae→ag→ae→ag→ae→ag→ae→ag→bb→ah)(aj:ae→ag→ae→ag→ae→ag→ae→ag→ae→ag→ae→ag→bb→ah)(ak:ae→ag→ae→ag→ae→ag→ae→ag→ae→ag→ae→ag→ae→ag→bb→ah)(al:ae→ag→ae→ag→ae→ag→ae→ag→ae→ag→ae→ag→ae→ag→ae→ag→bb→ah)(am:ae→ag→ae→ag→ae→ag→ae→ag→ae→ag→ae→ag→ae→ag→ae→ag→ae→ag→bb→ah)(an:ae→ag→ae→ag→ae→ag→ae→ag→ae→ag→ae→ag→ae→ag→ae→ag→ae→ag→ae→ag→bb→ah)(ao:ae→ag→ae→ag→ae→ag→ae→ag→ae→ag→ae→ag→ae→ag→ae→ag→ae→ag→ae→ag→ae→ag→bb→ah):(a3 T G X).af v true (gR) s (fun cg s1=>(a3 T G X).af v true (aa cg s1) s1 (fun e s2=>(a3 T G X).af v true (ab cg s1 e s2) s2 (fun p h=>(a3 T G X).af v true (ac cg s1 e s2 p h) h (fun r q=>(a3 T G X).af v true (ad cg s1 e s2 p h r q) q (fun A y=>(a3 T G X).af v true (ai cg s1 e s2 p h r q A y) y (fun F B=>(a3 T G X).af v true (aj cg s1 e s2 p h r q A y F B) B (fun I H=>(a3 T G X).af v true (ak cg s1 e s2 p h r q A y F B I H) H (fun M J=>(a3 T G X).af v true (al cg s1 e s2 p h r q A y F B I H M J) J (fun O N=>(a3 T G X).af v true (am cg s1 e s2 p h r q A y F B I H M J O N) N (fun V U=>(a3 T G X).af v true (an cg s1 e s2 p h r q A y F B I H M J O N V U) U (fun Z Y=>(a3 T G X).af v true (ao cg s1 e s2 p h r q A y F B I H M J O N V U Z Y) Y (fun ap aq=>(a3 T G X).cq aq k v ap (.bool false)))))))))))))=na v (fun k=>gR (fun cg s1=>aa cg s1 (fun e s2=>ab cg s1 e s2 (fun p h=>ac cg s1 e s2 p h (fun r q=>ad cg s1 e s2 p h r q (fun A y=>ai cg s1 e s2 p h r q A y (fun F B=>aj cg s1 e s2 p h r q A y F B (fun I H=>ak cg s1 e s2 p h r q A y F B I H (fun M J=>al cg s1 e s2 p h r q A y F B I H M J (fun O N=>am cg s1 e s2 p h r q A y F B I H M J O N (fun V U=>an cg s1 e s2 p h r q A y F B I H M J O N V U (fun Z Y=>ao cg s1 e s2 p h r q A y F B I H M J O N V U Z Y k)))))))))))) s k:=by
 cases v<;> try rfl
 rename_i b;cases b<;> rfl
theorem b6(v:ae)(gR:bb→ah)(aa:ae→ag→bb→ah)(ab:ae→ag→ae→ag→bb→ah)(ac:ae→ag→ae→ag→ae→ag→bb→ah)(ad:ae→ag→ae→ag→ae→ag→ae→ag→bb→ah)(ai:ae→ag→ae→ag→ae→ag→ae→ag→ae→ag→bb→ah)(aj:ae→ag→ae→ag→ae→ag→ae→ag→ae→ag→ae→ag→bb→ah)(ak:ae→ag→ae→ag→ae→ag→ae→ag→ae→ag→ae→ag→ae→ag→bb→ah)(al:ae→ag→ae→ag→ae→ag→ae→ag→ae→ag→ae→ag→ae→ag→ae→ag→bb→ah)(am:ae→ag→ae→ag→ae→ag→ae→ag→ae→ag→ae→ag→ae→ag→ae→ag→ae→ag→bb→ah)(an:ae→ag→ae→ag→ae→ag→ae→ag→ae→ag→ae→ag→ae→ag→ae→ag→ae→ag→ae→ag→bb→ah)(ao:ae→ag→ae→ag→ae→ag→ae→ag→ae→ag→ae→ag→ae→ag→ae→ag→ae→ag→ae→ag→ae→ag→bb→ah):(a3 T G X).af v false (gR) s (fun cg s1=>(a3 T G X).af v false (aa cg s1) s1 (fun e s2=>(a3 T G X).af v false (ab cg s1 e s2) s2 (fun p h=>(a3 T G X).af v false (ac cg s1 e s2 p h) h (fun r q=>(a3 T G X).af v false (ad cg s1 e s2 p h r q) q (fun A y=>(a3 T G X).af v false (ai cg s1 e s2 p h r q A y) y (fun F B=>(a3 T G X).af v false (aj cg s1 e s2 p h r q A y F B) B (fun I H=>(a3 T G X).af v false (ak cg s1 e s2 p h r q A y F B I H) H (fun M J=>(a3 T G X).af v false (al cg s1 e s2 p h r q A y F B I H M J) J (fun O N=>(a3 T G X).af v false (am cg s1 e s2 p h r q A y F B I H M J O N) N (fun V U=>(a3 T G X).af v false (an cg s1 e s2 p h r q A y F B I H M J O N V U) U (fun Z Y=>(a3 T G X).af v false (ao cg s1 e s2 p h r q A y F B I H M J O N V U Z Y) Y (fun ap aq=>(a3 T G X).cq aq k v (.bool true) ap))))))))))))=rR v (fun k=>gR (fun cg s1=>aa cg s1 (fun e s2=>ab cg s1 e s2 (fun p h=>ac cg s1 e s2 p h (fun r q=>ad cg s1 e s2 p h r q (fun A y=>ai cg s1 e s2 p h r q A y (fun F B=>aj cg s1 e s2 p h r q A y F B (fun I H=>ak cg s1 e s2 p h r q A y F B I H (fun M J=>al cg s1 e s2 p h r q A y F B I H M J (fun O N=>am cg s1 e s2 p h r q A y F B I H M J O N (fun V U=>an cg s1 e s2 p h r q A y F B I H M J O N V U (fun Z Y=>ao cg s1 e s2 p h r q A y F B I H M J O N V U Z Y k)))))))))))) s k:=by
 cases v<;> try rfl
 rename_i b;cases b<;> rfl
section
variable(cs:List ae)(ec:IntKind)(n:Int)(b:Bool)(eB:List Nat)(a:Loc)(o sz:Nat)(es:List ae)(g:ga)(f:Nat)
theorem ax:(a3 T G X).fc (.agg cs) s k=k (.bU cs) s:=rfl
theorem az:(a3 T G X).fc (.int ec n) s k=k (.bU [.int ec n]) s:=rfl
theorem av:(a3 T G X).fc (.bool b) s k=k (.bU [.bool b]) s:=rfl
theorem aA:(a3 T G X).fc (.str eB) s k=k (.bU [.str eB]) s:=rfl
theorem aF:(a3 T G X).fc (.cm sz es g) s k=k (.bU [.cm sz es (g.aq s.aa)]) s:=rfl
theorem aG:(a3 T G X).fc (.fn f cs) s k=k (.bU [.fn f cs]) s:=rfl
theorem aw:(a3 T G X).fc (.bU cs) s k=k (.bU [.bU cs]) s:=rfl
theorem aB:(a3 T G X).fc (.ref a o) s k=k (.bU [.ref (a.aq s.aa) o]) s:=rfl
end
theorem aU(sz:Nat)(es:List ae)(g:ga):(a3 T G X).dz s k false (.cm sz es g)=k (.int .i64 es.length) s:=rfl
theorem aM(a:Loc)(off n c sz:Nat):(a3 T G X).dz s k false (.cD a off n c sz)=k (.int .i64 n) s:=rfl
theorem aP(eB:List Nat):(a3 T G X).dz s k true (.str eB)=k (.int .i64 eB.length) s:=rfl
theorem bf(c:ae)(cs:List ae):(a3 T G X).aK s k none (.bU (c::cs))=k c s:=rfl
theorem a9(n:Nat)(cs:List ae)(h:n≤cs.length):(a3 T G X).aK s k (some n) (.bU cs)=k (.agg (cs.take n)) s:=by show(bif Nat.ble n cs.length then _ else _)=_;rw[show Nat.ble n cs.length=true from eK h];rfl
theorem dG(off:Nat)(cs:List ae):(a3 T G X).a7 s k off (.bU cs)=k (.bU (cs.drop off)) s:=rfl
theorem aL(off o:Nat)(a:Loc):(a3 T G X).a7 s k off (.ref a o)=k (.ref a (o+off)) s:=rfl
theorem gL(ec:IntKind)(n:Nat):eD (.int ec (n:Int))=some n:=by simp [eD]
theorem nG(sz:Nat)(es:List ae)(g:ga)(ec:IntKind)(i:Nat)(e:ae)(h:es[i]? =some e):(a3 T G X).c7 s k sz (.cm sz es g) (.int ec (i:Int))=k (.bU e.cells) s:=by show kd (gg G (aX T G X) bz) s k sz (.cm sz es g) (.int ec (i:Int))=_;unfold kd;rw[gL];simp only[show Nat.beq sz sz=true from hj sz,ci,h];rfl
theorem LR(sz:Nat)(es:List ae)(g:ga)(ec:IntKind)(i:Int)(e:ae)(eU:0≤i)(h:es[i.toNat]? =some e):(a3 T G X).c7 s k sz (.cm sz es g) (.int ec i)=k (.bU e.cells) s:=by
 have:=nG (T:=T) (G:=G) (X:=X) (s:=s) (k:=k) sz es g ec i.toNat e h
 rwa [Int.toNat_of_nonneg eU] at this
theorem ta{f:Nat}{args:List ae}{v:ae}{s':ag}(h:aX T G X f args s=.ok v s')(cF:s'.aa=s.aa):(a3 T G X).cn s k f args=k v s':=by show ee _ _ _ _ _ _=_;unfold ee;show(match aX T G X f args s with |.ok v s'=>_|.panic v s'=>_|.fail=>_)=_;rw[h];simp only[cF,hj,ci]
theorem bx{f:Nat}{args:List ae}{v:ae}(h:aX T G X f args s=.ok v s):(a3 T G X).cn s k f args=k v s:=ta h rfl
theorem bl{f:Nat}{dw args:List ae}:(a3 T G X).qF s k (.fn f dw) args=(a3 T G X).cn s k f (args++dw):=rfl
theorem j4{f:Nat}{args:List ae}{v:ae}{s':ag}(e:ae.a6 args=true)(h:aX T G X f args {own:=[],up:=[],ro:=[]}=.ok v s')(bD:v.bj=true):(a3 T G X).fI s k f args=k v s:=by show hd _ _ _ _ _=_;unfold hd;rw[e];simp only[ci];show(match aX T G X f args _ with |.ok v _=>_|_=>_)=_;rw[h];simp only[bD,ci]
theorem gd(i:Nat)(vs:List ae)(v:ae)(h:vs[i]? =some v):(a3 T G X).de s k i (.d7 vs)=k v s:=by show pQ _ _ _ _=_;rw[h];rfl
section
variable(ec:IntKind)(a b:Int)
theorem Sy:ao .add (.int ec a) (.int ec b)=some (.int ec (ec.wrap (a+b))):=by simp [ao,f3]
theorem Sz:ao .sub (.int ec a) (.int ec b)=some (.int ec (ec.wrap (a-b))):=by simp [ao,f3]
theorem SA:ao .mul (.int ec a) (.int ec b)=some (.int ec (ec.wrap (a*b))):=by simp [ao,f3]
theorem SB(h:b≠0):ao .quo (.int ec a) (.int ec b)=some (.int ec (ec.wrap (a.tdiv b))):=by simp [ao,f3,h]
theorem SC(h:b≠0):ao .rem (.int ec a) (.int ec b)=some (.int ec (a.tmod b)):=by simp [ao,f3,h]
theorem SD:ao .eql (.int ec a) (.int ec b)=some (.bool (decide (a=b))):=by simp only[ao,f3,↓reduceIte];congr 2
theorem SE:ao .neq (.int ec a) (.int ec b)=some (.bool (decide (¬a=b))):=by simp only[ao,f3,↓reduceIte,bne];congr 2;by_cases h:a=b<;> simp [h]
theorem SF:ao .lss (.int ec a) (.int ec b)=some (.bool (decide (a<b))):=by simp [ao,f3]
theorem SG:ao .leq (.int ec a) (.int ec b)=some (.bool (decide (a≤b))):=by simp [ao,f3]
theorem SH:ao .gtr (.int ec a) (.int ec b)=some (.bool (decide (b<a))):=by simp [ao,f3]
theorem SI:ao .geq (.int ec a) (.int ec b)=some (.bool (decide (b≤a))):=by simp [ao,f3]
end
section
variable(ec:IntKind)(a b:Int)
theorem ft:(a3 T G X).ai s k (ao .add (.int ec a) (.int ec b))=k (.int ec (ec.wrap (a+b))) s:=by rw[Sy];rfl
theorem fu:(a3 T G X).ai s k (ao .sub (.int ec a) (.int ec b))=k (.int ec (ec.wrap (a-b))) s:=by rw[Sz];rfl
theorem fv:(a3 T G X).ai s k (ao .mul (.int ec a) (.int ec b))=k (.int ec (ec.wrap (a*b))) s:=by rw[SA];rfl
theorem Hp(h:b≠0):(a3 T G X).ai s k (ao .quo (.int ec a) (.int ec b))=k (.int ec (ec.wrap (a.tdiv b))) s:=by rw[SB _ _ _ h];rfl
theorem Hq(h:b≠0):(a3 T G X).ai s k (ao .rem (.int ec a) (.int ec b))=k (.int ec (a.tmod b)) s:=by rw[SC _ _ _ h];rfl
theorem bB:(a3 T G X).ai s k (ao .eql (.int ec a) (.int ec b))=k (.bool (decide (a=b))) s:=by rw[SD];rfl
theorem cK:(a3 T G X).ai s k (ao .neq (.int ec a) (.int ec b))=k (.bool (decide (¬a=b))) s:=by rw[SE];rfl
theorem bE:(a3 T G X).ai s k (ao .lss (.int ec a) (.int ec b))=k (.bool (decide (a<b))) s:=by rw[SF];rfl
theorem c1:(a3 T G X).ai s k (ao .leq (.int ec a) (.int ec b))=k (.bool (decide (a≤b))) s:=by rw[SG];rfl
theorem bJ:(a3 T G X).ai s k (ao .gtr (.int ec a) (.int ec b))=k (.bool (decide (b<a))) s:=by rw[SH];rfl
theorem cv:(a3 T G X).ai s k (ao .geq (.int ec a) (.int ec b))=k (.bool (decide (b≤a))) s:=by rw[SI];rfl
theorem cJ(t:Bool):(a3 T G X).ai s k (kl .not (.bool t))=k (.bool (!t)) s:=rfl
theorem c2:(a3 T G X).ai s k (kl .neg (.int ec a))=k (.int ec (ec.wrap (0-a))) s:=rfl
end
theorem eS(a:Int)(ar: -9223372036854775808≤a)(ay:a≤9223372036854775807):IntKind.wrap .i64 a=a:=IntWalk.i64_in a ⟨ar,ay⟩
def ae.plain:ae→Bool
 |.int .. |.bool _|.str _|.hv|.hK|.hx|.eX=>true
 |_=>false
theorem wc{s:ag}{v:ae}(h:v.plain=true):freeze s v=some v:=by cases v<;> simp [ae.plain] at h<;> rfl
section
variable{own:List cO}{u:List cO}{db ro:List (List cO)}
theorem aQ(ec:IntKind)(n:Int):(a3 T G X).bw false [some (.int ec n)] {own,up:=u::db,ro}=.ok (.int ec n) {own:=u,up:=db,ro}:=rfl
theorem aH(b:Bool):(a3 T G X).bw false [some (.bool b)] {own,up:=u::db,ro}=.ok (.bool b) {own:=u,up:=db,ro}:=rfl
theorem aR(b:List Nat):(a3 T G X).bw false [some (.str b)] {own,up:=u::db,ro}=.ok (.str b) {own:=u,up:=db,ro}:=rfl
end
theorem aI(ec:IntKind)(n:Int):(a3 T G X).bw false [some (.int ec n)] s.ak=.ok (.int ec n) s:=rfl
theorem aD(b:Bool):(a3 T G X).bw false [some (.bool b)] s.ak=.ok (.bool b) s:=rfl
theorem aS(b:List Nat):(a3 T G X).bw false [some (.str b)] s.ak=.ok (.str b) s:=rfl
theorem gM(s:ag)(o:cO):(s.new o).get (.l s.own.length)=some o:=by simp [ag.get,ag.new]
theorem BW(s:ag)(o o':cO):(s.new o).set (.l s.own.length) o'=some (s.new o'):=by simp [ag.set,ag.new]
theorem sp{α:Type}:∀(vs cs:List α),vs.length=cs.length→dO cs 0 vs=vs:=by
 intro vs cs h;apply List.ext_getElem?;intro j;rw[gw _ _ _ (by omega)];split
 ·simp
 ·rw[List.getElem?_eq_none (by omega),List.getElem?_eq_none (by omega)]
theorem cH(n:Nat)(vs cs:List ae)(ar:vs.length=n)(ay:cs.length=n)(ch:vs.all ae.eO=true):(a3 T G X).dy (s.new (.cells cs)) k n (.ref (.l s.own.length) 0) (.agg vs)=k .dead (s.new (.cells vs)):=by
 rw[m9];unfold fr;simp only[ae.fj,ae.cells,ar,hj,bA,ci];unfold iT;simp only[gM];have e:dO cs 0 vs=vs:=sp _ _ (by omega);have dI:Nat.ble (0+vs.length) cs.length=true:=eK (by omega);have h:(s.new (.cells cs)).h8 (.l s.own.length) vs=true:=by simp [ag.h8,ag.rz]
 rw[dI,h,ch];simp only[bA,ci,e];show(match (s.new (.cells cs)).set (.l s.own.length) (.cells vs) with |some s=>k .dead s|none=>.fail)=_;rw[BW]
theorem bR(n:Nat)(cs:List ae)(h:n≤cs.length):(a3 T G X).aK (s.new (.cells cs)) k (some n) (.ref (.l s.own.length) 0)=k (.agg (cs.take n)) (s.new (.cells cs)):=by rw[ha];simp only[dP,gM,bV,ew];rw[show Nat.ble n cs.length=true from eK h];rfl
theorem bS(et:ae)(cs:List ae):(a3 T G X).aK (s.new (.cells (et::cs))) k none (.ref (.l s.own.length) 0)=k et (s.new (.cells (et::cs))):=by rw[ha];simp only[dP,gM];rfl
theorem b7(et dY:ae)(cs:List ae):(a3 T G X).aK (s.new (.cells (et::dY::cs))) k none (.ref (.l s.own.length) 1)=k dY (s.new (.cells (et::dY::cs))):=by rw[ha];simp only[dP,gM];rfl
theorem b8(et dY e:ae)(cs:List ae):(a3 T G X).aK (s.new (.cells (et::dY::e::cs))) k none (.ref (.l s.own.length) 2)=k e (s.new (.cells (et::dY::e::cs))):=by rw[ha];simp only[dP,gM];rfl
theorem b9(et dY h e:ae)(cs:List ae):(a3 T G X).aK (s.new (.cells (et::dY::h::e::cs))) k none (.ref (.l s.own.length) 3)=k e (s.new (.cells (et::dY::h::e::cs))):=by rw[ha];simp only[dP,gM];rfl
theorem ca(et dY h p e:ae)(cs:List ae):(a3 T G X).aK (s.new (.cells (et::dY::h::p::e::cs))) k none (.ref (.l s.own.length) 4)=k e (s.new (.cells (et::dY::h::p::e::cs))):=by rw[ha];simp only[dP,gM];rfl
theorem cb(et dY e h p o7:ae)(cs:List ae):(a3 T G X).aK (s.new (.cells (et::dY::e::h::p::o7::cs))) k none (.ref (.l s.own.length) 5)=k o7 (s.new (.cells (et::dY::e::h::p::o7::cs))):=by rw[ha];simp only[dP,gM];rfl
theorem cc(et dY h p q o7 e:ae)(cs:List ae):(a3 T G X).aK (s.new (.cells (et::dY::h::p::q::o7::e::cs))) k none (.ref (.l s.own.length) 6)=k e (s.new (.cells (et::dY::h::p::q::o7::e::cs))):=by rw[ha];simp only[dP,gM];rfl
theorem cd(et dY h p q o7 r e:ae)(cs:List ae):(a3 T G X).aK (s.new (.cells (et::dY::h::p::q::o7::r::e::cs))) k none (.ref (.l s.own.length) 7)=k e (s.new (.cells (et::dY::h::p::q::o7::r::e::cs))):=by rw[ha];simp only[dP,gM];rfl
theorem cf(et dY h p q o7 r y e:ae)(cs:List ae):(a3 T G X).aK (s.new (.cells (et::dY::h::p::q::o7::r::y::e::cs))) k none (.ref (.l s.own.length) 8)=k e (s.new (.cells (et::dY::h::p::q::o7::r::y::e::cs))):=by rw[ha];simp only[dP,gM];rfl
structure Child (s S:ag):Prop where
 up:S.up=s.own::s.up
 ro:S.ro=s.ro
theorem Child.ak(s:ag):Child s s.ak:=⟨rfl,rfl⟩
theorem Child.new{s S:ag}(h:Child s S)(o:cO):Child s (S.new o):=⟨h.up,h.ro⟩
theorem js{s S:ag}(h:Child s S)(v w:ae)(hw:freeze S v=some w):(a3 T G X).bw false [some v] S=.ok w s:=by obtain⟨ar,ay⟩:=h;show qD false [some v] S=_;unfold qD;simp only[fA,fZ,eb,cond_false,hw,r3,ar,ay]
theorem l7{s S:ag}(h:Child s S)(v1 v2 e p:ae)(dI:freeze S v1=some e)(q:freeze S v2=some p):(a3 T G X).bw false [some v1,some v2] S=.ok (.d7 [e,p]) s:=by obtain⟨ar,ay⟩:=h;show qD false [some v1,some v2] S=_;unfold qD;simp only[fA,fZ,eb,cond_false,dI,q,r3,ar,ay]
theorem iQ{s S:ag}(h:Child s S)(ec:IntKind)(n:Int):(a3 T G X).bw false [some (.int ec n)] S=.ok (.int ec n) s:=js h _ _ rfl
theorem i5{s S:ag}(h:Child s S)(b:Bool):(a3 T G X).bw false [some (.bool b)] S=.ok (.bool b) s:=js h _ _ rfl
theorem a2(d:Nat)(cs:List ae):ae.aq d (.agg cs)=.agg cs:=rfl
theorem aO(d:Nat)(ec:IntKind)(n:Int):ae.aq d (.int ec n)=.int ec n:=rfl
theorem a0(d:Nat)(b:Bool):ae.aq d (.bool b)=.bool b:=rfl
theorem bq(d:Nat)(b:List Nat):ae.aq d (.str b)=.str b:=rfl
theorem ey(d f:Nat)(cs:List ae):ae.aq d (.fn f cs)=.fn f cs:=rfl
theorem dU(d:Nat)(cs:List ae):ae.aq d (.bU cs)=.bU cs:=rfl
theorem dV(d:Nat):ae.aq d .hv=.hv:=rfl
theorem dj(ec:IntKind)(n:Int):ae.eO (.int ec n)=true:=rfl
theorem c5(b:Bool):ae.eO (.bool b)=true:=rfl
theorem dm(b:List Nat):ae.eO (.str b)=true:=rfl
theorem dE(sz:Nat)(es:List ae)(g:ga):ae.eO (.cm sz es g)=true:=rfl
end Go.Ab
end
