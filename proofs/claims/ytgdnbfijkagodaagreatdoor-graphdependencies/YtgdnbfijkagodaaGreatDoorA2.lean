/- A part of the proof: no condition. -/
import Derived.Test.YtgdnbfijkagodaaGreatDoorA1
import Derived.Test.YtgdnbfijkagodaaGreatDoorA0
import Derived.OrdersIn
import Derived.TacticsIn
import Derived.Scope
import Derived.KernelRfl
import Derived.IntWalk
set_option linter.unusedSectionVars false
set_option linter.unusedSimpArgs false
set_option linter.unusedVariables false
section
namespace Go.Ab
theorem hQ{G g g':Nat→ae}{o:Option bF}{d:Nat}(h:∀x,x∈o.toList→aq G g x=aq G g' x):dG G g o d=dG G g' o d:=by
 cases o with
 |none=>rfl
 |some x=>simp only[dG,h x (by simp)]
theorem nO{G g g':Nat→ae}{d:Nat}:∀(eb:List (Nat×Nat×bF)) (cs:List ae),(∀x,x∈eb.map (·.2.2)→aq G g x=aq G g' x)→fj G d g cs eb=fj G d g' cs eb
 |[],_,_=>rfl
 |(off,sz,x)::eb,cs,h=>by simp only[fj,h x (by simp)];congr 1;exact nO eb _ (fun y eM=>h y (by simp only[fH,List.mem_cons];exact .inr eM))
theorem map_congr{G g g':Nat→ae}{f:ae→ae}(xs:List bF)(h:∀x,x∈xs→aq G g x=aq G g' x):xs.map (fun x=>f (aq G g x))=xs.map fun x=>f (aq G g' x):=List.map_congr_left fun x a5=>by rw[h x a5]
theorem Bp{E:Env}{g g':Nat→ae}{op:gk}(h:∀x,x∈op.Mu→aq E.au g x=aq E.au g' x)(s:ag)(k kp:ae→ag→ah):aM E g s k kp op=aM E g' s k kp op:=by
 cases op<;> simp only[gk.Mu,List.mem_cons,qv,or_false,forall_eq_or_imp,forall_eq,List.mem_append] at h<;> simp only[aM]
 case build z eb=>rw[nO eb z h]
 case buildSlice sz eb=>have:eb.map (aq E.au g)=eb.map (aq E.au g'):=List.map_congr_left h;rw[this]
 case ks f xs=>rw[map_congr xs h]
 case call f xs=>rw[map_congr xs h]
 case hl f xs=>rw[map_congr xs h]
 case min xs=>rw[map_congr xs h]
 case max xs=>rw[map_congr xs h]
 case eA f xs=>rw[h.1,map_congr xs h.2]
 case lM f xs=>rw[h.1,map_congr xs h.2]
 case kt x gg bL=>
  unfold jQ;rw[h.1];cases aq E.au g' x<;> try rfl
  simp only;rw[hQ (o:=gg) (fun x a5=>h.2 x (.inl a5)),hQ (o:=bL) (fun x a5=>h.2 x (.inr a5))]
 case slice z x gg bL iK=>
  unfold j3;rw[h.1];have dH:∀d,dG E.au g gg d=dG E.au g' gg d:=fun d=>hQ (fun x a5=>h.2 x (.inl (.inl a5)))
  have e:∀d,dG E.au g bL d=dG E.au g' bL d:=fun d=>hQ (fun x a5=>h.2 x (.inl (.inr a5)))
  have r:∀d,dG E.au g iK d=dG E.au g' iK d:=fun d=>hQ (fun x a5=>h.2 x (.inr a5))
  cases aq E.au g' x<;> try rfl
  ·simp only[dH,e];cases iK with
   |none=>rfl
   |some y=>have:=h.2 y (.inr (by simp));simp only[this]
  ·simp only[dH,e,r]
 case append q b at_ x y=>
  have dH:h5 E.au g at_=h5 E.au g' at_:=by
   cases at_ with
   |none=>rfl
   |some z=>simp only[h5,h z (.inl (by simp))]
  rw[dH,h x (.inr (.inl rfl)),h y (.inr (.inr rfl))]
 case jN q b at_ x y=>
  have dH:h5 E.au g at_=h5 E.au g' at_:=by
   cases at_ with
   |none=>rfl
   |some z=>simp only[h5,h z (.inl (by simp))]
  rw[dH,h x (.inr (.inl rfl)),h y (.inr (.inr rfl))]
 case gD sz eb=>rw[map_congr eb h]
 case gE sz eb=>rw[map_congr eb h]
 case jO q b x y=>rw[h.1,h.2]
 case jM q b at_ x y=>
  have dH:h5 E.au g at_=h5 E.au g' at_:=by
   cases at_ with
   |none=>rfl
   |some z=>simp only[h5,h z (.inl (by simp))]
  rw[dH,h x (.inr (.inl rfl)),h y (.inr (.inr rfl))]
 case iV z n x gg bL iK=>
  unfold iD;rw[h.1];have dH:∀d,dG E.au g gg d=dG E.au g' gg d:=fun d=>hQ (fun x a5=>h.2 x (.inl (.inl a5)))
  have e:∀d,dG E.au g bL d=dG E.au g' bL d:=fun d=>hQ (fun x a5=>h.2 x (.inl (.inr a5)))
  have r:∀d,dG E.au g iK d=dG E.au g' iK d:=fun d=>hQ (fun x a5=>h.2 x (.inr a5))
  simp only[dH,e,r]
 case lA iq f xs=>
  have dH:(iq.map fun x=>(x.1,aq E.au g x.2))=iq.map fun x=>(x.1,aq E.au g' x.2):=List.map_congr_left fun x a5=>by rw[h x.2 (.inl (List.mem_map.2 ⟨x,a5,rfl⟩))]
  rw[map_congr xs (fun x a5=>h x (.inr a5)),dH]
 case j2 iq f xs=>
  have dH:(iq.map fun x=>(x.1,aq E.au g x.2))=iq.map fun x=>(x.1,aq E.au g' x.2):=List.map_congr_left fun x a5=>by rw[h.2 x.2 (.inl (List.mem_map.2 ⟨x,a5,rfl⟩))]
  rw[h.1,map_congr xs (fun x a5=>h.2 x (.inr a5)),dH]
 case makeMap at_=>
  have dH:h5 E.au g at_=h5 E.au g' at_:=by
   cases at_ with
   |none=>rfl
   |some z=>simp only[h5,h z (by simp)]
  rw[dH]
 all_goals first|rfl |simp only[h]
def cK(g:Nat→ae)(d:Option Nat)(v:ae):Nat→ae:=
 match d with
 |none=>g
 |some n=>fun m=>if m=n then v else g m
def f8(ael:Option (Nat×Bool))(g:Nat→ae):Option Bool:=
 match ael with
 |none=>some true
 |some (t,w)=>
  match g t with
  |.bool b=>some (b==w)
  |.d0 _=>some false
  |_=>none
def jx(E:Env)(o:cS)(g:Nat→ae)(s:ag):Option (ae×ag):=
 match f8 o.guard g with
 |none=>none
 |some false=>some (.d0 [],s)
 |some true=>
  match aM E g s .ok .panic o.op with
  |.ok v s'=>some (v,s')
  |_=>none
def g3(E:Env):List cS→(Nat→ae)→ag→Option ((Nat→ae)×ag)
 |[],g,s=>some (g,s)
 |o::os,g,s=>(jx E o g s).bind fun p=>g3 E os (cK g o.dst p.1) p.2
def bF.tmp:bF→List Nat
 |.t n=>[n]
 |.at m e _=>[m,e]
 |.Sk e _=>[e]
 |_=>[]
def cS.looks(o:cS):List Nat:=o.op.Mu.flatMap bF.tmp++(o.guard.map (·.1)).toList
def bF.same:bF→bF→Bool
 |.t n,.t m=>Nat.beq n m
 |.g n,.g m=>Nat.beq n m
 |.at _ b o,.Sk e o'=>Nat.beq b e&&Nat.beq o o'
 |_,_=>false
theorem bF.iE{a b:bF}(h:a.same b=true)(G g:Nat→ae):aq G g a=.dead∨aq G g a=aq G g b:=by
 cases a<;> cases b<;> simp [bF.same] at h
 ·rw[h];exact .inr rfl
 ·rw[h];exact .inr rfl
 ·rw[h.1,h.2];rename_i t _ _ b off;rcases Ht (g t) (g b) off with e|⟨_,e⟩
  ·exact .inl e
  ·exact .inr e
def vx:Option Nat→Option Nat→Bool
 |none,none=>true
 |some a,some b=>Nat.beq a b
 |_,_=>false
theorem yn{a b:Option Nat}(h:vx a b=true):a=b:=by cases a<;> cases b<;> simp [vx] at h<;> simp [h]
def leaves(a b:gk):Bool:=
 match a with
 |.load n x=>
  match b with
  |.lA iq _ _|.j2 iq _ _=>iq.any fun y=>vx n y.1&&x.same y.2
  |.jM ..=>true
  |.k9 m y _ _ _=>vx n m&&x.same y
  |_=>false
 |_=>false
def indep(a b:cS):Bool:=
 (match a.dst with
  |some d=> !b.looks.contains d
  |none=>true) &&
 (match b.dst with
  |some d=> !a.looks.contains d
  |none=>true) &&
 (match a.dst,b.dst with
  |some d,some e=> !Nat.beq d e
  |_,_=>true) &&
 (Nat.beq a.op.p0 0||Nat.beq b.op.p0 0||(Nat.beq a.op.p0 1&&Nat.beq b.op.p0 1)||leaves a.op b.op||leaves b.op a.op)
theorem K2{G g:Nat→ae}{d:Option Nat}{v:ae}{x:bF}(h:∀n,d=some n→n ∉ x.tmp):aq G (cK g d v) x=aq G g x:=by
 cases d with
 |none=>rfl
 |some n=>
  have e:=h n rfl;cases x<;> try rfl
  ·rename_i t
   have:n≠t:=by simpa [bF.tmp] using e
   simp [aq,cK,Ne.symm this]
  ·rename_i t b off
   have:n≠t∧n≠b:=by simpa [bF.tmp,not_or] using e
   simp [aq,cK,Ne.symm this.1,Ne.symm this.2]
  ·rename_i b off
   have:n≠b:=by simpa [bF.tmp] using e
   simp [aq,cK,Ne.symm this]
theorem Bq{E:Env}{o:cS}{g:Nat→ae}{d:Option Nat}{v:ae}(h:∀n,d=some n→n ∉ o.looks)(s:ag):jx E o (cK g d v) s=jx E o g s:=by
 have ar:f8 o.guard (cK g d v)=f8 o.guard g:=by
  unfold f8;cases cb:o.guard with
  |none=>rfl
  |some p=>
   obtain⟨t,w⟩:=p;cases d with
   |none=>rfl
   |some n=>
    have:n≠t:=fun e=>h n rfl (by rw[cS.looks,cb];simp [e])
    simp [cK,Ne.symm this]
 unfold jx;rw[ar,Bp (g':=g) (fun x a5=>K2 (fun n dm r=>h n dm (by rw[cS.looks];exact List.mem_append_left _ (List.mem_flatMap.2 ⟨x,a5,r⟩))))]
theorem K3{g:Nat→ae}{d e:Option Nat}{v u:ae}(h:∀n m,d=some n→e=some m→n≠m):cK (cK g d v) e u=cK (cK g e u) d v:=by
 cases d with
 |none=>rfl
 |some n=>
  cases e with
  |none=>rfl
  |some m=>
   have:=h n m rfl rfl;funext t;simp only[cK];by_cases ar:t=m
   ·by_cases av:t=n
    ·exact absurd (av.symm.trans ar) this
    ·simp [ar,Ne.symm this]
   ·simp [ar]
section
variable{E:Env}(bs:E.F=.not)
include bs
theorem yo{o:cS}(aY:o.op.p0=0){g:Nat→ae}{s s':ag}{v:ae}(h:jx E o g s=some (v,s')):s'=s∧∀e:ag,e.aa=s.aa→jx E o g e=some (v,e):=by
 unfold jx at h ⊢;cases hw:f8 o.guard g with
 |none=>rw[hw] at h;cases h
 |some b=>
  rw[hw] at h;cases b with
  |false=>simp only[bm,e0] at h;exact⟨h.2.symm,fun e _=>by rw[←h.1]⟩
  |true=>
   simp only at h;obtain⟨x,a5⟩:=vw bs g aY s.aa;rw[a5 s _ _ rfl] at h;cases x with
   |none=>simp [gn] at h
   |some y=>simp only[gn,bm,e0] at h;refine⟨h.2.symm,fun e cP=>?_⟩;simp only;rw[a5 e _ _ cP];simp [gn,h.1]
theorem oe{o:cS}(aY:o.op.p0=1){g:Nat→ae}{s s':ag}{v:ae}(h:jx E o g s=some (v,s')):s'=s:=by
 unfold jx at h;cases hw:f8 o.guard g with
 |none=>rw[hw] at h;cases h
 |some b=>
  rw[hw] at h;cases b with
  |false=>simp only[bm,e0] at h;exact h.2.symm
  |true=>
   simp only at h;split at h
   ·rename_i fL r e;simp only[bm,e0] at h;rw[←h.2];exact tq bs g aY e
   ·cases h
theorem vy{o:cS}{g:Nat→ae}{s s':ag}{v:ae}(h:jx E o g s=some (v,s')):s'.aa=s.aa:=by
 unfold jx at h;cases hw:f8 o.guard g with
 |none=>rw[hw] at h;cases h
 |some b=>
  rw[hw] at h;cases b with
  |false=>simp only[bm,e0] at h;rw[h.2]
  |true=>
   simp only at h;split at h
   ·rename_i fL r e;simp only[bm,e0] at h;rw[←h.2];exact Bo bs g e
   ·cases h
theorem og{n:Option Nat}{cs e:List ae}{s s':ag}{u:ae}{t:ag}(h:cs.take (n.getD 1)=e.take (n.getD 1))(bN:eU E s .ok n cs=.ok u t):eU E s' .ok n e=.ok u s':=by
 cases n with
 |none=>
  simp only[Option.getD_none] at h;cases cs with
  |nil=>simp [eU] at bN
  |cons c cs=>
   cases e with
   |nil=>simp at h
   |cons n2 e=>simp only[cY,c3,List.cons.injEq,and_true] at h;subst h;simp only[eU,bs,aX.not,ah.ok.injEq] at bN ⊢;exact⟨bN.1,trivial⟩
 |some n=>
  simp only[Option.getD_some] at h;simp only[eU,bs,aX.not] at bN ⊢;cases r:Nat.ble n cs.length with
  |false=>rw[r] at bN;cases bN
  |true=>
   rw[r,bH] at bN;simp only[ah.ok.injEq] at bN;have ar:=dW r;have av:n≤e.length:=by have:=congrArg List.length h;simp only[List.length_take] at this;omega
   rw[show Nat.ble n e.length=true from et av,bH,←h,bN.1]
theorem qi{n:Option Nat}{v:ae}{s s':ag}{l:List ae}{u:ae}{t:ag}(ar:e2 s n v=some l)(av:e2 s' n v=some l)(bN:dY E s .ok n v=.ok u t):dY E s' .ok n v=.ok u s':=by
 unfold e2 at ar av;cases v<;> simp only[cellsOf] at ar av<;> try cases ar
 case bh cs=>exact og bs rfl bN
 case ref a off=>
  simp only[dY] at bN ⊢;cases cb:s.get a with
  |none=>rw[cb] at ar;cases ar
  |some o=>
   rw[cb] at ar bN;cases o<;> try cases ar
   rename_i cs;cases e:s'.get a with
   |none=>rw[e] at av;cases av
   |some o'=>
    rw[e] at av;cases o'<;> try cases av
    rename_i h;simp only[ej,bm] at av;exact og bs av.symm bN
theorem vz{s:ag}{n:Option Nat}{v:ae}{k:ae→ag→ah}:dY E s k n v=match cellsOf s v with |some cs=>eU E s k n cs|none=>.fail:=by cases v<;> simp only[dY,cellsOf];split<;> rfl
theorem rv{s s':ag}{n:Option Nat}{v u:ae}{t:ag}(h:cellsOf s v=cellsOf s' v)(bN:dY E s .ok n v=.ok u t):dY E s' .ok n v=.ok u s':=by
 rw[vz bs,h] at bN;rw[vz bs];cases aY:cellsOf s' v with
 |none=>rw[aY] at bN;cases bN
 |some cs=>rw[aY] at bN;exact og bs rfl bN
theorem ry{s s':ag}(h:∀d i,s'.get (.g d i)=s.get (.g d i)∨((∀cs,s.get (.g d i)≠some (.cells cs))∧∀cs,s'.get (.g d i)≠some (.cells cs)))(cP:s'.aa=s.aa)(v:ae):cellsOf s v=cellsOf s' v:=by
 cases v<;> simp only[cellsOf];rename_i a off;have dH:=ag.hO s a;have r:=ag.hO s' a;rw[cP] at r;cases fz:a.ap s.aa with
 |l i=>cases a<;> simp [Loc.ap] at fz
 |g d i=>
  rw[fz] at dH r;rw[←dH,←r];rcases h d i with e|⟨kr,u⟩
  ·rw[e]
  ·cases ar:s.get (.g d i) with
   |none=>
    cases av:s'.get (.g d i) with
    |none=>rfl
    |some o=>
     cases o<;> try rfl
     exact absurd av (u _)
   |some o=>
    cases o
    ·exact absurd ar (kr _)
    all_goals
     cases av:s'.get (.g d i) with
     |none=>rfl
     |some o=>
      cases o<;> try rfl
      exact absurd av (u _)
theorem vA{q b:Nat}{l:Loc}{sz:Nat}{es:List ae}{g:eZ}{y:ae}{s s':ag}{v:ae}(h:hL E s .ok q b l (.bW sz es g) y=.ok v s')(w:ae):cellsOf s w=cellsOf s' w:=by
 simp only[hL,bs,aX.not] at h;split at h
 ·cases h
 ·rename_i z new _;have h:=g1 bs h;cases new with
  |nil=>simp only[ah.ok.injEq] at h;rw[h.2]
  |cons c cs=>
   have new:∀{o:cU} {l':Loc} {u:ag},(∀cs,o≠.cells cs)→s.hn l o=some (l',u)→cellsOf s w=cellsOf u w:=fun {o l' u} I dm=>by
    obtain⟨d,i,_,A⟩:=iu.by dm
    refine ry bs (fun fQ hF=>?_) A.aa w;rw[A.get];split
    ·rename_i B;obtain⟨rfl,rfl⟩:=B;obtain⟨K,ar,av⟩:=A.here;refine .inr ⟨fun cs aY=>?_,fun cs aY=>I cs (Option.some.inj aY)⟩;rw[ag.mw,ar] at aY;simp only[fF] at aY;rw[←av,List.getElem?_eq_none (aD _)] at aY;cases aY
    ·exact .inl rfl
   cases g with
   |any=>cases h
   |nil=>
    simp only at h;split at h
    ·rename_i dm;simp only[ah.ok.injEq] at h;rw[←h.2];exact new (fun cs e=>by cases e) dm
    ·cases h
   |exact=>
    simp only at h;split at h
    ·rename_i dm;simp only[ah.ok.injEq] at h;rw[←h.2];exact new (fun cs e=>by cases e) dm
    ·cases h
   |dx a=>
    simp only at h;split at h
    ·rename_i n J;have h:=g1 bs h;split at h
     ·rename_i H;simp only[ah.ok.injEq] at h;rw[←h.2];have F:=H;have r:=J;rw[←ag.ln] at F;rw[←ag.hO] at r;cases fz:a.ap s.aa with
      |l i=>cases a<;> simp [Loc.ap] at fz
      |g d i=>
       rw[fz] at F r;refine ry bs (fun fQ hF=>?_) (ag.j8 H) w;rw[ag.u0 F r];split
       ·rename_i B;obtain⟨rfl,rfl⟩:=B;refine .inr ⟨fun cs aY=>?_,fun cs aY=>by cases aY⟩;rw[r] at aY;cases aY
       ·exact .inl rfl
     ·cases h
    ·cases h
theorem x6{a b:gk}(h:leaves a b=true){g:Nat→ae}{s s':ag}{v:ae}(r:aM E g s .ok .panic b=.ok v s'):∃n x,a=.load n x∧(cellsOf s (aq E.au g x)=cellsOf s' (aq E.au g x)∨aq E.au g x=.dead∨∃l,e2 s n (aq E.au g x)=some l∧e2 s' n (aq E.au g x)=some l):=by
 unfold leaves at h;split at h
 ·rename_i n x;refine⟨n,x,rfl,?_⟩;have key:∀(iq:List (Option Nat×bF)),(iq.any fun y=>vx n y.1&&x.same y.2)=true→(∀y,y∈iq.map (fun x=>(x.1,aq E.au g x.2))→∃l,e2 s y.1 y.2=some l∧e2 s' y.1 y.2=some l)→aq E.au g x=.dead∨∃l,e2 s n (aq E.au g x)=some l∧e2 s' n (aq E.au g x)=some l:=fun iq ar av=>by
   obtain⟨y,eM,A⟩:=List.any_eq_true.1 ar;simp only[bl] at A;rcases bF.iE A.2 E.au g with e|e
   ·exact .inl e
   rw[yn A.1,e];exact .inr (av _ (List.mem_map.2 ⟨y,eM,rfl⟩))
  split at h
  ·rename_i iq f args;simp only[aM,bs,aX.not] at r;exact .inr (key iq h (od bs r).2)
  ·rename_i iq f args;simp only[aM] at r;unfold kw at r;split at r
   ·simp only[bs,aX.not] at r;exact .inr (key iq h (od bs r).2)
   ·cases r
  ·rename_i q b at_ x y;simp only[aM] at r;unfold kP at r;split at r
   ·unfold gj at r;split at r
    ·exact .inl (vA bs r _)
    ·cases r
   ·cases r
  ·rename_i m y q a u;simp only[bl] at h;rcases bF.iE h.2 E.au g with e|e
   ·exact .inr (.inl e)
   ·rw[yn h.1,e];exact .inr (.inr (tr bs r).2)
  ·cases h
 ·cases h
theorem ts{a b:cS}(h:leaves a.op b.op=true){g:Nat→ae}{s s':ag}{v:ae}(r:jx E b g s=some (v,s')){u:ae}:jx E a g s=some (u,s)↔jx E a g s'=some (u,s'):=by
 unfold jx at r;cases hw:f8 b.guard g with
 |none=>rw[hw] at r;cases r
 |some w=>
  rw[hw] at r;cases w with
  |false=>simp only[bm,e0] at r;rw[r.2]
  |true=>
   simp only at r;split at r
   ·rename_i fL H A;simp only[bm,e0] at r;rw[r.2] at A;obtain⟨n,x,B,F⟩:=x6 bs h A;unfold jx;cases I:f8 a.guard g with
    |none=>simp
    |some w=>
     cases w with
     |false=>simp
     |true=>
      simp only[B,aM];rcases F with ma|e|⟨l,ar,av⟩
      ·constructor
       ·intro fE;split at fE
        ·rename_i y;simp only[bm,e0] at fE;rw[rv bs ma y,fE.1]
        ·cases fE
       ·intro fE;split at fE
        ·rename_i y;simp only[bm,e0] at fE;rw[rv bs ma.symm y,fE.1]
        ·cases fE
      ·rw[e];simp [dY]
      constructor
      ·intro fE;split at fE
       ·rename_i y;simp only[bm,e0] at fE;rw[qi bs ar av y,fE.1]
       ·cases fE
      ·intro fE;split at fE
       ·rename_i y;simp only[bm,e0] at fE;rw[qi bs av ar y,fE.1]
       ·cases fE
   ·cases r
theorem tt{a b:gk}(h:leaves a b=true):a.p0=1:=by
 unfold leaves at h;split at h
 ·rfl
 ·cases h
theorem K4{a b:cS}(bL:indep a b=true){rest:List cS}{g:Nat→ae}{s:ag}{r:(Nat→ae)×ag}(h:g3 E (a::b::rest) g s=some r):g3 E (b::a::rest) g s=some r:=by
 simp only[indep,bl,Bool.or_eq_true] at bL;obtain⟨⟨⟨ar,av⟩,bV⟩,dD⟩:=bL;have d1:∀n,a.dst=some n→n ∉ b.looks:=fun n dm=>by rw[dm] at ar;simpa using ar
 have d2:∀n,b.dst=some n→n ∉ a.looks:=fun n dm=>by rw[dm] at av;simpa using av
 have d3:∀n m,a.dst=some n→b.dst=some m→n≠m:=fun n m dm hm e=>by rw[dm,hm,e] at bV;simp at bV
 simp only[g3] at h ⊢;cases y:jx E a g s with
 |none=>rw[y] at h;cases h
 |some p=>
  obtain⟨B,s1⟩:=p;rw[y] at h;simp only[fF] at h;cases u:jx E b (cK g a.dst B) s1 with
  |none=>rw[u] at h;cases h
  |some q=>
   obtain⟨H,s2⟩:=q;rw[u] at h;simp only[fF] at h;rw[Bq d1] at u;have key:∃S,jx E b g s=some (H,S)∧jx E a g S=some (B,s2):=by
    by_cases aY:a.op.p0=0
    ·refine⟨s2,?_⟩;obtain⟨dH,A⟩:=yo bs aY y;subst dH;exact⟨u,A s2 (vy bs u)⟩
    ·by_cases F:b.op.p0=0
     ·refine⟨s,?_⟩;obtain⟨dH,A⟩:=yo bs F u;subst dH;exact⟨A s (vy bs y).symm,y⟩
     ·rcases dD with(((dD|dD)|dD)|dD)|dD
      ·exact absurd (dh dD) aY
      ·exact absurd (dh dD) F
      ·have dH:=oe bs (dh dD.1) y;subst dH;have A:=oe bs (dh dD.2) u;subst A;exact⟨_,u,y⟩
      ·have dH:=oe bs (tt bs dD) y;subst dH;exact⟨s2,u,(ts bs dD u).1 y⟩
      ·have A:=oe bs (tt bs dD) u;subst A;exact⟨s,(ts bs dD y).2 u,y⟩
   obtain⟨S,I,J⟩:=key;rw[I];simp only[fF];rw[Bq d2,J];simp only[fF];rw[←K3 d3];exact h
theorem vB{o:cS}:∀(pre:List cS) {post:List cS} {g:Nat→ae} {s:ag} {r:(Nat→ae)×ag},(∀a,a∈pre→indep a o=true)→g3 E (pre++o::post) g s=some r→g3 E (o::(pre++post)) g s=some r
 |[],_,_,_,_,_,h=>h
 |a::pre,post,g,s,r,bL,h=>by
  refine K4 bs (bL a List.mem_cons_self) ?_;simp only[List.cons_append,g3] at h ⊢;cases e:jx E a g s with
  |none=>rw[e] at h;cases h
  |some p=>rw[e] at h;simp only[fF] at h ⊢;exact vB pre (fun x a5=>bL x (List.mem_cons_of_mem _ a5)) h
end
theorem kh:∀(d n:Nat) (v:ae) (k:eO→ah) (ao:eO) (r:ah),eO.i9 d n v k ao=r→r≠.fail→∃eo,k eo=r∧∀m,eo.get m=if m=n then v else ao.get m
 |0,n,v,k,ao,r,h,br=>absurd h.symm br
 |d+1,n,v,k,ao,r,h,br=>by
  have H:∀m,Nat.beq (m%2) 1=true→∃q,m=2*q+1:=fun m h=>⟨m/2,by have:=dh h;omega⟩
  have even:∀m,Nat.beq (m%2) 1=false→Nat.beq m 0=false→∃q,m=2*q+2:=fun m h I=>⟨(m-2)/2,by
   have ar:m%2≠1:=fun e=>by rw[e] at h;simp at h
   have av:m≠0:=fun e=>by rw[e] at I;simp at I
   omega⟩
  have u:∀(l:eO) (x:ae) (r:eO) (q:Nat),(eO.n l x r).get (2*q+1)=l.get q:=fun l x r q=>by
   have ar:Nat.beq (2*q+1) 0=false:=by rfl
   have av:Nat.beq ((2*q+1)%2) 1=true:=by rw[show(2*q+1)%2=1 by omega];rfl
   simp only[eO.get,ar,av,cond_false,bH];congr 1;omega
  have y:∀(l:eO) (x:ae) (r:eO) (q:Nat),(eO.n l x r).get (2*q+2)=r.get q:=fun l x r q=>by
   have ar:Nat.beq (2*q+2) 0=false:=by rfl
   have av:Nat.beq ((2*q+2)%2) 1=false:=by rw[show(2*q+2)%2=0 by omega];rfl
   simp only[eO.get,ar,av,cond_false];congr 1;omega
  have B:∀(l:eO) (x:ae) (r:eO),(eO.n l x r).get 0=x:=fun l x r=>rfl
  have F:∀m,m=0∨(∃q,m=2*q+1)∨∃q,m=2*q+2:=fun m=>by
   by_cases eS:m=0
   ·exact .inl eS
   ·by_cases ar:m%2=1
    ·exact .inr (.inl ⟨m/2,by omega⟩)
    ·exact .inr (.inr ⟨(m-2)/2,by omega⟩)
  cases ao with
  |e=>
   simp only[eO.i9] at h;cases eS:Nat.beq n 0 with
   |true=>
    rw[eS,bH] at h
    have:=dh eS;subst this;refine⟨_,h,fun m=>?_⟩;rcases F m with rfl |⟨q,rfl⟩|⟨q,rfl⟩
    ·simp [B]
    ·rw[u];simp [eO.get]
    ·rw[y];simp [eO.get]
   |false=>
    rw[eS,cond_false] at h;cases ar:Nat.beq (n%2) 1 with
    |true=>
     rw[ar,bH] at h;obtain⟨p,rfl⟩:=H n ar;obtain⟨l',e,bN⟩:=kh d _ v _ _ r h br;refine⟨_,e,fun m=>?_⟩;rcases F m with rfl |⟨q,rfl⟩|⟨q,rfl⟩
     ·simp [B,eO.get]
     ·rw[u,bN q];have dH:(2*p+1-1)/2=p:=by omega
      have A:2*q+1=2*p+1↔q=p:=by omega
      simp only[dH,A];simp [eO.get]
     ·rw[y,if_neg (by omega)];simp [eO.get]
    |false=>
     rw[ar,cond_false] at h;obtain⟨p,rfl⟩:=even n ar eS;obtain⟨l',e,bN⟩:=kh d _ v _ _ r h br;refine⟨_,e,fun m=>?_⟩;rcases F m with rfl |⟨q,rfl⟩|⟨q,rfl⟩
     ·simp [B,eO.get]
     ·rw[u,if_neg (by omega)];simp [eO.get]
     ·rw[y,bN q];have dH:(2*p+2-1)/2=p:=by omega
      have A:2*q+2=2*p+2↔q=p:=by omega
      simp only[dH,A];simp [eO.get]
  |n l x J=>
   simp only[eO.i9] at h;cases eS:Nat.beq n 0 with
   |true=>
    rw[eS,bH] at h
    have:=dh eS;subst this;refine⟨_,h,fun m=>?_⟩;rcases F m with rfl |⟨q,rfl⟩|⟨q,rfl⟩
    ·simp [B]
    ·rw[u,u];simp
    ·rw[y,y];simp
   |false=>
    rw[eS,cond_false] at h;cases ar:Nat.beq (n%2) 1 with
    |true=>
     rw[ar,bH] at h;obtain⟨p,rfl⟩:=H n ar;obtain⟨l',e,bN⟩:=kh d _ v _ _ r h br;refine⟨_,e,fun m=>?_⟩;rcases F m with rfl |⟨q,rfl⟩|⟨q,rfl⟩
     ·simp [B]
     ·rw[u,u,bN q];have dH:(2*p+1-1)/2=p:=by omega
      have A:2*q+1=2*p+1↔q=p:=by omega
      simp only[dH,A]
     ·rw[y,y,if_neg (by omega)]
    |false=>
     rw[ar,cond_false] at h;obtain⟨p,rfl⟩:=even n ar eS;obtain⟨l',e,bN⟩:=kh d _ v _ _ r h br;refine⟨_,e,fun m=>?_⟩;rcases F m with rfl |⟨q,rfl⟩|⟨q,rfl⟩
     ·simp [B]
     ·rw[u,u,if_neg (by omega)]
     ·rw[y,y,bN q];have dH:(2*p+2-1)/2=p:=by omega
      have A:2*q+2=2*p+2↔q=p:=by omega
      simp only[dH,A]
def nv(fV:Nat):Option Nat→Option Nat→Bool
 |none,none=>true
 |some a,some b=>Nat.beq a b&&Nat.blt a fV
 |_,_=>false
def pc(ops:Array Oper):Option (Nat×Bool)→Option (Nat×Bool)→Bool
 |none,none=>true
 |some (t,w),some (j,w')=>
  match (ops[j]?).bind (·.dst) with
  |some d=>Nat.beq d t&&w==w'
  |none=>false
 |_,_=>false
def oh(T:kN)(fV:Nat)(ops:Array Oper)(e:cS)(o:Oper):Bool:=nv fV e.dst o.dst&&pc ops e.guard o.guard&&eH T e.op o.op
def Marks(B:Nat)(w:World)(h9:List Deferred):Prop:=B≤w.heap.size∧∃oP:List Nat,h9=oP.map (fun D=>{target:=.collected D,args:= #[]})∧oP.Nodup∧∀D,D∈oP→B≤D∧w.heap[D]? =some (.deferred (some []))
theorem Marks.nil{B:Nat}{w:World}(h:B≤w.heap.size):Marks B w []:=⟨h,[],rfl,List.nodup_nil,fun D h=>by cases h⟩
theorem c5.md{κ:bj}{s:ag}{w:World}(a7:c5 κ s w){b:Nat}(h:Live κ s b):(∃C e jG,w.heap[b]? =some (.cells C e jG))∨∃fm clock,w.heap[b]? =some (.map fm clock):=by
 obtain⟨d,i,o,ar,av⟩:=h;have r:=a7.obj d i o ar;cases o with
 |cells cs=>obtain⟨⟨C,e,jG,bV,_⟩,_⟩:=r;simp only[bi,bm] at av;exact .inl ⟨C,e,jG,av ▸ bV⟩
 |tok n=>obtain⟨u,cap,sz,bV,_,⟨C,e,jG,dD,_⟩,_⟩:=r;simp only[bi,bV,ej,bm] at av;exact .inl ⟨C,e,jG,av ▸ dD⟩
 |gone=>cases av
 |map es=>obtain⟨fm,clock,bV,_⟩:=r;simp only[bi,bm] at av;exact .inr ⟨fm,clock,av ▸ bV⟩
theorem Marks.ext{κ κ':bj}{s s':ag}{w w':World}{h9:List Deferred}{B:Nat}(h:Marks B w h9)(a7:c5 κ s w)(he:fx κ s w κ' s' w'):Marks B w' h9:=by
 obtain⟨eS,oP,ar,av,bV⟩:=h;refine⟨Nat.le_trans eS he.size,oP,ar,av,fun D u=>⟨(bV D u).1,?_⟩⟩;have dD:=(bV D u).2;rw[he.kS D (Array.getElem?_eq_some_iff.1 dD).1 fun bN=>?_]
 ·exact dD
 ·rcases a7.md bN with⟨C,e,jG,r⟩|⟨fm,clock,r⟩<;> rw[dD] at r<;> cases r
structure fJ (κ:bj) (s:ag) (w:World) (g:Nat→ae) (a:Act) (fV:Nat) (B:Nat) (G:Nat→ae):Prop where
 iQ:c5 κ s w
 ao:xo κ s g a
 defers:Marks B w a.defers
 size:a.tmps.size=fV
 au:ko κ G
theorem pd{ao:eO}{d:Option Nat}{v:ae}{k:eO→ah}{r:ah}(aU:jc ao d v k=r)(br:r≠.fail):∃eo,k eo=r∧eo.get=cK ao.get d v:=by
 cases d with
 |none=>exact⟨ao,aU,rfl⟩
 |some n=>obtain⟨eo,ar,av⟩:=kh 12 n v k ao r aU br;exact⟨eo,ar,funext av⟩
theorem vC{g:Option (Nat×Bool)}{ao:eO}{k:Bool→ah}{r:ah}(aU:mr g ao k=r)(br:r≠.fail):∃b,f8 g ao.get=some b∧k b=r:=by
 cases g with
 |none=>exact⟨true,rfl,aU⟩
 |some p=>obtain⟨t,w⟩:=p;simp only[mr] at aU;simp only[f8];cases bM:ao.get t<;> rw[bM] at aU<;> simp only at aU<;> first|exact absurd aU.symm br|exact⟨_,rfl,aU⟩
theorem Mv{E:Env}(dm:∀f args s v s',E.call f args s≠.panic v s'){g:Nat→ae}{s:ag}{k kp e:ae→ag→ah}(op:gk):aM E g s k kp op=aM E g s k e op:=by
 have aY:∀f args,eA E s k kp f args=eA E s k e f args:=fun f args=>by
  unfold eA;cases h:E.call f args s with
  |panic v s'=>exact absurd h (dm _ _ _ _ _)
  |_=>rfl
 have kT:∀(k:ae→ag→ah) f args,eA E s k kp f args=eA E s k e f args:=fun k f args=>by
  unfold eA;cases h:E.call f args s with
  |panic v s'=>exact absurd h (dm _ _ _ _ _)
  |_=>rfl
 cases op<;> simp only[aM]
 case call=>simp only[aY]
 case eA=>unfold la;simp only[aY]
 case lA=>simp only[h2];congr;funext args;exact kT _ _ _
 case j2=>unfold kw h2;congr;funext f dI;congr;funext args;exact kT _ _ _
theorem x7{E:Env}(bs:E.F=.not)(dm:∀f args s v s',E.call f args s≠.panic v s'){g:Nat→ae}{s s':ag}{v:ae}(op:gk):aM E g s .ok .panic op≠.panic v s':=fun h=>by have ar:=jw bs g s .ok .panic op;have av:=jw bs g s .ok (fun _ _=>.fail) op;rw[h] at av;rw[←Mv dm (kp:=.panic) op,h] at av;cases av
theorem l0{E:Env}(bs:E.F=.not)(dm:∀f args s v s',E.call f args s≠.panic v s'){fin:eO→ag→ah}{H:ae→eO→ag→ah}{r:ah}(br:r≠.fail):∀(B:List cS) {ao:eO} {s:ag},fw E B ao s fin H=r→∃eo s',g3 E B ao.get s=some (eo.get,s')∧fin eo s'=r
 |[],ao,s,h=>⟨ao,s,rfl,h⟩
 |o::os,ao,s,h=>by
  simp only[fw] at h;obtain⟨b,ar,av⟩:=vC h br;cases b with
  |false=>simp only[cond_false] at av;obtain⟨eo,bV,dD⟩:=pd av br;obtain⟨u,s',y,A⟩:=l0 bs dm br os bV;exact⟨u,s',by simp only[g3,jx,ar,fF,←dD,y],A⟩
  |true=>
   simp only[bH] at av;rw[jw bs] at av;cases e:aM E ao.get s .ok .panic o.op with
   |fail=>rw[e] at av;exact absurd av.symm br
   |panic v s'=>exact absurd e (x7 bs dm o.op)
   |ok v s'=>rw[e] at av;simp only[ah.bind] at av;obtain⟨eo,bV,dD⟩:=pd av br;obtain⟨u,I,y,A⟩:=l0 bs dm br os bV;exact⟨u,I,by simp only[g3,jx,ar,e,fF,←dD,y],A⟩
section
variable{P:Program}{κ:bj}{s:ag}{w:World}{g:Nat→ae}{a:Act}{fV:Nat}{B:Nat}{G:Nat→ae}
theorem fJ.put(h:fJ κ s w g a fV B G){κ':bj}{s':ag}{w':World}(he:fx κ s w κ' s' w')(a7:c5 κ' s' w'){v:ae}{x:Value}(a5:dC κ' (s.aa+1) (v.ap s.aa) x){d fQ:Option Nat}(cP:nv fV d fQ=true):fJ κ' s' w' (cK g d v) (a.put fQ x) fV B G:=by
 have b2:=h.ao.ext he;cases d with
 |none=>
  cases fQ with
  |none=>exact⟨a7,b2,h.defers.ext h.iQ he,h.size,h.au.mono he.k⟩
  |some b=>simp [nv] at cP
 |some n=>
  cases fQ with
  |none=>simp [nv] at cP
  |some b=>
   simp only[nv,bl] at cP;have e:=dh cP.1;subst e;have dm:n<a.tmps.size:=by rw[h.size];have:=cP.2;rw[Nat.blt_eq] at this;exact this
   refine⟨a7,fun t=>?_,h.defers.ext h.iQ he,?_,h.au.mono he.k⟩
   ·simp only[cK];by_cases ed:t=n
    ·subst ed;rw[if_pos rfl,he.aa];simp only[Act.put,Array.getD_eq_getD_getElem?,Array.getElem?_setIfInBounds_self_of_lt dm,Option.getD_some];exact a5
    ·rw[if_neg ed]
     have:=b2 t;simp only[Act.put,Array.getD_eq_getD_getElem?,Array.getElem?_setIfInBounds_ne (Ne.symm ed)] at this ⊢;exact this
   ·simp [Act.put,h.size]
theorem fJ.skip(h:fJ κ s w g a fV B G){d fQ:Option Nat}(cP:nv fV d fQ=true):fJ κ s w (cK g d (.d0 [])) (a.put fQ undef) fV B G:=
 h.put (.refl _ _ _) h.iQ (v:=.d0 []) (x:=undef) (.d0 [] [] rfl (fun j c x aY=>by simp at aY)) cP
theorem fJ.wanted(h:fJ κ s w g a fV B G){ops:Array Oper}{ael:Option (Nat×Bool)}{o:Oper}(cb:pc ops ael o.guard=true){b:Bool}(u:f8 ael g=some b):Region.wanted o (yielded ops a.tmps)=b:=by
 unfold Region.wanted;cases ael with
 |none=>
  cases A:o.guard with
  |none=>simpa [f8] using u
  |some p=>rw[A] at cb;simp [pc] at cb
 |some p=>
  obtain⟨t,want⟩:=p;cases A:o.guard with
  |none=>rw[A] at cb;simp [pc] at cb
  |some q=>
   obtain⟨j,H⟩:=q;rw[A] at cb;simp only[pc] at cb;split at cb
   ·rename_i d cP;simp only[bl,beq_iff_eq] at cb;have e:=dh cb.1;subst e;obtain rfl:=cb.2;have a5:=h.ao d;simp only[f8] at u;simp only[yielded,cP,fF];cases bM:g d<;> rw[bM] at u a5<;> simp only[bm,reduceCtorEq] at u
    ·rename_i F;have r:=dC.gY (b:=F) a5
     have:a.tmps[d]? =some (.bool F):=by
      rw[Array.getD_eq_getD_getElem?] at r;cases fE:a.tmps[d]? with
      |none=>rw[fE] at r;cases r
      |some y=>rw[fE] at r;simp only[Option.getD_some] at r;rw[r]
     rw[this];simpa using u
    ·rename_i vs;obtain⟨xs,r,_⟩:=dC.u6 (cs:=vs) a5
     have:∀b,a.tmps[d]?≠some (.bool b):=fun b fE=>by rw[Array.getD_eq_getD_getElem?,fE] at r;cases r
     split
     ·rename_i F fE;exact absurd fE (this F)
     ·simpa using u
   ·cases cb
theorem Br{T:kN}{x:gk}{op:Op}(h:eH T x op=true)(a5:x≠.no):∀c,op≠.defer c:=by
 rintro c rfl
 cases x<;> first|exact a5 rfl |simp [eH] at h
theorem Bs{ro:Option Nat}{m:Nat}{P:Program}{f:FuncId}{args:Array Value}{w:World}{R:Ending→World→Prop}(h:Calls P f args w R):CallsIn (xM ro) m P f args w R:=callsIn_wide.2 h
variable{ro:Option Nat}{B:Nat}{T:kN}(eN:T.pQ P){E:Env}(bs:E.F=.not)(hY:m4 P E)
include eN bs hY
theorem pe(h:fJ κ s w g a fV B E.au){ops:Array Oper}{u:cS}{i:Nat}{o:Oper}(bL:ops[i]? =some o)(dk:oh T fV ops u o=true){v:ae}{s':ag}(aU:jx E u g s=some (v,s'))
  {K:Act→World→Prop}{Q:Exit→Act→World→Prop}(y:∀κ' w' fY,fx κ s w κ' s' w'→fJ κ' s' w' (cK g u.dst v) fY fV B E.au→K fY w'):wpOpIn (xM ro) 0 P ops Q i K a w:=by
 unfold wpOpIn;simp only[bL];simp only[oh,bl] at dk;unfold jx at aU;cases hw:f8 u.guard g with
 |none=>rw[hw] at aU;cases aU
 |some b=>
  rw[hw] at aU;rw[h.wanted dk.1.2 hw];cases b with
  |false=>simp only[bm,e0] at aU;obtain⟨rfl,rfl⟩:=aU;simp only[b4,↓reduceIte];exact⟨fun _ _=>trivial,y κ w _ (.refl _ _ _) (h.skip dk.1.1)⟩
  |true=>
   simp only at aU;simp only[↓reduceIte];cases r:aM E g s .ok .panic u.op with
   |fail=>rw[r] at aU;cases aU
   |panic v s'=>rw[r] at aU;cases aU
   |ok fL H=>
    rw[r] at aU;simp only[bm,e0] at aU;obtain⟨rfl,rfl⟩:=aU;obtain⟨v1,s1,cZ,cP⟩:=Bj (ty:=o.type) eN h.iQ bs hY h.ao h.au (by simp) dk.2 r;simp only[ah.ok.injEq] at cZ;obtain⟨rfl,rfl⟩:=cZ;have F:∀(R:Result Next),(∀dst pos after guard,(execOp a.eval ⟨dst,o.op,o.type,pos,after,guard⟩).run P w=R)→(Oper.semAt ro a.eval o).run P w=R:=fun R h=>by
     rw[show Oper.semAt ro a.eval o=execOp a.eval o from by
      cases ro with
      |none=>rfl
      |some l=>exact Oper.semAt_some l _ o (Br dk.2 fun dm=>by rw[dm] at r;cases r)]
     exact h o.dst o.pos o.after o.guard
    unfold Oper.wpIn;refine⟨fun _ _=>trivial,?_⟩;rcases cP with⟨x,κ',w',a5|⟨a5,rfl⟩,he,A,bM⟩|⟨f,xs,a5,aY⟩
    ·rw[F _ a5,Oper.uponIn_value];exact y κ' w' _ he (h.put he A bM dk.1.1)
    ·rw[F _ a5,Oper.uponIn_skip];exact y κ' w' _ he (h.put he A bM dk.1.1)
    ·rw[F _ a5,Oper.uponIn_enter];refine⟨fun a5=>(by cases a5),(Bs aY).mono fun e w' ⟨x,hex,κ',he,A,bM⟩=>?_⟩;subst hex;exact y κ' w' _ he (h.put he A bM dk.1.1)
theorem qF{ops:Array Oper}{Q:Exit→Act→World→Prop}{g':Nat→ae}{s':ag}:∀(l:List Nat) (r:List cS) {κ:bj} {s:ag} {w:World} {g:Nat→ae} {a:Act},l.length=r.length→
  (∀(j i:Nat) (e:cS),l[j]? =some i→r[j]? =some e→∃o,ops[i]? =some o∧oh T fV ops e o=true)→fJ κ s w g a fV B E.au→g3 E r g s=some (g',s')→
  (∀κ' w' fY,fx κ s w κ' s' w'→fJ κ' s' w' g' fY fV B E.au→Q .normal fY w')→wpOpsIn (xM ro) 0 P ops Q l a w
 |[],[],κ,s,w,g,a,_,_,h,aU,u=>by simp only[g3,bm,e0] at aU;obtain⟨rfl,rfl⟩:=aU;exact u κ w a (.refl _ _ _) h
 |[],_::_,_,_,_,_,_,bN,_,_,_,_=>by simp at bN
 |_::_,[],_,_,_,_,_,bN,_,_,_,_=>by simp at bN
 |i::l,e::r,κ,s,w,g,a,bN,dk,h,aU,u=>by
  obtain⟨o,bL,y⟩:=dk 0 i e rfl rfl;rw[wpOpsIn_cons];simp only[g3] at aU;cases he:jx E e g s with
  |none=>rw[he] at aU;cases aU
  |some p=>
   rw[he] at aU;refine pe eN bs hY h bL y he fun κ' w' fY A F=>?_
   exact qF l r (by simpa using bN) (fun j i e ar av=>dk (j+1) i e (by simpa using ar) (by simpa using av)) F aU
    fun H I J K M=>u H I J (A.trans K) M
end
def oi(o:Oper):List Nat:=(o.after.toList.filter (Region.binds .any)).map (·.on)
def m6(acc:List Nat):List Nat→Nat
 |[]=>0
 |e::es=>m6 acc es ||| ((1 <<< e) ||| acc.getD e 0)
def qG:List Nat→List Oper→List Nat
 |acc,[]=>acc
 |acc,o::os=>qG (acc++[m6 acc (oi o)]) os
def zB(bits:Nat)(b:cS):Nat→List cS→Bool
 |_,[]=>true
 |m,a::as=>(bits.testBit m||indep a b)&&zB bits b (m+1) as
def rz:List cS→List Nat→List cS→Bool
 |_,_,[]=>true
 |pre,m::Bc,b::e8=>zB m b 0 pre&&rz (pre++[b]) Bc e8
 |_,[],_::_=>false
def zC:Nat→List Oper→Bool
 |_,[]=>true
 |i,o::os=>(oi o).all (fun e=>Nat.blt e i)&&zC (i+1) os
def jl(T:kN)(fV:Nat)(ops:Array Oper):List cS→List Oper→Bool
 |[],[]=>true
 |a::as,o::os=>oh T fV ops a o&&jl T fV ops as os
 |_,_=>false
def rA(T:kN)(fV:Nat)(ops:Array Oper)(e:List cS):Bool:=jl T fV ops e ops.toList&&zC 0 ops.toList&&rz [] (qG [] ops.toList) e
theorem ib{T:kN}{fV:Nat}{ops:Array Oper}:∀{as:List cS} {os:List Oper},jl T fV ops as os=true→as.length=os.length∧∀(i:Nat) (a:cS) (o:Oper),as[i]? =some a→os[i]? =some o→oh T fV ops a o=true
 |[],[],_=>⟨rfl,fun i a o h=>by simp at h⟩
 |[],_::_,h=>by simp [jl] at h
 |_::_,[],h=>by simp [jl] at h
 |a::as,o::os,h=>by
  simp only[jl,bl] at h;obtain⟨ar,av⟩:=ib h.2;refine⟨by simp [ar],fun i fY o' e r=>?_⟩;cases i with
  |zero=>simp at e r;subst e;subst r;exact h.1
  |succ i=>exact av i fY o' (by simpa using e) (by simpa using r)
theorem rB:∀{i:Nat} {os:List Oper},zC i os=true→∀(j:Nat) (o:Oper),os[j]? =some o→∀e,e∈oi o→e<i+j
 |i,[],_,j,o,h=>by simp at h
 |i,o'::os,h,j,o,r=>by
  simp only[zC,bl,List.all_eq_true] at h;cases j with
  |zero=>
   simp at r;subst r;intro e he
   have:=h.1 e he;rw[Nat.blt_eq] at this;omega
  |succ j=>
   intro e he
   have:=rB h.2 j o (by simpa using r) e he;omega
theorem rC{bits:Nat}{b:cS}:∀{m:Nat} {as:List cS},zB bits b m as=true→∀(j:Nat) (a:cS),as[j]? =some a→bits.testBit (m+j)=true∨indep a b=true
 |m,[],_,j,a,h=>by simp at h
 |m,fY::as,h,j,a,e=>by
  simp only[zB,bl,Bool.or_eq_true] at h;cases j with
  |zero=>simp at e;subst e;exact h.1
  |succ j=>have:=rC h.2 j a (by simpa using e);rw[show m+(j+1)=m+1+j by omega];exact this
theorem qj:∀{pre:List cS} {Bc:List Nat} {rest:List cS},rz pre Bc rest=true→∀(i m:Nat) (a b:cS),pre.length≤i→m<i→(pre++rest)[m]? =some a→(pre++rest)[i]? =some b→(Bc.getD (i-pre.length) 0).testBit m=true∨indep a b=true
 |pre,Bc,[],_,i,m,a,b,bL,hm,u,r=>by
  rw[qw] at r
  have:=(ec.1 r).1;omega
 |pre,[],y::e8,h,i,m,a,b,bL,hm,u,r=>by simp [rz] at h
 |pre,jv::Bc,y::e8,h,i,m,a,b,bL,hm,u,r=>by
  simp only[rz,bl] at h;by_cases he:i=pre.length
  ·subst he;rw[Nat.sub_self];have A:b=y:=by simpa using r.symm
   subst A
   have:=rC h.1 m a (by rw[gm hm] at u;exact u);simpa using this
  ·have:=qj (pre:=pre++[y]) h.2 i m a b (by simp;omega) hm (by simpa using u) (by simpa using r);have e:i-pre.length=(i-(pre++[y]).length)+1:=by simp;omega
   rw[e];simpa using this
theorem oQ(acc:List Nat)(m:Nat):∀(es:List Nat),(m6 acc es).testBit m=true→∃e,e∈es∧(m=e∨(acc.getD e 0).testBit m=true)
 |[],h=>by simp [m6] at h
 |e::es,h=>by
  simp only[m6,Nat.testBit_or,Bool.or_eq_true] at h;rcases h with h|h|h
  ·obtain⟨hX,ar,av⟩:=oQ acc m es h;exact⟨hX,List.mem_cons_of_mem _ ar,av⟩
  ·refine⟨e,List.mem_cons_self,.inl ?_⟩;rw[Nat.one_shiftLeft,Nat.testBit_two_pow] at h;simpa using (of_decide_eq_true h).symm
  ·exact⟨e,List.mem_cons_self,.inr h⟩
def Mw(M:List Nat)(os:List Oper):Prop:=M.length=os.length∧∀i m,(M.getD i 0).testBit m=true→∃o e,os[i]? =some o∧e∈oi o∧(m=e∨(M.getD e 0).testBit m=true)
theorem rD:∀(os:List Oper) (acc:List Nat) (pre:List Oper),Mw acc pre→Mw (qG acc os) (pre++os)
 |[],acc,pre,h=>by simpa [qG] using h
 |o::os,acc,pre,h=>by
  have:=rD os (acc++[m6 acc (oi o)]) (pre++[o]) ?_
  ·simpa [qG] using this
  refine⟨by simp [h.1],fun i m hm=>?_⟩;have up:∀e,(acc.getD e 0).testBit m=true→((acc++[m6 acc (oi o)]).getD e 0).testBit m=true:=fun e he=>by
   have r:e<acc.length:=by
    rcases Nat.lt_or_ge e acc.length with q|q
    ·exact q
    ·rw[List.getD_eq_getElem?_getD,List.getElem?_eq_none q] at he;simp at he
   rw[List.getD_eq_getElem?_getD,gm r,←List.getD_eq_getElem?_getD];exact he
  rcases Nat.lt_trichotomy i acc.length with q|q|q
  ·rw[List.getD_eq_getElem?_getD,gm q,←List.getD_eq_getElem?_getD] at hm;obtain⟨o',e,ar,av,bV⟩:=h.2 i m hm;refine⟨o',e,?_,av,bV.imp id (up e)⟩;rw[gm (by rw[←h.1];exact q)];exact ar
  ·subst q;have u:(m6 acc (oi o)).testBit m=true:=by simpa using hm
   obtain⟨e,ar,av⟩:=oQ acc m _ u;refine⟨o,e,?_,ar,av.imp id (up e)⟩;rw[h.1];simp
  ·rw[List.getD_eq_getElem?_getD,List.getElem?_eq_none (by simp;omega)] at hm;simp at hm
section
variable{P:Program}{fV:Nat}{B:Nat}{ro:Option Nat}{T:kN}(eN:T.pQ P){E:Env}(bs:E.F=.not)(hY:m4 P E)
include eN bs hY
theorem EF{ops:Array Oper}{r:List cS}(dk:rA T fV ops r=true){Q:Exit→Act→World→Prop}{g':Nat→ae}{s':ag}:∀(fuel:Nat) (L:List Nat) (listed:Array Bool) {κ:bj} {s:ag} {w:World} {g:Nat→ae} {a:Act},
  L.length=fuel→L.Pairwise (· < ·)→listed.size=ops.size→(∀i,i∈L↔i<ops.size∧listed.getD i true=false)→
  (∀i m,listed.getD i false=true→((qG [] ops.toList).getD i 0).testBit m=true→listed.getD m false=true)→fJ κ s w g a fV B E.au→g3 E (L.map (r.getD · default)) g s=some (g',s')→
  (∀κ' w' fY,fx κ s w κ' s' w'→fJ κ' s' w' g' fY fV B E.au→Q .normal fY w')→wpAnyIn (xM ro) 0 P .any ops Q fuel listed a w:=by
 simp only[rA,bl] at dk;obtain⟨⟨aa,ab⟩,ac⟩:=dk;obtain⟨hlen,ad⟩:=ib aa;have af:=rB ab;have ah:=qj ac;have ai:=rD ops.toList [] [] ⟨rfl,fun i m h=>by simp at h⟩;have aj:∀(o:Oper) (e:Edge),e∈o.after→Region.binds .any e=true→e.on∈oi o:=fun o e he J=>List.mem_map.2 ⟨e,List.mem_filter.2 ⟨by simpa using he,J⟩,rfl⟩
 have ak:∀(o:Oper) (n:Nat),n∈oi o→∃e,e∈o.after∧Region.binds .any e=true∧e.on=n:=fun o n dm=>by obtain⟨e,he,al⟩:=List.mem_map.1 dm;obtain⟨ar,av⟩:=List.mem_filter.1 he;exact⟨e,by simpa using ar,av,al⟩
 have U:∀(listed:Array Bool) (i:Nat),i<listed.size→listed.getD i true=listed.getD i false:=fun listed i h=>by simp [Array.getD_eq_getD_getElem?,h]
 intro fuel
 induction fuel with
 |zero=>
  intro L listed κ s w g a H fz e3 ji K h aU M
  have:L=[]:=jE H;subst this;refine⟨?_,?_⟩
  ·cases N:Region.ready .any ops listed with
   |nil=>rfl
   |cons i l=>
    have bL:i∈Region.ready .any ops listed:=by rw[N];exact List.mem_cons_self
    obtain⟨ar,o,av,_⟩:=mem_ready.1 bL
    have:=(ji i).2 ⟨(Array.getElem?_eq_some_iff.1 av).1,ar⟩;cases this
  ·simp only[List.map_nil,g3,bm,e0] at aU;obtain⟨rfl,rfl⟩:=aU;exact M κ w a (.refl _ _ _) h
 |succ fuel am=>
  intro L listed κ s w g a H fz e3 ji K h aU M;refine⟨fun N=>?_,fun i bL=>?_⟩
  ·cases L with
   |nil=>simp at H
   |cons i0 l=>
    obtain⟨ar,av⟩:=(ji i0).1 List.mem_cons_self
    have:i0∈Region.ready .any ops listed:=by
     refine mem_ready.2 ⟨av,ops[i0],Array.getElem?_eq_getElem ar,fun e he J=>?_⟩;have an:=af i0 ops[i0] (by simp [ar]) e.on (aj _ _ he J);rw[bf] at an;rw[←U listed e.on (by omega)];cases fE:listed.getD e.on true with
     |true=>rfl
     |false=>
      have:=(ji e.on).2 ⟨by omega,fE⟩;rcases List.mem_cons.1 this with q|q
      ·omega
      ·have:=List.rel_of_pairwise_cons fz q;omega
    rw[N] at this;cases this
  ·obtain⟨ar,o,av,bV⟩:=mem_ready.1 bL;have I:i<ops.size:=(Array.getElem?_eq_some_iff.1 av).1;have ao:=(ji i).2 ⟨I,ar⟩;have V:∀m,((qG [] ops.toList).getD i 0).testBit m=true→listed.getD m false=true:=fun m hm=>by
    obtain⟨o',e,ap,aq,A⟩:=ai.2 i m hm
    have:o'=o:=by
     have Y:ops[i]? =some o':=by simpa using ap
     rw[av] at Y;exact(Option.some.inj Y).symm
    subst this;obtain⟨hX,pY,q6,Ep⟩:=ak _ _ aq;have bN:=bV hX pY q6;rw[Ep] at bN;rcases A with A|A
    ·rw[A];exact bN
    ·exact K e m bN A
   obtain⟨pre,post,rfl⟩:=List.append_of_mem ao;have F:=List.pairwise_append.1 fz;have Z:∀m,m∈pre→m<i:=fun m hm=>F.2.2 m hm i List.mem_cons_self
   have aw:∀m,m∈post→i<m:=fun m hm=>List.rel_of_pairwise_cons F.2.1 hm
   have O:∀m,m<ops.size→r[m]? =some (r.getD m default):=fun m hm=>by
    have:m<r.length:=by rw[hlen];simpa using hm
    simp [List.getD_eq_getElem?_getD,this]
   have ax:∀x,x∈pre.map (r.getD · default)→indep x (r.getD i default)=true:=fun x a5=>by
    obtain⟨m,hm,rfl⟩:=List.mem_map.1 a5;have ay:=Z m hm;obtain⟨az,jy⟩:=(ji m).1 (List.mem_append_left _ hm);rcases ah i m _ _ (Nat.zero_le _) ay (O m az) (O i I) with q|q
    ·have:=V m (by simpa using q);rw[U listed m (by omega),this] at jy;cases jy
    ·exact q
   rw[List.map_append,fH] at aU;have io:=vB bs _ ax aU;rw[←List.map_append] at io;simp only[g3] at io;cases he:jx E (r.getD i default) g s with
   |none=>rw[he] at io;cases io
   |some p=>
    obtain⟨v,s1⟩:=p;rw[he] at io;simp only[fF] at io;refine pe eN bs hY h av (ad i _ o (O i I) (by simpa using av)) he fun κ' w' fY aA aB=>?_
    refine am (pre++post) _ (by simp at H ⊢;omega) (List.pairwise_append.2 ⟨F.1,F.2.1.of_cons,fun x a5 y eM=>F.2.2 x a5 y (List.mem_cons_of_mem _ eM)⟩) (by simp [e3]) (fun j=>?_) (fun j m cX hm=>?_) aB io
     (fun aC aD aE aF aG=>M aC aD aE (aA.trans aF) aG)
    ·by_cases u:j=i
     ·subst u;constructor
      ·intro hm;rcases List.mem_append.1 hm with q|q
       ·exact absurd (Z j q) (Nat.lt_irrefl _)
       ·exact absurd (aw j q) (Nat.lt_irrefl _)
      ·intro hm
       have:=hm.2;simp [Array.getD_eq_getD_getElem?,e3,I] at this
     ·rw[getD_set_ne true (Ne.symm u),←ji j];simp only[List.mem_append,List.mem_cons];constructor
      ·rintro (q|q)
       ·exact .inl q
       ·exact .inr (.inr q)
      ·rintro (q|q|q)
       ·exact .inl q
       ·exact absurd q u
       ·exact .inr q
    ·by_cases u:j=i
     ·subst u;exact getD_set_true (V m hm)
     ·rw[getD_set_ne false (Ne.symm u)] at cX;exact getD_set_true (K j m cX hm)
theorem x8{κ:bj}{s:ag}{w:World}{ao:eO}{a:Act}{ops:Array Oper}{e:List cS}(dk:jl T fV ops e ops.toList=true)(h:fJ κ s w ao.get a fV B E.au){fin:eO→ag→ah}{A:ae→eO→ag→ah}{r:ah}(br:r≠.fail)(aU:fw E e ao s fin A=r){Q:Exit→Act→World→Prop}
  (F:∀κ' s' w' eo fY,fx κ s w κ' s' w'→fJ κ' s' w' eo.get fY fV B E.au→fin eo s'=r→Q .normal fY w')(id:Nat):(Code.region id ops false).wpIn (xM ro) 0 P Q a w:=by
 obtain⟨eo,s',ar,av⟩:=l0 bs hY.nM br e aU;obtain⟨hlen,H⟩:=ib dk;refine wpIn_region (qF eN bs hY (List.range ops.size) e (by rw[hlen];simp) (fun j i I cX J=>?_) h ar (fun κ' w' fY he K=>F κ' s' w' eo fY he K av));obtain⟨M,u⟩:=ec.1 cX;rw[List.getElem_range] at u;subst u;have y:j<ops.size:=by simpa using M
 exact⟨ops[j],Array.getElem?_eq_getElem y,H j I _ J (by simp [y])⟩
theorem fJ.drawn{κ:bj}{s:ag}{w:World}{g:Nat→ae}{a:Act}(h:fJ κ s w g a fV B E.au):fJ κ s {w with drawn:=w.drawn+1} g a fV B E.au∧fx κ s w κ s {w with drawn:=w.drawn+1}:=
 ⟨⟨h.iQ.world (.refl _ _) rfl rfl (fun a v e=>h.iQ.iG a v e) (fun _ _=>⟨rfl,fun _=>rfl⟩),h.ao,h.defers,h.size,h.au⟩,
  ⟨.refl _ _,rfl,aD _,rfl,rfl,rfl,fun _ _ _=>rfl,fun _ _ h=>h,fun _ h=>.inl h⟩⟩
theorem Bt{κ:bj}{s:ag}{w:World}{ao:eO}{a:Act}{ops:Array Oper}{e:List cS}(hm:P.follows .mixedOrders=true)(dk:rA T fV ops e=true)(h:fJ κ s w ao.get a fV B E.au){fin:eO→ag→ah}{y:ae→eO→ag→ah}{r:ah}(br:r≠.fail)(aU:fw E e ao s fin y=r){Q:Exit→Act→World→Prop}
  (A:∀κ' s' w' eo fY,fx κ s w κ' s' w'→fJ κ' s' w' eo.get fY fV B E.au→fin eo s'=r→Q .normal fY w')(id:Nat):(Code.region id ops true).wpIn (xM ro) 0 P Q a w:=by
 obtain⟨eo,s',ar,av⟩:=l0 bs hY.nM br e aU;have hlen:=(ib (by simp only[rA,bl] at dk;exact dk.1.1)).1;obtain⟨cP,F⟩:=h.drawn eN bs hY;refine wpIn_region_any hm (EF eN bs hY dk ops.size (List.range ops.size) _ (by simp) List.pairwise_lt_range (by simp) (fun i=>?_) (fun i m bL=>?_) cP ?_ (fun κ' w' fY he H=>A κ' s' w' eo fY (F.trans he) H av))
 ·rw[List.mem_range];constructor
  ·intro bL;exact⟨bL,by simp [Array.getD_eq_getD_getElem?,bL]⟩
  ·exact fun bL=>bL.1
 ·by_cases u:i<ops.size
  ·simp [Array.getD_eq_getD_getElem?,u] at bL
  ·simp [Array.getD_eq_getD_getElem?,u] at bL
 ·have:(List.range ops.size).map (e.getD · default)=e:=by
   apply List.ext_getElem
   ·rw[hlen];simp
   ·intro i J I;simp [List.getD_eq_getElem?_getD,I]
  rw[this];exact ar
end
inductive aer:oU→Exit→Prop
 |norm:aer .norm .normal
 |exit (i:Nat):aer (.exit i) (.exit i)
 |ret:aer .ret .ret
def ki(κ:bj)(s:ag)(w:World)(fV:Nat)(B:Nat)(G:Nat→ae)(k:oU→eO→ag→ah)(r:ah):Exit→Act→World→Prop:=fun e fY w'=>∃x κ' s' eo,aer x e∧fx κ s w κ' s' w'∧fJ κ' s' w' eo.get fY fV B G∧k x eo s'=r
theorem ki.trans{κ κ':bj}{s s':ag}{w w':World}{fV:Nat}{B:Nat}{G:Nat→ae}{k:oU→eO→ag→ah}{r:ah}(he:fx κ s w κ' s' w'){e:Exit}{a:Act}{u:World}(h:ki κ' s' w' fV B G k r e a u):ki κ s w fV B G k r e a u:=by obtain⟨x,y,A,eo,ar,av,bV,dD⟩:=h;exact⟨x,y,A,eo,ar,he.trans av,bV,dD⟩
theorem hx.ext{l:Nat}{κ κ':bj}{s s':ag}{w w':World}(h:hx l κ s w κ' s' w')(bN:w'.heap[l]? =w.heap[l]?):fx κ s w κ' s' w':=
 ⟨h.k,h.aa,h.size,h.os,h.tape,h.output,fun b r dm=>by
  by_cases e:b=l
  ·rw[e,bN]
  ·exact h.kS b r e dm,h.live,h.o4⟩
theorem hx.rE{l:Nat}{κ κ':bj}{s s':ag}{w w':World}(h:hx l κ s w κ' s' w')(bN:w.heap.size≤l):fx κ s w κ' s' w':=
 ⟨h.k,h.aa,h.size,h.os,h.tape,h.output,fun b e dm=>h.kS b e (by omega) dm,h.live,h.o4⟩
theorem hx.put{κ:bj}{s:ag}{w:World}(l:Nat)(o:Obj):hx l κ s w κ s (w.putObj l o):=
 ⟨.refl _ _,rfl,Nat.le_of_eq World.putObj_size.symm,rfl,rfl,rfl,fun b _ dm _=>World.putObj_heap_other dm,fun _ _ h=>h,fun _ h=>.inl h⟩
theorem c5.heap{κ:bj}{s:ag}{w w':World}(a7:c5 κ s w)(h:∀(r:Nat) (o:Obj),w.heap[r]? =some o→((∃C e jG,o=.cells C e jG)∨∃fm clock,o=.map fm clock)→w'.heap[r]? =some o):c5 κ s w':=by
 refine a7.world (.refl _ _) rfl rfl (fun a v e=>?_) (fun b u=>⟨?_,fun _=>rfl⟩)
 ·obtain⟨ar,av⟩:=a7.iG a v e;refine⟨ar,?_⟩;unfold World.cell? at av ⊢;split at av
  ·rename_i c hX jG aY;rw[h _ _ aY (.inl ⟨_,_,_,rfl⟩)];exact av
  ·cases av
 ·rcases a7.md u with⟨C,e,jG,ar⟩|⟨fm,clock,ar⟩
  ·rw[ar,h _ _ ar (.inl ⟨_,_,_,rfl⟩)]
  ·rw[ar,h _ _ ar (.inr ⟨_,_,rfl⟩)]
theorem c5.put{κ:bj}{s:ag}{w:World}(a7:c5 κ s w){l:Nat}{r:Loop}(bN:w.heap[l]? =some (.loop r))(o:Obj):c5 κ s (w.putObj l o):=
 a7.heap fun b o' ar av=>by
  rw[World.putObj_heap_other,ar]
  rintro rfl
  rw[bN] at ar;cases ar;rcases av with⟨C,e,jG,av⟩|⟨fm,clock,av⟩<;> cases av
theorem c5.nP{κ:bj}{s:ag}{w:World}(a7:c5 κ s w){l:Nat}{r:Loop}(bN:w.heap[l]? =some (.loop r)):¬Live κ s l:=fun h=>by rcases a7.md h with⟨C,e,jG,u⟩|⟨fm,clock,u⟩<;> rw[bN] at u<;> cases u
theorem c5.yp{κ:bj}{s:ag}{w:World}(a7:c5 κ s w){l:Nat}{r:Option (List Deferred)}(bN:w.heap[l]? =some (.deferred r)):¬Live κ s l:=fun h=>by rcases a7.md h with⟨C,e,jG,u⟩|⟨fm,clock,u⟩<;> rw[bN] at u<;> cases u
theorem World.kX(w:World)(o:Obj)(k:Nat)(h:k<w.heap.size):(w.alloc o).heap[k]? =w.heap[k]?:=by show(w.heap.push o)[k]? =_;rw[Array.getElem?_push,if_neg (by omega)]
theorem c5.alloc{κ:bj}{s:ag}{w:World}(a7:c5 κ s w)(o:Obj):c5 κ s (w.alloc o):=
 a7.heap fun b o' ar _=>by rw[World.kX w o b (Array.getElem?_eq_some_iff.1 ar).1,ar]
theorem fx.alloc(κ:bj)(s:ag)(w:World)(o:Obj):fx κ s w κ s (w.alloc o):=
 ⟨.refl _ _,rfl,by rw[World.size_alloc];omega,rfl,rfl,rfl,fun b e _=>World.kX w o b e,fun _ _ h=>h,fun _ h=>.inl h⟩
section
variable{P:Program}{fV:Nat}{B:Nat}{E:Env}
def Mx(p fV:Nat)(eb:Array Tmp):Bool:=match eb.toList with
 |[q]=>Nat.beq p q&&Nat.blt p fV
 |_=>false
def My(P:Program)(fV:Nat)(E:Env)(ro:Option Nat)(c:ad)(code:Code):Prop:=∀{κ:bj} {s:ag} {w:World} {ao:eO} {a:Act} {B:Nat} {k:oU→eO→ag→ah} {r:ah},r≠.fail→fJ κ s w ao.get a fV B E.au→exec E c ao s k=r→code.wpIn (xM ro) 0 P (ki κ s w fV B E.au k r) a w
theorem lF{step:ae→ag→(oU→ag→ah)→ah}{ht:ag}{dI:List ae}{x:ae}{xs:List ae}{s:ag}{k:oU→ag→ah}:fI step ht dI (x::xs) s k=step x s fun e s=>match e with
  |.norm=>bif dI.all (ff ht s) then fI step ht dI xs s k else .fail
  |e=>k e s:=rfl
theorem zD{j f p:Nat}{g:bF}{x y:ad}{g':Operand}{eb:Array Tmp}{aq aw:Code}(aG:Bg P f j)(cb:cH g g'=true)(N:Mx p fV eb=true)(a5:∀l,My P fV E (some l) x aq)(eM:∀l,My P fV E (some l) y aw)
  {κ:bj}{s:ag}{w:World}{ao:eO}{a:Act}{k:oU→eO→ag→ah}{r:ah}(br:r≠.fail)(h:fJ κ s w ao.get a fV B E.au)(aU:exec E (.range j f g p x y) ao s k=r):
  (Code.rangeFunc g' eb aq aw).wpIn (xM none) 0 P (ki κ s w fV B E.au k r) a w:=by
 simp only[exec] at aU;have aS:=bu h.ao h.au cb;unfold lS at aU;split at aU
 ·rename_i xt dI ba;rw[ba] at aS;cases O:Nat.beq f xt with
  |false=>rw[O] at aU;exact absurd aU.symm br
  |true=>
  rw[O] at aU;simp only[bH] at aU;have bb:=dh O;subst bb;split at aU
  ·rename_i xs f7;obtain⟨dt,bc,bd⟩:=dC.uu (cs:=dI) aS;obtain⟨be,bB⟩:eb= #[p]∧p<fV:=by
    unfold Mx at N;split at N
    ·rename_i q fE;simp only[bl] at N;have ar:=dh N.1;have av:=N.2;rw[Nat.blt_eq] at av;subst ar;exact⟨by rw[←Array.toArray_toList (xs:=eb),fE],av⟩
    ·cases N
   subst be;obtain⟨⟨aT,bf,aV,bg⟩,aG⟩:=aG;refine wpIn_rangeFunc ?_;intro fn bC;obtain⟨rec,H⟩:∃rec:LoopState→Option Code→Loop,rec=fun gH U=>{state:=gH,pending:=U,fn,tmps:=a.tmps,params:= #[p],assign:=aq,body:=aw,defers:=w.heap.size}:=⟨_,rfl⟩
   obtain⟨A,ac⟩:∃A,(w.alloc (.deferred (some []))).alloc (.loop (rec .ready none))=A:=⟨_,rfl⟩;obtain⟨l,bN⟩:∃l,l=w.heap.size+1:=⟨_,rfl⟩;have I:A.heap[l]? =some (.loop (rec .ready none)):=by rw[←ac,bN];have:=World.alloc_heap_new (w.alloc (.deferred (some []))) (.loop (rec .ready none));rwa [World.size_alloc] at this
   have aH:A.heap[w.heap.size]? =some (.deferred (some [])):=by rw[←ac];exact(World.kX _ _ _ (by simp)).trans (World.alloc_heap_new w _)
   have ax:fx κ s w κ s A:=by rw[←ac];exact(fx.alloc _ _ _ _).trans (fx.alloc _ _ _ _)
   have af:c5 κ s A:=by rw[←ac];exact(h.iQ.alloc _).alloc _
   refine⟨w.heap.size+1,[{target:=.collected w.heap.size,args:= #[]}],A,{target:=.fn (.func f) dt.toArray,args:= #[.func (.yield (w.heap.size+1)) #[] #[]]},A,f,
    #[.func (.yield (w.heap.size+1)) #[] #[]]++dt.toArray,A,?_,?_,fun _ _=>trivial,?_,fun bh=>(by cases bh),?_⟩
   ·rw[←ac,H];exact run_enterLoop_outer _ _ _ _ _
   ·simp only[resolve,bc];simp [go_sem]
   ·have bi:¬aT.name= "runtime.NumGoroutine" :=by simpa using bg
    cases O:aT.body with
    |none=>rw[O] at aV;cases aV
    |some c=>simp [invoke,go_sem,callFunc,bf,bi,O]
   ·rw[←bN];obtain⟨step,aW⟩:∃step:ae→ag→(oU→ag→ah)→ah,step=fun kI s lN=>jc ao (some p) kI fun eo=>exec E x eo s (Em (exec E y) fun u _ s=>lN u s):=⟨_,rfl⟩
    obtain⟨ev,aX⟩:∃ev:oU→ag→ah,ev=fun u s=>k u ao s:=⟨_,rfl⟩
    rw[←aW,←aX] at aU;refine(aG dI xs κ s A dt l f7 af bd (Array.getElem?_eq_some_iff.1 I).1 (af.nP I) (fun o ai=>by rw[I] at ai;cases ai;rfl)
     (fun i s'=>fI step s dI (xs.drop i) s' ev=r) (fun s' o=>∃(u:oU) (c:Code),ev u s'=r∧o=some (.loop (rec .done (some c)))∧((∃i,u=.exit i∧c=.exit i)∨(u=.ret∧c=.ret))) aU ?_).mono ?_
    ·
     intro i aZ o8 κ' s' w' bL he J aj bD bM;have bk:xs.drop i=aZ::xs.drop (i+1):=by obtain⟨ar,av⟩:=ec.1 bL;rw[iP ar,av]
     rw[bk,lF] at aj;obtain⟨ay,az⟩:∃ay:oU→ag→ah,ay=fun u aI=>match u with
      |.norm=>bif dI.all (ff s aI) then fI step s dI (xs.drop (i+1)) aI ev else .fail
      |u=>ev u aI:=⟨_,rfl⟩
     have ak:step aZ s' ay=r:=by rw[az];exact aj
     rw[aW] at ak;simp only at ak;obtain⟨eo,bm,bn⟩:=pd ak br;have F:w'.heap[l]? =some (.loop (rec .ready none)):=by rw[he.kS l (Array.getElem?_eq_some_iff.1 I).1 (af.nP I)];exact I
     have a0:=run_yield (P:=P) (args:= #[o8]) F (by rw[H];rfl);rw[H] at a0;refine⟨fn,_,aq,aw,a0,roundIn_of_wpIn trivial ?_⟩;have e3:a.tmps.size=fV:=h.size;have bo:fJ κ' s' w' eo.get {tmps:=((#[p]:Array Tmp).zip #[o8]).foldl (fun tmps x=>tmps.setIfInBounds x.1 x.2) a.tmps,defers:=[]} fV w'.heap.size E.au:=by
      refine⟨J,fun t=>?_,Marks.nil (aD _),by simp [e3],h.au.mono (ax.trans he).k⟩;rw[bn];simp only[cK];have fz:p<a.tmps.size:=by omega
      by_cases ed:t=p
      ·subst ed;rw[if_pos rfl,bM.lc];simp only[List.zip_toArray,List.zip_cons_cons,List.zip_nil_right,List.foldl_toArray',List.foldl_cons,List.foldl_nil,Array.getD_eq_getD_getElem?,Array.getElem?_setIfInBounds_self_of_lt fz,Option.getD_some];exact bM
      ·rw[if_neg ed]
       have:=(h.ao.ext (ax.trans he)) t;simp only[List.zip_toArray,List.zip_cons_cons,List.zip_nil_right,List.foldl_toArray',List.foldl_cons,List.foldl_nil,Array.getD_eq_getD_getElem?,Array.getElem?_setIfInBounds_ne (Ne.symm ed)] at this ⊢;exact this
     refine wpIn_mono (a5 l br bo bm) ?_
     rintro e a1 aJ ⟨u,aA,s1,a2,aK,a3,al,aL⟩
     cases aK with
     |exit i=>exact absurd aL.symm br
     |ret=>exact absurd aL.symm br
     |norm=>
      have aB:aJ.heap[l]? =some (.loop (rec .ready none)):=by rw[a3.kS l (Array.getElem?_eq_some_iff.1 F).1 (J.nP F)];exact F
      obtain⟨K,V⟩:∃K,aJ.putObj l (.loop {rec .ready none with state:=.busy})=K:=⟨_,rfl⟩;refine⟨K,by rw[←V];exact run_beginRound aB (by rw[H]),?_⟩;have bp:hx l aA s1 aJ aA s1 K:=by rw[←V];exact .put _ _
      have aM:K.heap[l]? =some (.loop {rec .ready none with state:=.busy}):=by rw[←V];exact World.putObj_heap_same (Array.getElem?_eq_some_iff.1 aB).1
      have a4:c5 aA s1 K:=by rw[←V];exact al.iQ.put aB _
      have bq:Marks w'.heap.size K a1.defers:=by
       obtain⟨aC,oP,am,aE,Y⟩:=al.defers;refine⟨by rw[←V,World.putObj_size];exact aC,oP,am,aE,fun D M=>⟨(Y D M).1,?_⟩⟩;rw[←V,World.putObj_heap_other,(Y D M).2]
       rintro rfl
       have:=(Y D M).2;rw[aB] at this;cases this
      have bs:fJ aA s1 K a2.get a1 fV w'.heap.size E.au:=⟨a4,al.ao,bq,al.size,al.au⟩;have bt:exec E y a2 s1 (fun u _ s=>ay u s)=r:=aL;refine wpIn_mono (eM l br bs bt) ?_
      rintro e bE an ⟨u,aF,s2,bG,aK,a6,aN,Z⟩
      have ap:an.heap[l]? =some (.loop {rec .ready none with state:=.busy}):=by rw[a6.kS l (Array.getElem?_eq_some_iff.1 aM).1 (a4.nP aM)];exact aM
      have aO:hx l κ' s' w' aF s2 an:=(a3.x.trans bp).trans a6.x;have fin:∀aa:Option Code,(Instr.endRound l aa).run P an=.ok (.bool aa.isNone) (an.putObj l (.loop (rec (if aa.isNone then .ready else .done) aa))):=fun aa=>by have:=run_endRound (P:=P) aa ap;rw[H] at this ⊢;exact this
      have aP:∀o,(an.putObj l o).heap[l]? =some o:=fun o=>World.putObj_heap_same (Array.getElem?_eq_some_iff.1 ap).1
      cases aK with
      |norm=>
       refine⟨_,_,fin none,.inl ⟨rfl,aF,s2,(aO.trans (.put l _)).ext ?_,aN.iQ.put ap _,?_⟩⟩
       ·rw[aP,F];rfl
       ·rw[az] at Z;obtain⟨ar,av⟩:=c2 Z br;exact⟨av,ar⟩
      |exit i=>refine⟨_,_,fin (some (.exit i)),.inr ⟨rfl,aF,s2,aO.trans (.put l _),aN.iQ.put ap _,.exit i,.exit i,?_,aP _,.inl ⟨i,rfl,rfl⟩⟩⟩;rw[az] at Z;exact Z
      |ret=>refine⟨_,_,fin (some .ret),.inr ⟨rfl,aF,s2,aO.trans (.put l _),aN.iQ.put ap _,.ret,.ret,?_,aP _,.inr ⟨rfl,rfl⟩⟩⟩;rw[az] at Z;exact Z
    ·
     have out:∀(κ':bj) (s':ag) (w':World) (gH:LoopState) (U:Option Code),hx l κ s A κ' s' w'→c5 κ' s' w'→w'.heap[l]? =some (.loop (rec gH U))→∀u:oU,ev u s'=r→
       ∃ab,ab=w'.putObj l (.loop {rec gH U with state:=.exhausted})∧∀e,aer u e→ki κ s w fV B E.au k r e {a with defers:={target:=.collected w.heap.size,args:= #[]}::a.defers} ab:=fun κ' s' w' gH U kL J F u cZ=>by
      refine⟨_,rfl,fun e bv=>⟨u,κ',s',ao,bv,?_,?_,by rw[aX] at cZ;exact cZ⟩⟩
      ·exact((ax.x.trans kL).trans (.put l _)).rE (by omega)
      ·have aQ:fx κ s w κ' s' (w'.putObj l (.loop {rec gH U with state:=.exhausted})):=((ax.x.trans kL).trans (.put l _)).rE (by omega);refine⟨J.put F _,h.ao.ext aQ,?_,h.size,h.au.mono aQ.k⟩;obtain⟨aC,oP,am,aE,Y⟩:=h.defers.ext h.iQ aQ;refine⟨aC,w.heap.size::oP,by simp only[fH,am],List.nodup_cons.2 ⟨fun hm=>?_,aE⟩,fun D M=>?_⟩
       ·obtain⟨bw,a7,a8,bx,a9⟩:=h.defers;have bz:a7=oP:=by
         have:=a8.symm.trans am;clear aC am aE Y bw a8 bx a9 hm
         induction a7 generalizing oP with
         |nil=>cases oP with
          |nil=>rfl
          |cons _ _=>cases this
         |cons d h9 bA=>cases oP with
          |nil=>cases this
          |cons fQ bI=>simp only[fH,List.cons.injEq,Deferred.mk.injEq,Target.collected.injEq,and_true] at this;rw[this.1,bA _ this.2]
        have:=(a9 _ (bz ▸ hm)).2
        have:=(Array.getElem?_eq_some_iff.1 this).1;omega
       ·rcases List.mem_cons.1 M with rfl |M
        ·refine⟨h.defers.1,?_⟩;rw[World.putObj_heap_other (by omega),kL.kS _ (Array.getElem?_eq_some_iff.1 aH).1 (by omega) (af.yp aH)];exact aH
        ·exact Y D M
     rintro e w' ⟨⟨v,rfl⟩,(⟨κ',s',he,J,aj⟩|⟨κ',s',kL,J,u,c,cZ,ai,aY⟩)⟩
     ·have F:w'.heap[l]? =some (.loop (rec .ready none)):=by rw[he.kS l (Array.getElem?_eq_some_iff.1 I).1 (af.nP I)];exact I
      have ak:ev .norm s'=r:=by rw[List.drop_length] at aj;exact aj
      obtain⟨ab,aR,dD⟩:=out κ' s' w' .ready none he.x J F .norm ak;refine⟨none,ab,?_,dD _ .norm⟩
      have:=run_endLoop (P:=P) F (by rw[H];simp);rw[this,aR,H]
     ·obtain⟨ab,aR,dD⟩:=out κ' s' w' .done (some c) kL J ai u cZ;refine⟨some c,ab,?_,?_⟩
      ·have:=run_endLoop (P:=P) ai (by rw[H];simp);rw[this,aR,H]
      ·rcases aY with⟨i,rfl,rfl⟩|⟨rfl,rfl⟩
       ·exact wpIn_exit (dD _ (.exit i))
       ·exact wpIn_ret (dD _ .ret)
  ·exact absurd aU.symm br
 ·exact absurd aU.symm br
end
def dq(T:kN)(fV:Nat)(rd:Bool):ad→Code→Bool
 |.skip,.skip=>true
 |.skip,.label _=>true
 |.region none e,.region _ ops false=>jl T fV ops e ops.toList
 |.region (some []) e,.region _ ops true=>rA T fV ops e
 |.seq a b,.seq x y=>dq T fV rd a x&&dq T fV rd b y
 |.mask _ a,c=>dq T fV rd a c
 |.cond c a b,.cond n2 x y=>cH c n2&&dq T fV rd a x&&dq T fV rd b y
 |.block i a,.block j x=>Nat.beq i j&&dq T fV rd a x
 |.loop _ a,.loop x=>dq T fV rd a x
 |.exit i,.exit j=>Nat.beq i j
 |.scope a,.scope x=> !rd&&dq T fV rd a x
 |.ret,.ret=>true
 |.range j f g p a b,.rangeFunc g' eb x y=> !rd&&T.Ex f j&&cH g g'&&Mx p fV eb&&dq T fV true a x&&dq T fV true b y
 |_,_=>false
theorem hR:∀(m:f5) (k:eO→ah) (ao:eO),∃eo,eO.jF m k ao=k eo∧∀t,eo.get t=ao.get t∨eo.get t=.dead
 |.e,k,ao=>⟨.e,by cases ao<;> rfl,fun t=>.inr rfl⟩
 |.n A b u,k,.e=>by
  obtain⟨l',dH,ar⟩:=hR A (fun l=>eO.jF u (fun r=>k (.n l .dead r)) .e) .e;obtain⟨y,B,av⟩:=hR u (fun r=>k (.n l' .dead r)) .e;refine⟨.n l' .dead y,by simp only[eO.jF];rw[dH];exact B,fun t=>.inr ?_⟩;have F:∀t,l'.get t=.dead:=fun t=>(ar t).elim (fun h=>h) id
  have H:∀t,y.get t=.dead:=fun t=>(av t).elim (fun h=>h) id
  simp only[eO.get,F,H];cases Nat.beq t 0<;> cases Nat.beq (t%2) 1<;> rfl
 |.n A b u,k,.n l v r=>by
  obtain⟨l',dH,ar⟩:=hR A (fun l=>eO.jF u (fun r=>k (.n l (bif b then v else .dead) r)) r) l;obtain⟨y,B,av⟩:=hR u (fun r=>k (.n l' (bif b then v else .dead) r)) r;refine⟨.n l' (bif b then v else .dead) y,by simp only[eO.jF];rw[dH];exact B,fun t=>?_⟩;simp only[eO.get];cases Nat.beq t 0 with
  |true=>cases b<;> simp
  |false=>
   simp only[cond_false];cases Nat.beq (t%2) 1 with
   |true=>exact ar _
   |false=>exact av _
theorem qH{m:f5}{k:eO→ah}{ao:eO}{r:ah}(h:eO.jF m k ao=r):∃eo,k eo=r∧∀t,eo.get t=ao.get t∨eo.get t=.dead:=by obtain⟨eo,e,cb⟩:=hR m k ao;exact⟨eo,e.symm.trans h,cb⟩
theorem pf{F:Fence}{B:Nat}{P:Program}{c:Code}{Q:Exit→Act→World→Prop}(J:Nat→Act→World→Prop)(round:∀n a w,J n a w→c.wpIn F B P (Exit.then (fun fY w'=>∃m,m<n∧J m fY w') Q) a w){n:Nat}{a:Act}{w:World}(h:J n a w):(Code.loop c).wpIn F B P Q a w:=by
 intro b k cs H A aU;have key:∀n a w,J n a w→∃e fY w',Q e fY w'∧ArrivesIn (Machine.fenced P F) P (lone (b.atR a (.code c:: .inLoop c::k)) cs w) b k cs e fY w':=by
  intro n
  induction n using Nat.strongRecOn with
  |_ n I=>
   intro a w K;obtain⟨e,u,y,fE,r⟩:=round n a w K b (.inLoop c::k) cs H A aU;cases e with
   |normal=>obtain⟨m,M,N⟩:=fE;obtain⟨O,U,V,Y,Z⟩:=I m M u y N;exact⟨O,U,V,Y,.of_steps (StepsIn.trans r (.one (fenced_calm A aU rfl) stepR_inLoop)) Z⟩
   |exit id=>exact⟨_,u,y,fE,.pass (x:=.inLoop c) rfl (fun _ _=>.inl (by simp)) r⟩
   |goto l=>exact⟨_,u,y,fE,.pass (x:=.inLoop c) rfl (fun _ _=>.inl (by simp)) r⟩
   |ret=>exact⟨_,u,y,fE,.pass (x:=.inLoop c) rfl (fun _ _=>.inl (by simp)) r⟩
   |panic Zb=>exact⟨_,u,y,fE,.pass (x:=.inLoop c) rfl (fun _ _=>.inl (by simp)) r⟩
   |outgrown=>exact⟨_,u,y,fE,.pass (x:=.inLoop c) rfl (fun _ _=>.inl (by simp)) r⟩
 obtain⟨e,fY,w',fE,r⟩:=key n a w h;exact⟨e,fY,w',fE,.of_steps (.one (fenced_calm A aU rfl) stepR_loop) r⟩
section
variable{P:Program}(hm:P.follows .mixedOrders=true){fV:Nat}{T:kN}(eN:T.pQ P){E:Env}(bs:E.F=.not)(hY:m4 P E)
include hm eN bs hY
theorem tu:∀(c:ad) (code:Code) {rd:Bool} {ro:Option Nat},(ro=none↔rd=false)→dq T fV rd c code=true→∀{κ:bj} {s:ag} {w:World} {ao:eO} {a:Act} {B:Nat} {k:oU→eO→ag→ah} {r:ah},r≠.fail→fJ κ s w ao.get a fV B E.au→exec E c ao s k=r→code.wpIn (xM ro) 0 P (ki κ s w fV B E.au k r) a w:=by
 intro c
 induction c with
 |skip=>
  intro code rd ro A dk κ s w ao a B k r br h aU;cases code<;> simp only[dq,b4] at dk
  ·exact wpIn_skip ⟨.norm,κ,s,ao,.norm,.refl _ _ _,h,aU⟩
  ·exact wpIn_label ⟨.norm,κ,s,ao,.norm,.refl _ _ _,h,aU⟩
 |region nm aw=>
  intro code rd ro A dk κ s w ao a B k r br h aU;cases code with
  |region id ops d=>
   cases nm with
   |none=>
    cases d with
    |true=>simp [dq] at dk
    |false=>simp only[dq] at dk;simp only[exec] at aU;exact x8 eN bs hY dk h br aU (fun κ' s' w' eo fY he u cZ=>⟨.norm,κ',s',eo,.norm,he,u,cZ⟩) id
   |some nm=>
    cases nm with
    |cons x l=>simp [dq] at dk
    |nil=>
     cases d with
     |false=>simp [dq] at dk
     |true=>simp only[dq] at dk;simp only[exec,List.all_nil,bH] at aU;exact Bt eN bs hY hm dk h br aU (fun κ' s' w' eo fY he u cZ=>⟨.norm,κ',s',eo,.norm,he,u,cZ⟩) id
  |_=>cases nm<;> simp [dq] at dk
 |seq x y I J=>
  intro code rd ro A dk κ s w ao a B k r br h aU;cases code<;> simp only[dq,b4,bl] at dk;simp only[exec] at aU;refine wpIn_seq (wpIn_mono (I _ A dk.1 br h aU) fun e fY w' fz=>?_);obtain⟨z,κ',s',eo,g8,he,u,cZ⟩:=fz;cases g8 with
  |norm=>exact wpIn_mono (J _ A dk.2 br u cZ) fun e ab ac fz=>fz.trans he
  |exit i=>exact⟨.exit i,κ',s',eo,.exit i,he,u,cZ⟩
  |ret=>exact⟨.ret,κ',s',eo,.ret,he,u,cZ⟩
 |mask m x F=>
  intro code rd ro A dk κ s w ao a B k r br h aU;have ae:dq T fV rd x code=true:=by simpa only[dq] using dk
  simp only[exec] at aU;obtain⟨H,bN,K⟩:=qH aU;have af:fJ κ s w H.get a fV B E.au:=⟨h.iQ,fun t=>by
   rcases K t with q|q
   ·rw[q];exact h.ao t
   ·rw[q];exact .dead _,h.defers,h.size,h.au⟩
  exact F code A ae br af bN
 |cond c x y I J=>
  intro code rd ro A dk κ s w ao a B k r br h aU;cases code<;> simp only[dq,b4,bl] at dk;simp only[exec] at aU;have aY:=bu h.ao h.au dk.1.1;cases bM:aq E.au ao.get c<;> rw[bM] at aU aY<;> simp only at aU<;> first|exact absurd aU.symm br|skip
  rename_i b;cases b with
  |true=>exact wpIn_cond_true (dC.gY (b:=true) aY) (I _ A dk.1.2 br h aU)
  |false=>exact wpIn_cond_false (dC.gY (b:=false) aY) (J _ A dk.2 br h aU)
 |block id c F=>
  intro code rd ro A dk κ s w ao a B k r br h aU;cases code<;> simp only[dq,b4,bl] at dk;have e:=dh dk.1;subst e;simp only[exec] at aU;refine wpIn_block (wpIn_mono (F _ A dk.2 br h aU) fun e fY w' fz=>?_);obtain⟨z,κ',s',eo,g8,he,u,cZ⟩:=fz;cases g8 with
  |norm=>exact⟨.norm,κ',s',eo,.norm,he,u,cZ⟩
  |exit i=>
   simp only[Exit.inBlock];simp only[dy] at cZ;split
   ·rename_i bL;rw[bL,ft,bH] at cZ;exact⟨.norm,κ',s',eo,.norm,he,u,cZ⟩
   ·rename_i bL;rw[show Nat.beq i id=false from by cases ai:Nat.beq i id with
     |false=>rfl
     |true=>exact absurd (dh ai) bL,cond_false] at cZ
    exact⟨.exit i,κ',s',eo,.exit i,he,u,cZ⟩
  |ret=>exact⟨.ret,κ',s',eo,.ret,he,u,cZ⟩
 |loop bU c F=>
  intro code rd ro A dk κ s w ao a B k r br h aU;cases code<;> simp only[dq,b4] at dk;simp only[exec] at aU;have masked:∀{κ':bj} {s':ag} {w':World} {eo H:eO} {fY:Act},fJ κ' s' w' eo.get fY fV B E.au→(∀t,H.get t=eo.get t∨H.get t=.dead)→fJ κ' s' w' H.get fY fV B E.au:=fun u K=>⟨u.iQ,fun t=>by
   rcases K t with q|q
   ·rw[q];exact u.ao t
   ·rw[q];exact .dead _,u.defers,u.size,u.au⟩
  obtain⟨aj,Z,ak⟩:=qH aU;obtain⟨N,qk⟩:=hY.loop;rw[qk] at Z;refine pf (fun n fY w'=>∃κ' s' eo,fx κ s w κ' s' w'∧fJ κ' s' w' eo.get fY fV B E.au∧dS (exec E c) bU n eo s' k=r) (fun n fY w' al=>?_) ⟨κ,s,aj,.refl _ _ _,masked h ak,Z⟩;obtain⟨κ',s',eo,he,u,bN⟩:=al;cases n with
  |zero=>exact absurd bN.symm br
  |succ n=>
   simp only[dS] at bN;refine wpIn_mono (F _ A dk br u bN) fun e ab ac fz=>?_
   obtain⟨z,M,O,aa,g8,U,V,cZ⟩:=fz;cases g8 with
   |norm=>simp only[ew] at cZ;obtain⟨H,am,an⟩:=qH cZ;exact⟨n,Nat.lt_succ_self n,M,O,H,he.trans U,masked V an,am⟩
   |exit i=>exact⟨.exit i,M,O,aa,.exit i,he.trans U,V,cZ⟩
   |ret=>exact⟨.ret,M,O,aa,.ret,he.trans U,V,cZ⟩
 |exit id=>intro code rd ro A dk κ s w ao a B k r br h aU;cases code<;> simp only[dq,b4] at dk;have e:=dh dk;subst e;exact wpIn_exit ⟨.exit id,κ,s,ao,.exit id,.refl _ _ _,h,aU⟩
 |scope c F=>
  intro code rd ro A dk κ s w ao a B k r br h aU;cases code<;> simp only[dq,b4,bl,Bool.not_eq_true'] at dk;obtain⟨Y,dk⟩:=dk;obtain rfl:=A.2 Y;simp only[exec] at aU;refine wpIn_wide.2 (wp_scope_straight (wpIn_wide.1 (wpIn_mono (F _ A dk br h aU) fun e fY w' fz=>?_)));obtain⟨z,κ',s',eo,g8,he,u,cZ⟩:=fz;cases g8 with
  |norm=>exact⟨.norm,κ',s',eo,.norm,he,u,cZ⟩
  |exit i=>exact⟨.exit i,κ',s',eo,.exit i,he,u,cZ⟩
  |ret=>exact⟨.ret,κ',s',eo,.ret,he,u,cZ⟩
 |range j f g p x y I J=>intro code rd ro A dk κ s w ao a B k r br h aU;cases code<;> simp only[dq,b4,bl,Bool.not_eq_true'] at dk;obtain⟨⟨⟨⟨⟨Y,ar⟩,av⟩,bV⟩,dD⟩,ap⟩:=dk;obtain rfl:=A.2 Y;exact zD (eN.Ex _ _ ar) av bV (fun l=>I _ (by simp) dD) (fun l=>J _ (by simp) ap) br h aU
 |ret=>intro code rd ro A dk κ s w ao a B k r br h aU;cases code<;> simp only[dq,b4] at dk;exact wpIn_ret ⟨.ret,κ,s,ao,.ret,.refl _ _ _,h,aU⟩
end
def jm(r:ah):Prop:=∀v s,r≠.panic v s
theorem jm.bind{r:ah}{k kp:ae→ag→ah}(ar:∀v s,jm (k v s))(av:∀v s,jm (kp v s)):jm (ah.bind r k kp):=by
 cases r with
 |fail=>intro v s h;cases h
 |ok v s=>exact ar v s
 |panic v s=>exact av v s
theorem jm.fail:jm .fail:=fun _ _ h=>by cases h
theorem jm.i9:∀(d n:Nat) (v:ae) (k:eO→ah) (ao:eO),(∀ao,jm (k ao))→jm (eO.i9 d n v k ao)
 |0,n,v,k,ao,h=>jm.fail
 |d+1,n,v,k,.e,h=>by
  simp only[eO.i9];cases Nat.beq n 0
  ·cases Nat.beq (n%2) 1
   ·exact jm.i9 d _ v _ _ (fun _=>h _)
   ·exact jm.i9 d _ v _ _ (fun _=>h _)
  ·exact h _
 |d+1,n,v,k,.n l x r,h=>by
  simp only[eO.i9];cases Nat.beq n 0
  ·cases Nat.beq (n%2) 1
   ·exact jm.i9 d _ v _ _ (fun _=>h _)
   ·exact jm.i9 d _ v _ _ (fun _=>h _)
  ·exact h _
theorem jm.jc{ao:eO}{d:Option Nat}{v:ae}{k:eO→ah}(h:∀ao,jm (k ao)):jm (jc ao d v k):=by
 cases d with
 |none=>exact h ao
 |some n=>exact jm.i9 12 n v k ao h
theorem jm.fw{E:Env}(bs:E.F=.not):∀(r:List cS) {ao:eO} {s:ag} {fin:eO→ag→ah} {e:ae→eO→ag→ah},(∀ao s,jm (fin ao s))→(∀v ao s,jm (e v ao s))→jm (fw E r ao s fin e)
 |[],_,_,_,_,h,_=>h _ _
 |o::os,ao,s,fin,e,h,fz=>by
  simp only[Ab.fw];have key:∀w:Bool,jm (bif w then aM E ao.get s (fun v s=>Ab.jc ao o.dst v fun ao=>Ab.fw E os ao s fin e) (fun v s=>e v ao s) o.op else Ab.jc ao o.dst (.d0 []) fun ao=>Ab.fw E os ao s fin e):=fun w=>by
   cases w with
   |false=>exact jm.jc (fun ao=>jm.fw bs os h fz)
   |true=>simp only[bH];rw[jw bs];exact jm.bind (fun v s=>jm.jc (fun ao=>jm.fw bs os h fz)) (fun v s=>fz _ _ _)
  unfold mr;split
  ·exact key _
  ·split
   ·exact key _
   ·exact key _
   ·exact jm.fail
theorem jm.fI{step:ae→ag→(oU→ag→ah)→ah}{ht:ag}{dI:List ae}(h:∀x s k,(∀e s,jm (k e s))→jm (step x s k)):∀(xs:List ae) {s:ag} {k:oU→ag→ah},(∀e s,jm (k e s))→jm (Ab.fI step ht dI xs s k)
 |[],_,_,cZ=>cZ _ _
 |x::xs,s,k,cZ=>h x s _ fun e s=>by
  cases e with
  |norm=>
   simp only;cases dI.all (ff ht s) with
   |true=>exact jm.fI h xs cZ
   |false=>exact jm.fail
  |_=>exact cZ _ _
theorem jm.exec{E:Env}(bs:E.F=.not)(A:∃n,∀step bU ao s k,E.loop step bU ao s k=dS step bU n ao s k):∀(c:ad) {ao:eO} {s:ag} {k:oU→eO→ag→ah},(∀x ao s,jm (k x ao s))→jm (exec E c ao s k):=by
 intro c
 induction c with
 |skip=>exact fun h=>h _ _ _
 |region nm ops=>
  intro ao s k h;cases nm with
  |none=>exact jm.fw bs ops (fun _ _=>h _ _ _) (fun _ _ _=>jm.fail)
  |some nm=>
   simp only[Ab.exec];cases nm.all (qX E.au ao.get)
   ·exact jm.fail
   ·exact jm.fw bs ops (fun _ _=>h _ _ _) (fun _ _ _=>jm.fail)
 |seq a b u y=>
  intro ao s k h;simp only[Ab.exec];refine u fun x ao s=>?_
  cases x with
  |norm=>exact y h
  |_=>exact h _ _ _
 |mask m a r=>intro ao s k h;simp only[Ab.exec];obtain⟨eo,e,_⟩:=hR m (fun ao=>Ab.exec E a ao s k) ao;rw[e];exact r h
 |cond c a b u y=>
  intro ao s k h;simp only[Ab.exec];split
  ·rename_i t _;cases t
   ·exact y h
   ·exact u h
  ·exact jm.fail
 |block id c r=>
  intro ao s k h;simp only[Ab.exec];refine r fun x ao s=>?_
  cases x with
  |exit j=>simp only[dy];cases Nat.beq j id<;> exact h _ _ _
  |_=>exact h _ _ _
 |loop bU c r=>
  intro ao s k h;simp only[Ab.exec];obtain⟨n,dm⟩:=A;obtain⟨eo,e,a5⟩:=hR bU (fun ao=>E.loop (Ab.exec E c) bU ao s k) ao;rw[e];simp only[dm];clear dm e a5
  induction n generalizing eo s with
  |zero=>exact jm.fail
  |succ n B=>
   simp only[dS];refine r fun x ao s=>?_
   cases x with
   |norm=>simp only[ew];obtain⟨eo,e,_⟩:=hR bU (fun ao=>dS (Ab.exec E c) bU n ao s k) ao;rw[e];exact B (s:=s) (eo:=eo)
   |_=>exact h _ _ _
 |exit id=>exact fun h=>h _ _ _
 |scope c r=>intro ao s k h;simp only[Ab.exec];exact r h
 |ret=>exact fun h=>h _ _ _
 |range j f g p a b u y=>
  intro ao s k h;simp only[Ab.exec];unfold lS;split
  ·cases Nat.beq _ _ with
   |false=>exact jm.fail
   |true=>
    simp only[bH];split
    ·exact jm.fI (fun x s lN cZ=>jm.jc fun ao=>u fun x ao s=>by
      cases x with
      |norm=>exact y (fun _ _ _=>cZ _ _)
      |_=>exact jm.fail) _ (fun _ _=>h _ _ _)
    ·exact jm.fail
  ·exact jm.fail
theorem jm.bI:∀(vs:List ae) (i:Nat) (ao:eO) (k:eO→ah),(∀ao,jm (k ao))→jm (bI vs i ao k)
 |[],_,ao,_,h=>h ao
 |v::vs,i,ao,k,h=>jm.i9 12 i v _ ao (fun ao=>jm.bI vs (i+1) ao k h)
theorem jm.finish{fn:c4}{ao:eO}{s:ag}:jm (finish .not fn ao s):=by
 intro v s' h;simp only[Ab.finish,aX.not] at h;split at h
 ·split at h
  ·cases h
  ·split at h
   ·split at h<;> cases h
   ·cases h
 ·cases h
theorem jm.call{T:Nat→Option c4}{G:Nat→ae}{X:Nat→List ae→ag→ah}(kL:∀f args s,jm (X f args s)):∀(n f:Nat) (args:List ae) (s:ag),jm (call .not T G X n f args s)
 |0,_,_,_=>jm.fail
 |n+1,f,args,s=>by
  simp only[Ab.call];split
  ·exact kL _ _ _
  ·cases Nat.beq _ _
   ·exact jm.fail
   ·refine jm.bI _ _ _ _ fun ao=>jm.exec rfl ⟨_,fun _ _ _ _ _=>rfl⟩ _ fun x ao s=>?_
    cases x with
    |norm=>exact jm.finish
    |ret=>exact jm.finish
    |_=>exact jm.fail
theorem oj{k:eO→ah}{r:ah}(br:r≠.fail):∀(vs:List ae) (i:Nat) (ao:eO),bI vs i ao k=r→∃eo,k eo=r∧∀t,eo.get t=if i≤t∧t<i+vs.length then vs.getD (t-i) .dead else ao.get t
 |[],i,ao,h=>⟨ao,h,fun t=>by rw[if_neg (by rw[cB];omega)]⟩
 |v::vs,i,ao,h=>by
  obtain⟨A,ar,av⟩:=kh 12 i v _ ao r h br;obtain⟨eo,bV,dD⟩:=oj br vs (i+1) A ar;refine⟨eo,bV,fun t=>?_⟩;rw[dD t];by_cases ed:t=i
  ·subst ed;rw[if_neg (by omega),av,if_pos rfl,if_pos (by simp)];simp
  ·by_cases aY:i+1≤t∧t<i+1+vs.length
   ·rw[if_pos aY,if_pos (by simp;omega),show t-i=(t-(i+1))+1 by omega];simp
   ·rw[if_neg aY,av,if_neg ed,if_neg (by simp;omega)]
theorem kY{α β:Type}{f:α→Option β}:∀{xs:List α} {e:List β},fl f xs=some e→e.length=xs.length∧∀(j:Nat) (y:β),e[j]? =some y→∃x,xs[j]? =some x∧f x=some y
 |[],e,h=>by simp only[fl,bm] at h;subst h;exact⟨rfl,fun j y cX=>by simp at cX⟩
 |x::xs,e,h=>by
  simp only[fl] at h;cases a5:f x with
  |none=>rw[a5] at h;cases h
  |some y=>
   rw[a5] at h;simp only[fF] at h;cases hm:fl f xs with
   |none=>rw[hm] at h;cases h
   |some l=>
    rw[hm] at h;simp only[ej,bm] at h;subst h;obtain⟨ar,av⟩:=kY hm;refine⟨by simp [ar],fun j z cX=>?_⟩;cases j with
    |zero=>simp at cX;subst cX;exact⟨x,rfl,a5⟩
    |succ j=>simpa using av j z (by simpa using cX)
theorem pg{P:Program}{w:World}{α β:Type}(f:α→Sem β):∀(e:List α) (xs:List β),xs.length=e.length→(∀(j:Nat) (r:α) (x:β),e[j]? =some r→xs[j]? =some x→(f r).run P w=.ok x w)→(e.mapM f).run P w=.ok xs w
 |[],[],_,_=>by simp
 |[],_::_,h,_=>by simp at h
 |_::_,[],h,_=>by simp at h
 |r::e,x::xs,h,cX=>by have ar:=cX 0 r x rfl rfl;have av:=pg f e xs (by simpa using h) (fun j r x aU a5=>cX (j+1) r x (by simpa using aU) (by simpa using a5));simp [List.mapM_cons,ar,av]
section
variable{P:Program}{κ:bj}{s:ag}{w:World}
theorem c5.gx(a7:c5 κ s w):∀n,n≤s.own.length→∃κ' s',c5 κ' s' w∧fx κ s w κ' s' w∧s'.up=s.up∧s'.ro=s.ro∧s'.own.length=s.own.length∧(∀i,n≤i→s'.own[i]? =s.own[i]?)∧κ'.loc=κ.loc∧
  ∀i cs,i<n→s.own[i]? =some (.cells cs)→∃C:Array Value,(∀j (h:j<C.size),κ'.F ⟨κ.loc s.aa i,j,none⟩=some C[j])∧eu κ' (s.aa+1) cs (C.toList.take cs.length)
 |0,_=>⟨κ,s,a7,.refl _ _ _,rfl,rfl,rfl,fun _ _=>rfl,rfl,fun i cs h=>absurd h (Nat.not_lt_zero i)⟩
 |n+1,dm=>by
  obtain⟨κ',s',ar,av,bV,dD,J,A,B,K⟩:=a7.gx n (by omega);have cP:s'.aa=s.aa:=av.aa;by_cases aY:∃cs,s.own[n]? =some (.cells cs)
  ·obtain⟨cs,M⟩:=aY;have cb:s'.get (.g s'.aa n)=some (.cells cs):=by
    simp only[ag.get,↓reduceIte];rw[A n (aD _),M]
   obtain⟨C,e,jG,O,H,lz,u⟩:=ar.u1 (s':={s' with own:=s'.own.set n .gone}) cb (by simp [ag.set]);refine⟨_,_,lz,av.trans u,bV,dD,by simp [J],fun i bL=>?_,B,fun i y bL r=>?_⟩
   ·simp only;rw[lL (by omega),A i (by omega)]
   ·by_cases I:i=n
    ·subst I;rw[M] at r;simp only[bm,cU.cells.injEq] at r;subst r;refine⟨C,fun j cX=>?_,?_⟩
     ·rw[←B,←cP];exact n9 (Nat.zero_le _) cX
     ·rw[cP] at H;exact⟨H.1,fun j c x aY a5=>(H.2 j c x aY a5).mono (u.k.low (by omega))⟩
    ·obtain⟨N,pY,q6⟩:=K i y (by omega) r;exact⟨N,fun j cX=>u.k.F _ _ (pY j cX),q6.1,fun j c x aY a5=>(q6.2 j c x aY a5).mono (u.k.low (by omega))⟩
  ·refine⟨κ',s',ar,av,bV,dD,J,fun i bL=>A i (by omega),B,fun i y bL r=>?_⟩;by_cases I:i=n
   ·subst I;exact absurd ⟨y,r⟩ aY
   ·exact K i y (by omega) r
theorem x9{D off len cap sz b:Nat}{cs:List ae}{C:Array Value}(h7:∀j (h:j<C.size),κ.F ⟨b,j,none⟩=some C[j])(bM:eu κ D cs (C.toList.take cs.length)){lU:Nat}(ub:len≤lU)(sR:len=cap→lU=cap)(ar:ae.aZ (chunk sz len (cs.drop off))=true)(av:off+len*sz≤cs.length)(g8:sz≠0)(u:Nat):
  dC κ u (.bW sz (chunk sz len (cs.drop off)) (if len=cap then .exact else .any)) (.slice (some ⟨b,off,none⟩) len lU):=by
 obtain⟨A,B⟩:=kz sz g8 len (cs.drop off) (by simp;omega);have bN:cs.length≤C.size:=by have:=bM.1;simp at this;omega
 have key:dC κ D (.bW sz (chunk sz len (cs.drop off)) (if len=cap then eZ.exact else eZ.any)) (.slice (some ⟨b,off,none⟩) (chunk sz len (cs.drop off)).length lU):=by
  refine .bW sz _ _ _ _ (fun j=>C.getD (off+j) undef) ?_ (by rw[fs];exact ub) (fun _=>rfl) B (.inl fun e he=>ef.1 ar e he) (fun j cX=>?_) (fun j c aY=>?_)
  ·by_cases h:len=cap
   ·simp [h,iF,fs,sR h]
   ·simp [h,iF]
  ·rw[A] at cX;simp at cX;have r:off+j<C.size:=by omega
   rw[f6 rfl];show κ.F ⟨b,off+j,none⟩=_;rw[h7 _ r];simp [Array.getD,r]
  ·rw[A,List.getElem?_take] at aY;split at aY
   ·rw[List.getElem?_drop] at aY;obtain⟨y,eM,H⟩:=bM.get aY;have r:off+j<cs.length:=(ec.1 aY).1
    have:C.getD (off+j) undef=y:=by
     rw[List.getElem?_take,if_pos r] at eM;have I:C[off+j]? =some y:=by simpa using eM
     simp [Array.getD_eq_getD_getElem?,I]
    rw[this];exact H
   ·cases aY
 rw[fs] at key;refine key.bc ?_ u (fun _ _ h=>h);split<;> rfl
theorem kB{κ':bj}(cZ:gV κ κ' (s.aa+1))(M:∀i cs,s.own[i]? =some (.cells cs)→∃C:Array Value,(∀j (h:j<C.size),κ'.F ⟨κ.loc s.aa i,j,none⟩=some C[j])∧eu κ' (s.aa+1) cs (C.toList.take cs.length)){v fL:ae}{x:Value}(bM:dC κ (s.aa+1) (v.ap s.aa) x)(h:gu s v=some fL):dC κ' s.aa fL x:=by
 have own:∀{i off len cap sz:Nat},dC κ (s.aa+1) (.cO (.g s.aa i) off len cap sz) x→gx s i off len cap sz=some fL→dC κ' s.aa fL x:=fun {i off len cap sz} bM h=>by
  obtain⟨lU,e,cP,bL,ub,vj⟩:=bM.jW;unfold Ab.gx at h;split at h
  ·rename_i cs N;simp only at h;split at h
   ·rename_i y;simp only[bl,Bool.not_eq_true'] at y;simp only[bm] at h;subst h;obtain⟨C,pY,q6⟩:=M i cs N;rw[e];exact x9 pY q6 ub (fun h=>by rcases vj with ar|⟨ar,av,_⟩<;> omega) y.1.1 (dW y.1.2) (fun eS=>by rw[eS] at y;simp at y) _
   ·cases h
  ·cases h
 have any:∀{sz:Nat} {es:List ae} {l:Loc},ae.aZ es=true→dC κ (s.aa+1) (ae.ap s.aa (.bW sz es (.dx l))) x→dC κ' s.aa (.bW sz es .any) x:=fun {sz es l} A bM=>by
  have K:=ef.1 A;simp only[ae.ap] at bM;rcases bM.hE with⟨_,av,_⟩|⟨a,cap,dt,rfl,cb,dm,I,dD,u,J,B⟩
  ·simp [eZ.ap] at av
  ·refine .bW _ _ _ _ _ dt trivial dm I dD (.inl K) (fun j cX=>cZ.F _ _ (J j cX)) (fun j c aY=>(B j c aY).bc ?_ _ cZ.F);obtain⟨e,he,H⟩:=List.mem_flatMap.1 (List.mem_of_getElem? aY);exact h8 (K e he) H
 unfold gu at h;split at h
 ·exact own bM h
 ·split at h
  ·rename_i cP;subst cP;exact own bM h
  ·split at h
   ·rename_i r;simp only[bm] at h;subst h;obtain⟨lU,e,cP,bL,ub,vj⟩:=dC.jW bM;rw[e,←cZ.loc _ _ cP bL];exact .cO _ _ _ _ _ _ _ r (gd bL (cZ.n _ cP)) ub (vj.imp id fun⟨ar,av,bV,dD⟩=>⟨ar,av,bV,by rw[cZ.loc _ _ cP bL];exact cZ.lC _ _ _ _ cP bL dD⟩)
   ·cases h
 ·split at h
  ·rename_i r;simp only[bm] at h;subst h;obtain⟨e,cP,bL⟩:=dC.mC bM;rw[e,←cZ.loc _ _ cP bL];exact .ref _ _ _ r (gd bL (cZ.n _ cP))
  ·cases h
 ·split at h
  ·rename_i A;simp only[bm] at h;subst h;exact any A bM
  ·cases h
 ·split at h
  ·rename_i r;simp only[bm] at h;subst h;have bM:dC κ (s.aa+1) (.bW _ _ (.dx (.g _ _))) x:=bM;rcases bM.hE with⟨_,av,_⟩|⟨a,cap,dt,rfl,cb,dm,I,dD,u,J,B⟩
   ·cases av
   ·refine .bW _ _ _ _ _ dt ⟨r,(cb.mono cZ).2⟩ dm I dD u (fun j cX=>cZ.F _ _ (J j cX)) (fun j c aY=>?_);obtain⟨e,he,H⟩:=List.mem_flatMap.1 (List.mem_of_getElem? aY);rcases u with u|⟨fQ,hF,hX,u⟩
    ·exact(B j c aY).bc (h8 (u e he) H) _ cZ.F
    ·cases hX;exact(((B j c aY).mono cZ).lower (uY (u e he) H)).up r
  ·split at h
   ·rename_i A;simp only[bm] at h;subst h;exact any A bM
   ·cases h
 ·split at h
  ·rename_i r;simp only[bm] at h;subst h;have bM:dC κ (s.aa+1) (.map (.g _ _)) x:=bM;cases bM;rename_i cP bL;rw[←cZ.loc _ _ cP bL];exact .map _ _ r (gd bL (cZ.n _ cP))
  ·cases h
 ·split at h
  ·rename_i aU;simp only[bm] at h;subst h;have bM:dC κ (s.aa+1) (.fn _ _) x:=bM;exact bM.bc (by simpa [ae.bc] using aU) _ cZ.F
  ·split at h
   ·rename_i aU;simp only[bl,Nat.blt_eq] at aU;simp only[bm] at h;subst h;have bM:dC κ (s.aa+1) (.fn _ _) x:=bM
    have:=((bM.mono cZ).lower (d:=s.aa-1) (by simpa [ae.low] using aU.2));rw[show s.aa-1+1=s.aa by omega] at this;exact this
   ·cases h
 ·split at h
  ·rename_i aU;simp only[bm] at h;subst h;rw[ju aU] at bM;exact bM.bc aU _ cZ.F
  ·cases h
theorem rF{α β:Type}{f:α→Option β}:∀{l m:List α} {l' jv:List β},fl f l=some l'→fl f m=some jv→fl f (l++m)=some (l'++jv)
 |[],m,l',jv,h,e=>by simp only[fl,bm] at h;subst h;exact e
 |x::l,m,l',jv,h,e=>by
  simp only[fl] at h;cases a5:f x with
  |none=>rw[a5] at h;cases h
  |some y=>
   rw[a5,fF] at h;cases bN:fl f l with
   |none=>rw[bN] at h;cases h
   |some r=>rw[bN] at h;simp only[ej,bm] at h;subst h;simp only[List.cons_append,fl,a5,fF,rF bN e,ej]
theorem vD{v fL:ae}(h:gu s v=some fL)(bM:v.cells=[v]):fL.cells=[fL]:=by
 have ao:∀{i off len cap sz:Nat},gx s i off len cap sz=some fL→fL.cells=[fL]:=fun {i off len cap sz} h=>by
  unfold Ab.gx at h;split at h
  ·simp only at h;split at h
   ·simp only[bm] at h;subst h;rfl
   ·cases h
  ·cases h
 unfold gu at h;split at h
 ·exact ao h
 ·split at h
  ·exact ao h
  ·split at h
   ·simp only[bm] at h;subst h;rfl
   ·cases h
 ·split at h
  ·simp only[bm] at h;subst h;rfl
  ·cases h
 ·split at h
  ·simp only[bm] at h;subst h;rfl
  ·cases h
 ·split at h
  ·simp only[bm] at h;subst h;rfl
  ·split at h
   ·simp only[bm] at h;subst h;rfl
   ·cases h
 ·split at h
  ·simp only[bm] at h;subst h;rfl
  ·cases h
 ·split at h
  ·simp only[bm] at h;subst h;rfl
  ·split at h
   ·simp only[bm] at h;subst h;rfl
   ·cases h
 ·split at h
  ·simp only[bm] at h;subst h;exact bM
  ·cases h
theorem ph{e hX:ae}(h:nE s e=some hX):fl (gu s) e.cells=some hX.cells:=by
 unfold nE at h;split at h
 ·rename_i cs;obtain⟨l,ar,av⟩:=Option.map_eq_some_iff.1 h;subst av;exact ar
 ·rename_i dm;have aY:e.cells=[e]:=by
   cases e<;> first|rfl |exact absurd rfl (dm _)
  rw[aY,vD h aY];simp only[fl,h,fF,ej]
theorem oR:∀{es r:List ae},fl (nE s) es=some r→fl (gu s) (es.flatMap ae.cells)=some (r.flatMap ae.cells)
 |[],r,h=>by simp only[fl,bm] at h;subst h;rfl
 |e::es,r,h=>by
  simp only[fl] at h;cases he:nE s e with
  |none=>rw[he] at h;cases h
  |some hX=>
   rw[he,fF] at h;cases bN:fl (nE s) es with
   |none=>rw[bN] at h;cases h
   |some l=>rw[bN] at h;simp only[ej,bm] at h;subst h;simp only[List.flatMap_cons];exact rF (ph he) (oR bN)
theorem pi{κ':bj}(cZ:gV κ κ' (s.aa+1))(r:∀i cs,s.own[i]? =some (.cells cs)→∃C:Array Value,(∀j (h:j<C.size),κ'.F ⟨κ.loc s.aa i,j,none⟩=some C[j])∧eu κ' (s.aa+1) cs (C.toList.take cs.length)){v fL:ae}{x:Value}(bM:dC κ (s.aa+1) (v.ap s.aa) x)(h:eC s v=some fL):dC κ' s.aa fL x:=by
 have A:∀{sz:Nat} {es:List ae} {l:Loc},v=.bW sz es (.dx l)→(ae.aZ es=true→gu s v=some (.bW sz es .any))→jU s sz es=some fL→dC κ' s.aa fL x:=fun {sz es l} B eS h=>by
  unfold jU at h;split at h
  ·rename_i aU;simp only[bm] at h;subst h;exact kB cZ r bM (eS aU)
  ·obtain⟨H,ar,av⟩:=Option.bind_eq_some_iff.1 h;split at av
   ·rename_i aU;simp only[bm] at av;subst av;subst B;simp only[ae.ap] at bM;rcases bM.hE with⟨_,bV,_⟩|⟨a,cap,dt,rfl,cb,dm,I,dD,Z,J,K⟩
    ·simp [eZ.ap] at bV
    ·have hm:=oR ar;obtain⟨dH,M⟩:=kY ar;obtain⟨N,O⟩:=kY hm;rw[←dH];refine .bW sz H .any a cap dt trivial (by rw[dH];exact dm) (fun eR=>I (fun eS=>eR (jE (by rw[dH,eS];rfl)))) (fun e he=>?_) (.inl fun e he=>ef.1 aU e he) (fun j cX=>cZ.F _ _ (J j (by rw[←N];exact cX))) (fun j c aY=>?_)
     ·obtain⟨j,cX⟩:=List.getElem?_of_mem he;obtain⟨ma,U,u⟩:=M j e cX
      have:=ph u;rw[(kY this).1];exact dD ma (List.mem_of_getElem? U)
     ·obtain⟨V,Y,u⟩:=O j c aY
      have:=K j V Y;exact kB cZ r (by rw[this.lc];exact this) u
   ·cases av
 unfold eC at h;split at h
 ·rename_i sz es i;exact A rfl (fun aU=>by simp only[gu,aU,↓reduceIte]) h
 ·rename_i sz es d i;split at h
  ·rename_i y;exact kB cZ r bM (by simp only[gu,y,↓reduceIte];exact h)
  ·rename_i y;exact A rfl (fun aU=>by simp only[gu,y,aU,↓reduceIte]) h
 ·exact kB cZ r bM h
theorem ya{κ':bj}(cZ:gV κ κ' (s.aa+1))(e:∀i cs,s.own[i]? =some (.cells cs)→∃C:Array Value,(∀j (h:j<C.size),κ'.F ⟨κ.loc s.aa i,j,none⟩=some C[j])∧eu κ' (s.aa+1) cs (C.toList.take cs.length)){v fL:ae}{x:Value}(bM:dC κ (s.aa+1) (v.ap s.aa) x)(h:freeze s v=some fL):dC κ' s.aa fL x:=by
 unfold freeze at h;split at h
 ·rename_i cs;cases hm:fl (eC s) cs with
  |none=>rw[hm] at h;cases h
  |some l=>
   rw[hm] at h;simp only[ej,bm] at h;subst h;obtain⟨xs,rfl,bN,a5⟩:=dC.mB (cs:=cs) bM;obtain⟨ar,av⟩:=kY hm;refine .agg l xs (by rw[bN,ar]) (fun j c y aY eM=>?_);obtain⟨r,u,A⟩:=av j c aY
   have:=a5 j r y u eM;exact pi cZ e (by rw[this.lc];exact this) A
 ·exact pi cZ e bM h
def qI(T:kN):te→ResultVar→Bool
 |.t n,.tmp m=>Nat.beq n m
 |.cell a n,.cell b ty=>Nat.beq a b&&T.load ty n
 |_,_=>false
def l1(T:kN):List te→List ResultVar→Bool
 |[],[]=>true
 |a::as,b::e8=>qI T a b&&l1 T as e8
 |_,_=>false
theorem ql{T:kN}:∀{as:List te} {e8:List ResultVar},l1 T as e8=true→as.length=e8.length∧∀(j:Nat) (a:te) (b:ResultVar),as[j]? =some a→e8[j]? =some b→qI T a b=true
 |[],[],_=>⟨rfl,fun j a b h=>by simp at h⟩
 |[],_::_,h=>by simp [l1] at h
 |_::_,[],h=>by simp [l1] at h
 |a::as,b::e8,h=>by
  simp only[l1,bl] at h;obtain⟨ar,av⟩:=ql h.2;refine⟨by simp [ar],fun j fY u e r=>?_⟩;cases j with
  |zero=>simp at e r;subst e;subst r;exact h.1
  |succ j=>exact av j fY u (by simpa using e) (by simpa using r)
theorem EG{T:kN}(eN:T.pQ P){fV:Nat}{B:Nat}{G:Nat→ae}{ao:eO}{a:Act}(h:fJ κ s w ao.get a fV B G){r:te}{b:ResultVar}(dk:qI T r b=true){v:ae}(bM:qY ao s r=some v):
  ∃x,(∀f:ResultVar→Sem Value,(∀t,f (.tmp t)=Pure.pure (a.tmps.getD t undef))→(∀t ty,f (.cell t ty)=(do loadVar ty (←asAddr (a.tmps.getD t undef)):Sem Value))→(f b).run P w=.ok x w)∧dC κ (s.aa+1) (v.ap s.aa) x:=by
 cases r with
 |t n=>
  cases b with
  |cell t ty=>simp [qI] at dk
  |tmp m=>
   simp only[qI] at dk
   have:=dh dk;subst this;simp only[qY,bm] at bM;subst bM;exact⟨_,fun f ar _=>by rw[ar];simp,h.ao n⟩
 |cell t n=>
  cases b with
  |tmp m=>simp [qI] at dk
  |cell m ty=>
   simp only[qI,bl] at dk
   have:=dh dk.1;subst this;have a5:=h.ao t;simp only[qY] at bM;split at bM
   ·rename_i Sh off H;rw[H] at a5;simp only[ae.ap] at a5;rw[←ag.hO] at bM;cases fz:Sh.ap s.aa with
    |l i=>cases Sh<;> simp [Loc.ap] at fz
    |g d i=>
     rw[fz] at a5 bM;obtain⟨e,cP,bL⟩:=a5.mC;have key:∀cs,s.get (.g d i)=some (.cells cs)→eU {F:=.not,au:=G,call:=fun _ _ _=>.fail,loop:=fun _ _ _ _ _=>.fail} s .ok n (cs.drop off)=.ok v s→∃x,(∀f:ResultVar→Sem Value,(∀t,f (.tmp t)=Pure.pure (a.tmps.getD t undef))→(∀t ty,f (.cell t ty)=(do loadVar ty (←asAddr (a.tmps.getD t undef)):Sem Value))→(f (.cell t ty)).run P w=.ok x w)∧dC κ (s.aa+1) (v.ap s.aa) x:=fun cs cb bN=>by obtain⟨v1,x,u,I,y⟩:=sO (P:=P) (sL (ob h.iQ cb off) (show d+1≤s.aa+1 by omega)) (eN.load dk.2) rfl bN (by simp);simp only[ah.ok.injEq] at u;obtain⟨rfl,_⟩:=u;refine⟨x,fun f _ av=>?_,by rw[y.lc];exact y⟩;rw[av,e];simp [asAddr,I]
     split at bM
     ·rename_i cs cb;refine key cs cb ?_;simp only[eU,aX.not];cases A:cs.drop off with
      |nil=>
       have:(cs.drop off)[0]? =some v:=by rw[List.getElem?_drop];simpa using bM
       rw[A] at this;cases this
      |cons c l=>
       have:(cs.drop off)[0]? =some v:=by rw[List.getElem?_drop];simpa using bM
       rw[A] at this;simp only[List.getElem?_cons_zero,bm] at this;subst this;rfl
     ·rename_i cs m cb;split at bM
      ·rename_i hle;simp only[bm] at bM;subst bM;refine key cs cb ?_
       have:=dW hle;have J:Nat.ble m (cs.drop off).length=true:=by rw[Nat.ble_eq];simp;omega
       simp only[eU,aX.not,J,bH]
      ·cases bM
     ·cases bM
   ·cases bM
end
def vE(T:kN)(e:c4)(fn:Func):Bool:=
 match fn.body with
 |some c=> !(fn.name== "runtime.NumGoroutine")&&Nat.beq e.fV fn.ntmps&&Nat.ble e.aek fn.ntmps&&l1 T e.results fn.results.toList&&dq T e.fV false e.body c
 |none=>false
def EH(P:Program)(T:kN)(rG:Nat→Option c4):Prop:=∀f e,rG f=some e→∃fn,P.funcs[f]? =some fn∧vE T e fn=true
structure Zv (P:Program) (rG:Nat→Option c4) (G:Nat→ae) (X:Nat→List ae→ag→ah):Prop where
 nM:∀f args s,jm (X f args s)
 ok:∀f args s v s' κ w xs,rG f=none→X f args s=.ok v s'→c5 κ s w→ko κ G→eu κ (s.aa+1) args xs→
  (∃x w',(callFunc f xs.toArray).run P w=.ok (.value x) w'∧mD κ s w v s' x w')∨
  ((callFunc f xs.toArray).run P w=.ok (.enter f xs.toArray) w∧Calls P f xs.toArray w fun e w'=>∃x,e=.returned x∧mD κ s w v s' x w')
structure Hz (oP:List Nat) (w w':World):Prop where
 size:w'.heap.size=w.heap.size
 os:w'.os=w.os
 tape:w'.tape=w.tape
 output:w'.output=w.output
 same:∀b,b ∉ oP→w'.heap[b]? =w.heap[b]?
theorem kZ{P:Program}{fn:Func}{tmps:Array Value}{R:Ending→World→Prop}:∀(oP:List Nat) (w:World),oP.Nodup→(∀D,D∈oP→w.heap[D]? =some (.deferred (some [])))→(∀w',Hz oP w w'→∃y,(results fn tmps).run P w'=.ok y w'∧R (.returned y) w')→
  LeavesInM Fence.wide 0 P fn tmps R (oP.map fun D=>{target:=.collected D,args:= #[]}) .returning w
 |[],w,_,_,h=>by obtain⟨y,ar,av⟩:=h w ⟨rfl,rfl,rfl,rfl,fun _ _=>rfl⟩;exact⟨y,ar,av⟩
 |D::oP,w,dm,cP,h=>by
  obtain⟨A,B⟩:=List.nodup_cons.1 dm;have F:=cP D List.mem_cons_self;refine⟨by simp,.inl ⟨D,_,rfl,run_takeDeferred F,kZ oP _ B (fun H r=>?_) (fun w' hw=>h w' ?_)⟩⟩
  ·rw[World.putObj_heap_other (fun e=>by subst e;exact A r)];exact cP H (List.mem_cons_of_mem _ r)
  ·refine⟨hw.size.trans World.putObj_size,hw.os,hw.tape,hw.output,fun b u=>?_⟩;rw[hw.same b (fun hm=>u (List.mem_cons_of_mem _ hm)),World.putObj_heap_other (fun e=>by subst e;exact u List.mem_cons_self)]
theorem fJ.shut{κ:bj}{s:ag}{w w':World}{g:Nat→ae}{a:Act}{fV B:Nat}{G:Nat→ae}(h:fJ κ s w g a fV B G){oP:List Nat}(r:∀D,D∈oP→w.heap[D]? =some (.deferred (some [])))(hw:Hz oP w w'):fJ κ s w' g {a with defers:=[]} fV 0 G:=
 ⟨h.iQ.heap fun b o ar av=>by rw[hw.same b,ar];intro hm;rw[r b hm] at ar;cases ar;rcases av with⟨C,e,jG,av⟩|⟨fm,clock,av⟩<;> (cases av),h.ao,Marks.nil (Nat.zero_le _),h.size,h.au⟩
theorem fx.shut{κ κ':bj}{s s':ag}{w w' e:World}(h:fx κ s w κ' s' w'){oP:List Nat}(r:∀D,D∈oP→w.heap.size≤D)(hw:Hz oP w' e):fx κ s w κ' s' e:=
 ⟨h.k,h.aa,by rw[hw.size];exact h.size,hw.os.trans h.os,hw.tape.trans h.tape,hw.output.trans h.output,fun b u bN=>by rw[hw.same b (fun hm=>by have:=r b hm;omega)];exact h.kS b u bN,h.live,h.o4⟩
theorem pj{P:Program}{f:FuncId}{fn:Func}{c:Code}{args:Array Value}{w:World}{R:Ending→World→Prop}{κ:bj}{s:ag}{fV:Nat}{G:Nat→ae}{k:oU→eO→ag→ah}{r:ah}(br:P.funcs[f]? =some fn)(A:fn.body=some c)
  (h:c.wpIn (xM none) 0 P (ki κ s w fV w.heap.size G k r) {tmps:=args++Array.replicate (fn.ntmps-args.size) undef,defers:=[]} w)
  (B:∀(x:oU) (κ':bj) (s':ag) (eo:eO) (fY:Act) (w':World),fx κ s w κ' s' w'→fJ κ' s' w' eo.get fY fV 0 G→k x eo s'=r→(x=.norm∨x=.ret)∧∃y,(results fn fY.tmps).run P w'=.ok y w'∧R (.returned y) w')
  (kL:∀i eo s',k (.exit i) eo s'≠r):Calls P f args w R:=by
 refine(callsIn_wide (n:=0)).1 (callsIn_of_wp_marks br A trivial (wpIn_mono h ?_))
 rintro e fY w' ⟨x,κ',s',eo,a5,he,aU,cZ⟩
 have key:LeavesInM Fence.wide 0 P fn fY.tmps R fY.defers .returning w':=by
  obtain⟨eS,oP,ar,av,bV⟩:=aU.defers;rw[ar];refine kZ oP w' av (fun D u=>(bV D u).2) fun F hw=>?_
  exact(B x κ' s' eo {fY with defers:=[]} F (he.shut (fun D u=>(bV D u).1) hw) (aU.shut (fun D u=>(bV D u).2) hw) cZ).2
 cases a5 with
 |norm=>exact key
 |ret=>exact key
 |exit i=>exact absurd cZ (kL _ _ _)
section
variable{P:Program}{κ:bj}{s:ag}{w:World}
theorem vF{κ:bj}{D:Nat}{vs:List ae}{xs:List Value}(h:eu κ D vs xs):dC κ D (qZ vs) (if h:xs.toArray.size=1 then xs.toArray[0] else .tuple xs.toArray):=by
 match vs,xs,h with
 |[v],[x],h=>exact h.2 0 v x rfl rfl
 |[],xs,h=>have:xs=[]:=jE h.1;subst this;exact .d0 [] [] rfl (fun j c x aY=>by simp at aY)
 |v::v2::vs,xs,h=>
  have bN:xs.length=vs.length+2:=by rw[h.1];rfl
  rw[dif_neg (by simp;omega)];exact .d0 _ xs h.1 h.2
 |[v],[],h=>exact absurd h.1 (by simp)
 |[v],_::_::_,h=>exact absurd h.1 (by simp)
theorem qm{T:kN}(eN:T.pQ P){fV:Nat}{B:Nat}{G:Nat→ae}{ao:eO}{a:Act}(h:fJ κ s w ao.get a fV B G){y:c4}{fn:Func}(dk:l1 T y.results fn.results.toList=true){vs:List ae}(M:fl (qY ao s) y.results=some vs):
  ∃xs:List Value,(results fn a.tmps).run P w=.ok (if h:xs.toArray.size=1 then xs.toArray[0] else .tuple xs.toArray) w∧eu κ (s.aa+1) (vs.map (ae.ap s.aa)) xs:=by
 obtain⟨H,N⟩:=kY M;obtain⟨I,O⟩:=ql dk;have J:∀(j:Nat) (b:ResultVar),fn.results.toList[j]? =some b→∃x,(∀f:ResultVar→Sem Value,(∀t,f (.tmp t)=Pure.pure (a.tmps.getD t undef))→(∀t ty,f (.cell t ty)=(do loadVar ty (←asAddr (a.tmps.getD t undef)):Sem Value))→(f b).run P w=.ok x w)∧∀v,vs[j]? =some v→dC κ (s.aa+1) (v.ap s.aa) x:=fun j b e=>by
  have cX:=(ec.1 e).1;have U:j<y.results.length:=by rw[I];exact cX
  have K:j<vs.length:=by rw[H];exact U
  obtain⟨V,dH,Y⟩:=N j vs[j] (ei K);obtain⟨x,Z,ab⟩:=EG eN h (O j V b dH e) Y;refine⟨x,Z,fun v bM=>?_⟩;rw[ei K] at bM;simp only[bm] at bM;subst bM;exact ab
 have f7:∃xs:List Value,xs.length=fn.results.toList.length∧∀(j:Nat) (b:ResultVar) (x:Value),fn.results.toList[j]? =some b→xs[j]? =some x→(∀f:ResultVar→Sem Value,(∀t,f (.tmp t)=Pure.pure (a.tmps.getD t undef))→(∀t ty,f (.cell t ty)=(do loadVar ty (←asAddr (a.tmps.getD t undef)):Sem Value))→(f b).run P w=.ok x w)∧∀v,vs[j]? =some v→dC κ (s.aa+1) (v.ap s.aa) x:=by
  refine⟨(List.range fn.results.toList.length).map fun j=>if cX:j<fn.results.toList.length then Classical.choose (J j _ (ei cX)) else undef,by simp,fun j b x e a5=>?_⟩;have cX:=(ec.1 e).1;have ac:fn.results.toList[j]=b:=(ec.1 e).2;simp only[g6,List.getElem?_range cX,ej,bm] at a5;rw[dif_pos cX] at a5
  have:=Classical.choose_spec (J j _ (ei cX));rw[a5,ac] at this;exact this
 obtain⟨xs,A,a5⟩:=f7;refine⟨xs,?_,by rw[A,ep,H,I],fun j c x aY u=>?_⟩
 ·unfold results;rw[Array.mapM_eq_mapM_toList]
  have:=fun f ar av=>pg (P:=P) (w:=w) f fn.results.toList xs A (fun j r x aU u=>(a5 j r x aU u).1 f ar av)
  rw[map_eq_pure_bind,Sem.run_bind,Sem.run_bind,this]
  ·rfl
  ·intro t;rfl
  ·intro t ty;rfl
 ·have cX:j<fn.results.toList.length:=by rw[←A];exact(ec.1 u).1
  rw[g6] at aY;cases F:vs[j]? with
  |none=>rw[F] at aY;cases aY
  |some v=>rw[F] at aY;simp only[ej,bm] at aY;subst aY;exact(a5 j _ x (ei cX) u).2 v F
theorem yb{T:kN}(eN:T.pQ P){fV:Nat}{B:Nat}{G:Nat→ae}{ao:eO}{a:Act}(h:fJ κ s w ao.get a fV B G){r:c4}{fn:Func}(cZ:r.bU=false)(dk:l1 T r.results fn.results.toList=true){v:ae}{s':ag}(br:finish .not r ao s=.ok v s'):
  ∃x κ' e own,(results fn a.tmps).run P w=.ok x w∧s.up=own::s'.up∧s'= {own,up:=s'.up,ro:=s.ro}∧e.up=s.up∧e.ro=s.ro∧fx κ s w κ' e w∧c5 κ' e w∧dC κ' s.aa v x:=by
 simp only[finish,cZ,aX.not,b4,↓reduceIte] at br;cases u:fl (qY ao s) r.results with
 |none=>rw[u] at br;cases br
 |some vs=>
  rw[u] at br;simp only at br;cases y:fl (freeze s) vs with
  |none=>rw[y] at br;cases br
  |some jJ=>
   rw[y] at br;simp only at br;cases A:s.up with
   |nil=>rw[A] at br;cases br
   |cons own up=>
    rw[A] at br;simp only[ah.ok.injEq] at br;obtain⟨rfl,rfl⟩:=br;obtain⟨I,J⟩:=kY y;obtain⟨κ',e,K,H,M,N,ab,ac,ad,O⟩:=h.iQ.gx s.own.length (aD _);have U:∀i cs,s.own[i]? =some (.cells cs)→∃C:Array Value,(∀j (h:j<C.size),κ'.F ⟨κ.loc s.aa i,j,none⟩=some C[j])∧eu κ' (s.aa+1) cs (C.toList.take cs.length):=fun i cs bL=>O i cs (ec.1 bL).1 bL
    obtain⟨xs,V,a5⟩:=qm eN h dk u;refine⟨_,κ',e,own,V,rfl,rfl,by rw[M,A],N,H,K,?_⟩;refine vF ⟨by rw[a5.1,ep,I],fun j c x aY Y=>?_⟩;obtain⟨n1,dH,Z⟩:=J j c aY;exact ya H.k U (a5.2 j _ x (by rw[g6,dH];rfl) Y) Z
theorem zE{T:kN}(eN:T.pQ P){fV:Nat}{B:Nat}{G:Nat→ae}{ao:eO}{a:Act}(h:fJ κ s w ao.get a fV B G){e:c4}{fn:Func}(cZ:e.bU=true)(dk:l1 T e.results fn.results.toList=true){v:ae}{s':ag}(br:finish .not e ao s=.ok v s'):
  ∃x,(results fn a.tmps).run P w=.ok x w∧s'=s∧dC κ (s.aa+1) (v.ap s.aa) x:=by
 simp only[finish,cZ,aX.not,↓reduceIte] at br;cases r:fl (qY ao s) e.results with
 |none=>rw[r] at br;cases br
 |some vs=>
  rw[r] at br;simp only[ah.ok.injEq] at br;obtain⟨rfl,rfl⟩:=br;obtain⟨xs,u,a5⟩:=qm eN h dk r;refine⟨_,u,rfl,?_⟩
  have:=vF a5;rw[this.lc];exact this
variable(hm:P.follows .mixedOrders=true){T:kN}(eN:T.pQ P){rG:Nat→Option c4}(yq:EH P T rG){G:Nat→ae}{X:Nat→List ae→ag→ah}(kL:Zv P rG G X)
include hm eN yq kL
theorem vG:∀n m,m4 P {F:=.not,au:=G,call:=call .not rG G X n,loop:=fun step bU ao s k=>dS step bU m ao s k}
 |0,m=>⟨⟨m,fun _ _ _ _ _=>rfl⟩,fun f args s v s' h=>(by simp [call] at h),fun f args s v s' κ w xs h=>(by simp [call] at h)⟩
 |n+1,m=>by
  refine⟨⟨m,fun _ _ _ _ _=>rfl⟩,fun f args s=>jm.call kL.nM (n+1) f args s,fun f args s v s' κ w xs h a7 dV r=>?_⟩;simp only at h dV;simp only[call] at h;cases br:rG f with
  |none=>rw[br] at h;exact kL.ok f args s v s' κ w xs br h a7 dV r
  |some e=>
   rw[br] at h;simp only at h;obtain⟨fn,K,dk⟩:=yq f e br;unfold vE at dk;cases u:fn.body with
   |none=>rw[u] at dk;cases dk
   |some c=>
    rw[u] at dk;simp only[bl,Bool.not_eq_true'] at dk;obtain⟨⟨⟨⟨gU,ai⟩,aj⟩,ab⟩,ac⟩:=dk;have ay:e.fV=fn.ntmps:=dh ai;have az:=dW aj;obtain⟨hlen,h⟩:=c2 h (by simp);have hlen:=dh hlen;have ak:¬fn.name= "runtime.NumGoroutine" :=by simpa using gU
    refine .inr ⟨by simp [callFunc,K,ak,u],?_⟩;cases B:e.bU with
    |true=>
     rw[B] at h;simp only[↓reduceIte] at h;obtain⟨ao,hex,M⟩:=oj (by simp) _ _ _ h;have hY:=vG n n;have al:xs.length=args.length:=r.1;have N:fJ κ s w ao.get {tmps:=xs.toArray++Array.replicate (fn.ntmps-xs.toArray.size) undef,defers:=[]} e.fV w.heap.size G:=by
      refine⟨a7,fun t=>?_,Marks.nil (aD _),?_,dV⟩
      ·rw[M t];split
       ·rename_i ed;have O:t<args.length:=by omega
        have dH:args[t]? =some args[t]:=ei O;have A:xs[t]? =some xs[t]:=ei (by omega);have bM:=r.2 t _ _ dH A;have U:(xs.toArray++Array.replicate (fn.ntmps-xs.toArray.size) undef).getD t undef=xs[t]:=by rw[Array.getD_eq_getD_getElem?,Array.getElem?_append_left (by simp;omega)];simp [A]
        rw[U,Nat.sub_zero,List.getD_eq_getElem?_getD,dH,Option.getD_some,bM.lc];exact bM
       ·exact .dead _
      ·simp;omega
     refine pj K u (tu hm eN rfl hY e.body c (rd:=false) (by simp) ac (by simp) N hex) (fun x ad H eo fY w' he aU cZ=>?_) (fun i eo s' cZ=>by cases cZ);have key:finish .not e eo H=.ok v s'→∃y,(results fn fY.tmps).run P w'=.ok y w'∧∃x,Ending.returned y=.returned x∧mD κ s w v s' x w':=fun cZ=>by obtain⟨y,pY,q6,Ep⟩:=zE eN aU B ab cZ;subst q6;refine⟨y,pY,y,rfl,ad,he,aU.iQ,?_⟩;rw[he.aa] at Ep;exact Ep
     cases x with
     |norm=>exact⟨.inl rfl,key cZ⟩
     |ret=>exact⟨.inr rfl,key cZ⟩
     |_=>cases cZ
    |false=>
     rw[B] at h;simp only[b4,↓reduceIte] at h;obtain⟨ao,hex,M⟩:=oj (by simp) _ _ _ h;obtain⟨ae,am,V,an,af⟩:=a7.push;have hY:=vG n n;have al:xs.length=args.length:=r.1;have N:fJ ae s.push w ao.get {tmps:=xs.toArray++Array.replicate (fn.ntmps-xs.toArray.size) undef,defers:=[]} e.fV w.heap.size G:=by
      refine⟨am,fun t=>?_,Marks.nil (aD _),?_,dV.mono V⟩
      ·rw[M t];split
       ·rename_i ed;have O:t<args.length:=by omega
        have dH:args[t]? =some args[t]:=ei O;have A:xs[t]? =some xs[t]:=ei (by omega);have bM:=r.2 t _ _ dH A;have U:(xs.toArray++Array.replicate (fn.ntmps-xs.toArray.size) undef).getD t undef=xs[t]:=by rw[Array.getD_eq_getD_getElem?,Array.getElem?_append_left (by simp;omega)];simp [A]
        rw[U,Nat.sub_zero,List.getD_eq_getElem?_getD,dH,Option.getD_some,bM.lc];exact(bM.mono V).up (by rw[ag.jf];omega)
       ·exact .dead _
      ·simp;omega
     refine pj K u (tu hm eN rfl hY e.body c (rd:=false) (by simp) ac (by simp) N hex) (fun x ad H eo fY w' he aU cZ=>?_) (fun i eo s' cZ=>by cases cZ);have key:finish .not e eo H=.ok v s'→∃y,(results fn fY.tmps).run P w'=.ok y w'∧∃x,Ending.returned y=.returned x∧mD κ s w v s' x w':=fun cZ=>by
      obtain⟨y,ap,I,own,pY,q6,Ep,afV,afW,aq,afY,aes⟩:=yb eN aU B ab cZ;refine⟨y,pY,y,rfl,ap,?_,?_,?_⟩
      ·
       have bs:=he.trans aq;have J:s'= {own,up:=s'.up,ro:=I.ro}:=by rw[afW];exact Ep
       have ah:I.up=own::s'.up:=by rw[afV,q6]
       have cP:s'.aa=s.aa:=by
        have ar:=bs.aa;rw[ag.jf] at ar;have av:I.aa=s'.aa+1:=by rw[J];simp only[ag.aa,ah,bP];omega
        omega
       have Y:∀b,Live ae s.push b↔Live κ s b:=fun b=>by
        constructor
        ·rintro ⟨d,i,o,hj,g2⟩
         rw[ag.nI] at hj;exact⟨d,i,o,hj,by rw[←af d i o hj];exact g2⟩
        ·rintro ⟨d,i,o,hj,g2⟩
         exact⟨d,i,o,by rw[ag.nI];exact hj,by rw[af d i o hj];exact g2⟩
       refine⟨V.trans (bs.k.low (by rw[ag.jf];omega)),cP,bs.size,bs.os,bs.tape,bs.output,fun b Z bN=>bs.kS b Z (fun aw=>bN ((Y b).1 aw)),fun b Z bN=>?_,fun a ax=>?_⟩
       ·refine(Y b).1 (bs.live b Z ?_);obtain⟨d,i,o,hj,g2⟩:=bN;rw[J] at hj;exact⟨d,i,o,ag.q8 ah hj,g2⟩
       ·rcases bs.o4 a ax with q|q|q
        ·rw[an] at q;exact .inl q
        ·exact .inr (.inl q)
        ·exact .inr (.inr ((Y _).1 q))
      ·have J:s'= {own,up:=s'.up,ro:=I.ro}:=by rw[afW];exact Ep
       rw[J];exact afY.pop (by rw[afV,q6])
      ·have cP:H.aa=s.aa+1:=by rw[he.aa,ag.jf]
       rw[cP] at aes;rw[aes.lc];exact aes
     cases x with
     |norm=>exact⟨.inl rfl,key cZ⟩
     |ret=>exact⟨.inr rfl,key cZ⟩
     |_=>cases cZ
end
end Go.Ab
end
section
namespace Go.Ab
open Classical
def Ss(a b:ah):Prop:=a=.fail∨a=b
theorem Ss.refl(a:ah):Ss a a:=.inr rfl
theorem Ss.eq{a b r:ah}(h:Ss a b)(e:a=r)(aU:r≠.fail):b=r:=by
 rcases h with h|h
 ·exact absurd (e.symm.trans h) aU
 ·exact h ▸ e
def hh(a:Nat→ah)(b:ah):Prop:=(∀n,Ss (a n) b)∧(b≠.fail→∃N,∀n,N≤n→a n=b)
theorem hh.const(a:ah):hh (fun _=>a) a:=⟨fun _=>.refl _,fun _=>⟨0,fun _ _=>rfl⟩⟩
theorem hh.of_eq{a:Nat→ah}{b:ah}(h:∀n,a n=b):hh a b:=⟨fun n=>.inr (h n),fun _=>⟨0,fun n _=>h n⟩⟩
theorem hh.fail:hh (fun _=>.fail) .fail:=.const _
theorem hh.bind{a:Nat→ah}{b:ah}(h:hh a b){k kp:Nat→ae→ag→ah}{l A:ae→ag→ah}(cZ:∀v s,hh (fun n=>k n v s) (l v s))(fz:∀v s,hh (fun n=>kp n v s) (A v s)):hh (fun n=>ah.bind (a n) (k n) (kp n)) (ah.bind b l A):=by
 refine⟨fun n=>?_,fun r=>?_⟩
 ·rcases h.1 n with e|e
  ·left;simp only[e];rfl
  ·simp only[e];cases b with
   |fail=>exact .refl _
   |ok v s=>exact(cZ v s).1 n
   |panic v s=>exact(fz v s).1 n
 ·cases u:b with
  |fail=>rw[u] at r;exact absurd rfl r
  |ok v s=>rw[u] at r h;obtain⟨N,qk⟩:=h.2 (by simp);obtain⟨M,y⟩:=(cZ v s).2 r;exact⟨max N M,fun n dm=>by show ah.bind (a n) _ _=_;rw[qk n (by omega)];exact y n (by omega)⟩
  |panic v s=>rw[u] at r h;obtain⟨N,qk⟩:=h.2 (by simp);obtain⟨M,y⟩:=(fz v s).2 r;exact⟨max N M,fun n dm=>by show ah.bind (a n) _ _=_;rw[qk n (by omega)];exact y n (by omega)⟩
def HA(k:Nat→fk)(l:fk):Prop:=∀x ao s,hh (fun n=>k n x ao s) (l x ao s)
def lq(gH:Nat→mU)(e:mU):Prop:=∀ao s k l,HA k l→hh (fun n=>gH n ao s (k n)) (e ao s l)
def me(gH:mU):Prop:=∀ao s k l,(∀x ao s,Ss (k x ao s) (l x ao s))→Ss (gH ao s k) (gH ao s l)
theorem lq.mono{gH:mU}(h:lq (fun _=>gH) gH):me gH:=fun ao s k l cZ=>by
 have:=h ao s (fun n=>if n=0 then k else l) l (fun x ao s=>⟨fun n=>by
  simp only;split
  ·exact cZ x ao s
  ·exact .refl _,fun _=>⟨1,fun n dm=>by simp [show n≠0 by omega]⟩⟩)
 simpa using this.1 0
def eO.mask:f5→eO→eO
 |.e,_=>.e
 |.n h _ u,.e=>.n (eO.mask h .e) .dead (eO.mask u .e)
 |.n h b u,.n l v r=>.n (eO.mask h l) (bif b then v else .dead) (eO.mask u r)
theorem ic:∀(m:f5) (k:eO→ah) (ao:eO),eO.jF m k ao=k (eO.mask m ao)
 |.e,k,ao=>by cases ao<;> rfl
 |.n h b u,k,.e=>by simp only[eO.jF,eO.mask,ic h,ic u]
 |.n h b u,k,.n l v r=>by simp only[eO.jF,eO.mask,ic h,ic u]
theorem jn(gH:mU)(bU:f5)(n:Nat)(ao:eO)(s:ag)(k:fk):dS gH bU (n+1) ao s k=gH ao s (ew bU (dS gH bU n) k):=rfl
theorem gI{gH:Nat→mU}{e:mU}(h:lq gH e){k:Nat→fk}{l:fk}(cZ:HA k l)(bU:f5):∀(m:Nat) (ao:eO) (s:ag),hh (fun n=>dS (gH n) bU m ao s (k n)) (dS e bU m ao s l)
 |0,_,_=>.fail
 |m+1,ao,s=>by
  simp only[jn];refine h _ _ _ _ (fun x ao s=>?_);cases x with
  |norm=>simp only[ew,ic];exact gI h cZ bU m _ s
  |_=>exact cZ _ _ _
theorem rH{gH:mU}(h:me gH)(bU:f5)(k:fk):∀(m:Nat) (ao:eO) (s:ag),Ss (dS gH bU m ao s k) (dS gH bU (m+1) ao s k)
 |0,_,_=>.inl rfl
 |m+1,ao,s=>by
  rw[jn,jn];refine h _ _ _ _ (fun x ao s=>?_);cases x with
  |norm=>simp only[ew,ic];exact rH h bU k m _ s
  |_=>exact .refl _
theorem jz{gH:mU}(h:me gH){bU:f5}{k:fk}{m:Nat}{ao:eO}{s:ag}{r:ah}(aU:r≠.fail)(e:dS gH bU m ao s k=r):∀jv,m≤jv→dS gH bU jv ao s k=r:=by
 intro jv hm
 induction hm with
 |refl=>exact e
 |step _ u=>exact(rH h bU k _ ao s).eq u aU
noncomputable def bQ(gH:mU)(bU:f5)(ao:eO)(s:ag)(k:fk):ah:=if h:∃n,dS gH bU n ao s k≠.fail then dS gH bU h.choose ao s k else .fail
theorem mE{gH:mU}(h:me gH){bU:f5}{k:fk}{m:Nat}{ao:eO}{s:ag}{r:ah}(aU:r≠.fail)(e:dS gH bU m ao s k=r):bQ gH bU ao s k=r:=by have a5:∃n,dS gH bU n ao s k≠.fail:=⟨m,by rw[e];exact aU⟩;unfold bQ;rw[dif_pos a5];have ar:=a5.choose_spec;have av:=jz h ar rfl (max a5.choose m) (by omega);have bV:=jz h aU e (max a5.choose m) (by omega);exact av.symm.trans bV
theorem lr{gH:mU}{bU:f5}{k:fk}{ao:eO}{s:ag}{r:ah}(aU:r≠.fail)(e:bQ gH bU ao s k=r):∃m,dS gH bU m ao s k=r:=by
 unfold bQ at e;split at e
 ·exact⟨_,e⟩
 ·exact absurd e.symm aU
def ie(a:Nat→mU→f5→mU)(b:mU→f5→mU):Prop:=∀(gH:Nat→mU) (e:mU) bU ao s k l,(∀n,me (gH n))→me e→lq gH e→HA k l→hh (fun n=>a n (gH n) bU ao s (k n)) (b e bU ao s l)
theorem m7:ie (fun _=>bQ) bQ:=fun gH r bU ao s k l ar av bV dD=>by
 refine⟨fun n=>?_,fun h=>?_⟩
 ·by_cases br:bQ (gH n) bU ao s (k n)=.fail
  ·exact .inl br
  ·obtain⟨m,e⟩:=lr br rfl;exact .inr (mE av br (((gI bV dD bU m ao s).1 n).eq e br)).symm
 ·obtain⟨m,e⟩:=lr h rfl;obtain⟨N,qk⟩:=(gI bV dD bU m ao s).2 (by rw[e];exact h);exact⟨N,fun n dm=>mE (ar n) h ((qk n dm).trans e)⟩
theorem vH:ie (fun n gH bU ao s k=>dS gH bU n ao s k) bQ:=fun gH r bU ao s k l ar av bV dD=>by
 refine⟨fun n=>?_,fun h=>?_⟩
 ·by_cases br:dS (gH n) bU n ao s (k n)=.fail
  ·exact .inl br
  ·exact .inr (mE av br (((gI bV dD bU n ao s).1 n).eq rfl br)).symm
 ·obtain⟨m,e⟩:=lr h rfl;obtain⟨N,qk⟩:=(gI bV dD bU m ao s).2 (by rw[e];exact h);exact⟨max N m,fun n dm=>jz (ar n) h ((qk n (by omega)).trans e) n (by omega)⟩
theorem yc(m:Nat):ie (fun i gH bU ao s k=>dS gH bU (if i=0 then m else m+1) ao s k) (fun gH bU ao s k=>dS gH bU (m+1) ao s k):=fun gH h bU ao s k l ar av bV dD=>by
 refine⟨fun n=>?_,fun e=>?_⟩
 ·simp only;split
  ·by_cases br:dS (gH n) bU m ao s (k n)=.fail
   ·exact .inl br
   ·exact .inr ((jz av br (((gI bV dD bU m ao s).1 n).eq rfl br) (m+1) (by omega)).symm)
  ·exact(gI bV dD bU (m+1) ao s).1 n
 ·obtain⟨N,qk⟩:=(gI bV dD bU (m+1) ao s).2 e;exact⟨max N 1,fun n dm=>by simp only[show n≠0 by omega,↓reduceIte];exact qk n (by omega)⟩
def gz(G:Nat→ae)(c:Nat→List ae→ag→ah)(l:mU→f5→mU):Env:={F:=.not,au:=G,call:=c,loop:=l}
section
variable{G:Nat→ae}{c:Nat→Nat→List ae→ag→ah}{cu:Nat→List ae→ag→ah}{l:Nat→mU→f5→mU}{lu:mU→f5→mU}(aY:∀f args s,hh (fun n=>c n f args s) (cu f args s))
include aY
theorem vI(s:ag)(f:Nat)(args:List ae):hh (fun n=>eA (gz G (c n) (l n)) s .ok .panic f args) (eA (gz G cu lu) s .ok .panic f args):=by
 have e:∀E:Env,eA E s .ok .panic f args=ah.bind (E.call f args s) (fun v s'=>bif Nat.beq s'.aa s.aa then .ok v s' else .fail) .panic:=fun E=>by unfold eA;cases E.call f args s<;> rfl
 simp only[e];exact(aY f args s).bind (fun _ _=>.const _) (fun _ _=>.const _)
theorem tv(s:ag)(f:Nat)(args:List ae):hh (fun n=>hD (gz G (c n) (l n)) s .ok f args) (hD (gz G cu lu) s .ok f args):=by
 have e:∀E:Env,hD E s .ok f args=bif ae.aZ args then ah.bind (E.call f args {own:=[],up:=[],ro:=[]}) (fun v _=>bif v.bc then .ok v s else .fail) (fun _ _=>.fail) else .fail:=fun E=>by
  unfold hD;cases ae.aZ args<;> try rfl
  cases E.call f args _<;> rfl
 simp only[e];cases ae.aZ args
 ·exact .fail
 ·exact(aY f args _).bind (fun _ _=>.const _) (fun _ _=>.const _)
theorem tw(s:ag)(xs:List (Option Nat×ae))(f:Nat)(args:List ae):hh (fun n=>h2 (gz G (c n) (l n)) s .ok .panic xs f args) (h2 (gz G cu lu) s .ok .panic xs f args):=by
 have e:∀E:Env,h2 E s .ok .panic xs f args=ah.bind (E.call f args s) (fun v s'=>bif Nat.beq s'.aa s.aa then(bif xs.all fun x=>n6 (e2 s x.1 x.2) (e2 s' x.1 x.2) then .ok v s' else .fail) else .fail) .panic:=fun E=>by unfold h2 eA;cases E.call f args s<;> rfl
 simp only[e];exact(aY f args s).bind (fun _ _=>.const _) (fun _ _=>.const _)
theorem Bu(ao:Nat→ae)(s:ag)(op:gk):hh (fun n=>aM (gz G (c n) (l n)) ao s .ok .panic op) (aM (gz G cu lu) ao s .ok .panic op):=by
 cases op with
 |call f args=>show hh (fun n=>eA (gz G (c n) (l n)) s .ok .panic f (args.map fun x=>(aq G ao x).ap s.aa)) (eA (gz G cu lu) s .ok .panic f (args.map fun x=>(aq G ao x).ap s.aa));exact vI aY s f _
 |lA iq f args=>show hh (fun n=>h2 (gz G (c n) (l n)) s .ok .panic (iq.map fun x=>(x.1,aq G ao x.2)) f (args.map fun x=>(aq G ao x).ap s.aa)) (h2 (gz G cu lu) s .ok .panic (iq.map fun x=>(x.1,aq G ao x.2)) f (args.map fun x=>(aq G ao x).ap s.aa));exact tw aY s _ f _
 |j2 iq f args=>
  show hh (fun n=>kw (gz G (c n) (l n)) s .ok .panic (iq.map fun x=>(x.1,aq G ao x.2)) (aq G ao f) (args.map fun x=>(aq G ao x).ap s.aa)) (kw (gz G cu lu) s .ok .panic (iq.map fun x=>(x.1,aq G ao x.2)) (aq G ao f) (args.map fun x=>(aq G ao x).ap s.aa));cases aq G ao f with
  |fn g dI=>exact tw aY s _ g _
  |_=>exact .fail
 |hl f args=>show hh (fun n=>hD (gz G (c n) (l n)) s .ok f (args.map fun x=>(aq G ao x).ap s.aa)) (hD (gz G cu lu) s .ok f (args.map fun x=>(aq G ao x).ap s.aa));exact tv aY s f _
 |eA f args=>
  show hh (fun n=>la (gz G (c n) (l n)) s .ok .panic (aq G ao f) (args.map fun x=>(aq G ao x).ap s.aa)) (la (gz G cu lu) s .ok .panic (aq G ao f) (args.map fun x=>(aq G ao x).ap s.aa));cases aq G ao f with
  |fn g dI=>exact vI aY s g _
  |_=>exact .fail
 |lM f args=>
  show hh (fun n=>jT (gz G (c n) (l n)) s .ok (aq G ao f) (args.map fun x=>(aq G ao x).ap s.aa)) (jT (gz G cu lu) s .ok (aq G ao f) (args.map fun x=>(aq G ao x).ap s.aa));cases aq G ao f with
  |fn g dI=>exact tv aY s g _
  |_=>exact .fail
 |_=>exact .of_eq (fun n=>rfl)
theorem zF(ao:Nat→ae)(s:ag)(op:gk){k kp:Nat→ae→ag→ah}{m mp:ae→ag→ah}(cZ:∀v s,hh (fun n=>k n v s) (m v s))(fz:∀v s,hh (fun n=>kp n v s) (mp v s)):
  hh (fun n=>aM (gz G (c n) (l n)) ao s (k n) (kp n) op) (aM (gz G cu lu) ao s m mp op):=by
 have e:∀n,aM (gz G (c n) (l n)) ao s (k n) (kp n) op=ah.bind (aM (gz G (c n) (l n)) ao s .ok .panic op) (k n) (kp n):=fun n=>jw rfl _ _ _ _ _
 rw[jw (E:=gz G cu lu) rfl];simp only[e];exact(Bu aY ao s op).bind cZ fz
theorem mf:∀(d i:Nat) (v:ae) {k:Nat→eO→ah} {m:eO→ah} (_:∀ao,hh (fun n=>k n ao) (m ao)) (ao:eO),hh (fun n=>ao.i9 d i v (k n)) (ao.i9 d i v m)
 |0,_,_,_,_,_,_=>.fail
 |d+1,i,v,k,m,h,.e=>by
  simp only[eO.i9];cases Nat.beq i 0 with
  |true=>exact h _
  |false=>
   cases Nat.beq (i%2) 1 with
   |true=>exact mf d _ v (fun l=>h _) _
   |false=>exact mf d _ v (fun l=>h _) _
 |d+1,i,v,k,m,h,.n a x b=>by
  simp only[eO.i9];cases Nat.beq i 0 with
  |true=>exact h _
  |false=>
   cases Nat.beq (i%2) 1 with
   |true=>exact mf d _ v (fun l=>h _) _
   |false=>exact mf d _ v (fun l=>h _) _
theorem sV(dst:Option Nat)(v:ae){k:Nat→eO→ah}{m:eO→ah}(h:∀ao,hh (fun n=>k n ao) (m ao))(ao:eO):hh (fun n=>jc ao dst v (k n)) (jc ao dst v m):=by
 cases dst with
 |none=>exact h ao
 |some i=>exact mf aY 12 i v h ao
theorem m8:∀(os:List cS) (ao:eO) (s:ag) {k:Nat→eO→ag→ah} {m:eO→ag→ah} {kp:Nat→ae→eO→ag→ah} {mp:ae→eO→ag→ah} (_:∀ao s,hh (fun n=>k n ao s) (m ao s)) (_:∀v ao s,hh (fun n=>kp n v ao s) (mp v ao s)),
  hh (fun n=>fw (gz G (c n) (l n)) os ao s (k n) (kp n)) (fw (gz G cu lu) os ao s m mp)
 |[],ao,s,k,m,kp,mp,h,fz=>h ao s
 |o::os,ao,s,k,m,kp,mp,h,fz=>by
  simp only[fw];have key:∀w:Bool,hh (fun n=>bif w then aM (gz G (c n) (l n)) ao.get s (fun v s=>jc ao o.dst v fun ao=>fw (gz G (c n) (l n)) os ao s (k n) (kp n)) (fun v s=>kp n v ao s) o.op else jc ao o.dst (.d0 []) fun ao=>fw (gz G (c n) (l n)) os ao s (k n) (kp n))
    (bif w then aM (gz G cu lu) ao.get s (fun v s=>jc ao o.dst v fun ao=>fw (gz G cu lu) os ao s m mp) (fun v s=>mp v ao s) o.op else jc ao o.dst (.d0 []) fun ao=>fw (gz G cu lu) os ao s m mp):=fun w=>by
   cases w with
   |true=>exact zF aY ao.get s o.op (fun v s=>sV aY o.dst v (fun ao=>m8 os ao s h fz) ao) (fun v s=>fz v ao s)
   |false=>exact sV aY o.dst _ (fun ao=>m8 os ao s h fz) ao
  unfold mr;split
  ·exact key _
  ·split
   ·exact key _
   ·exact key _
   ·exact .fail
omit aY in
theorem pk{ht:ag}{dI:List ae}{gH:Nat→ae→ag→(oU→ag→ah)→ah}{r:ae→ag→(oU→ag→ah)→ah}(h:∀(x:ae) (s:ag) (k:Nat→oU→ag→ah) (m:oU→ag→ah),(∀e s,hh (fun n=>k n e s) (m e s))→hh (fun n=>gH n x s (k n)) (r x s m)):
  ∀(xs:List ae) (s:ag) {k:Nat→oU→ag→ah} {m:oU→ag→ah},(∀e s,hh (fun n=>k n e s) (m e s))→hh (fun n=>fI (gH n) ht dI xs s (k n)) (fI r ht dI xs s m)
 |[],s,k,m,cZ=>cZ _ _
 |x::xs,s,k,m,cZ=>h x s _ _ fun e s=>by
  cases e with
  |norm=>
   simp only;cases dI.all (ff ht s) with
   |true=>exact pk h xs s cZ
   |false=>exact .fail
  |_=>exact cZ _ _
variable(bN:ie l lu)(hm:∀n,ie (fun _=>l n) (l n))(jy:ie (fun _=>lu) lu)
include bN hm jy
theorem vJ:∀(code:ad),lq (fun n=>exec (gz G (c n) (l n)) code) (exec (gz G cu lu) code)∧(∀n,lq (fun _=>exec (gz G (c n) (l n)) code) (exec (gz G (c n) (l n)) code))∧lq (fun _=>exec (gz G cu lu) code) (exec (gz G cu lu) code):=by
 have y:∀(code:ad) (c:Nat→Nat→List ae→ag→ah) (cu:Nat→List ae→ag→ah) (l:Nat→mU→f5→mU) (lu:mU→f5→mU),(∀f args s,hh (fun n=>c n f args s) (cu f args s))→ie l lu→(∀n,ie (fun _=>l n) (l n))→ie (fun _=>lu) lu→lq (fun n=>exec (gz G (c n) (l n)) code) (exec (gz G cu lu) code):=by
  intro code
  induction code with
  |skip=>intro c cu l lu aY bN hm jy ao s k m cZ;exact cZ _ _ _
  |region nm ops=>
   intro c cu l lu aY bN hm jy ao s k m cZ;cases nm with
   |none=>exact m8 aY ops ao s (fun ao s=>cZ _ _ _) (fun v ao s=>.fail)
   |some nm=>
    simp only[exec];show hh (fun n=>bif nm.all (qX G ao.get) then _ else _) (bif nm.all (qX G ao.get) then _ else _);cases nm.all (qX G ao.get)
    ·exact .fail
    ·exact m8 aY ops ao s (fun ao s=>cZ _ _ _) (fun v ao s=>.fail)
  |seq a b h r=>
   intro c cu l lu aY bN hm jy ao s k m cZ;simp only[exec];refine h c cu l lu aY bN hm jy ao s _ _ (fun x ao s=>?_);cases x with
   |norm=>exact r c cu l lu aY bN hm jy ao s k m cZ
   |_=>exact cZ _ _ _
  |cond x a b h r=>
   intro c cu l lu aY bN hm jy ao s k m cZ;simp only[exec];show hh (fun n=>match aq G ao.get x with |.bool t=>bif t then exec (gz G (c n) (l n)) a ao s (k n) else exec (gz G (c n) (l n)) b ao s (k n)|_=>.fail) (match aq G ao.get x with |.bool t=>bif t then exec (gz G cu lu) a ao s m else exec (gz G cu lu) b ao s m|_=>.fail);cases aq G ao.get x with
   |bool t=>cases t with
    |true=>exact h c cu l lu aY bN hm jy ao s k m cZ
    |false=>exact r c cu l lu aY bN hm jy ao s k m cZ
   |_=>exact .fail
  |mask jv a e=>intro c cu l lu aY bN hm jy ao s k m cZ;simp only[exec,ic];exact e c cu l lu aY bN hm jy _ s k m cZ
  |block id a e=>
   intro c cu l lu aY bN hm jy ao s k m cZ;simp only[exec];refine e c cu l lu aY bN hm jy ao s _ _ (fun x ao s=>?_);cases x with
   |exit j=>
    simp only[dy];cases Nat.beq j id
    ·exact cZ _ _ _
    ·exact cZ _ _ _
   |_=>exact cZ _ _ _
  |loop bU a e=>
   intro c cu l lu aY bN hm jy ao s k m cZ;simp only[exec,ic];refine bN _ _ bU _ s k m (fun n=>?_) ?_ (e c cu l lu aY bN hm jy) cZ
   ·exact(e (fun _=>c n) (c n) (fun _=>l n) (l n) (fun _ _ _=>.const _) (hm n) (fun _=>hm n) (hm n)).mono
   ·exact(e (fun _=>cu) cu (fun _=>lu) lu (fun _ _ _=>.const _) jy (fun _=>jy) jy).mono
  |exit id=>intro c cu l lu aY bN hm jy ao s k m cZ;exact cZ _ _ _
  |scope a e=>intro c cu l lu aY bN hm jy ao s k m cZ;simp only[exec];exact e c cu l lu aY bN hm jy ao s k m cZ
  |ret=>intro c cu l lu aY bN hm jy ao s k m cZ;exact cZ _ _ _
  |range j f g p a b h r=>
   intro c cu l lu aY bN hm jy ao s k m cZ;simp only[exec];show hh (fun n=>lS j f (aq G ao.get g) _ s _) (lS j f (aq G ao.get g) _ s _);unfold lS;cases aq G ao.get g with
   |fn xt dI=>
    simp only;cases Nat.beq f xt with
    |false=>exact .fail
    |true=>
     simp only[bH];cases pO s j dI with
     |none=>exact .fail
     |some xs=>
      refine pk (fun x s lN jv A=>?_) xs s (fun u s=>cZ u ao s);refine sV aY (some p) x (fun eo=>?_) ao;refine h c cu l lu aY bN hm jy eo s _ _ (fun u ao s=>?_);cases u with
      |norm=>exact r c cu l lu aY bN hm jy ao s _ _ (fun u ao s=>A u s)
      |_=>exact .fail
   |_=>exact .fail
 intro code;exact⟨y code c cu l lu aY bN hm jy,fun n=>y code (fun _=>c n) (c n) (fun _=>l n) (l n) (fun _ _ _=>.const _) (hm n) (fun _=>hm n) (hm n),y code (fun _=>cu) cu (fun _=>lu) lu (fun _ _ _=>.const _) jy (fun _=>jy) jy⟩
end
theorem lG(m:Nat):ie (fun _ gH bU ao s k=>dS gH bU m ao s k) (fun gH bU ao s k=>dS gH bU m ao s k):=fun _ _ bU ao s _ _ _ _ bV dD=>gI bV dD bU m ao s
theorem rI:∀(vs:List ae) (i:Nat) (ao:eO) {k:Nat→eO→ah} {m:eO→ah} (_:∀ao,hh (fun n=>k n ao) (m ao)),hh (fun n=>bI vs i ao (k n)) (bI vs i ao m)
 |[],_,ao,_,_,h=>h ao
 |v::vs,i,ao,k,m,h=>mf (c:=fun _ _ _ _=>.fail) (cu:=fun _ _ _=>.fail) (fun _ _ _=>.fail) 12 i v (fun ao=>rI vs (i+1) ao h) ao
def body(T:Nat→Option c4)(G:Nat→ae)(X:Nat→List ae→ag→ah)(c:Nat→List ae→ag→ah)(l:mU→f5→mU)(f:Nat)(args:List ae)(s:ag):ah:=
 match T f with
 |none=>X f args s
 |some fn=>
  bif Nat.beq args.length fn.aek then
   bI args 0 .e fun ao=>exec (gz G c l) fn.body ao (if fn.bU then s else {own:=[],up:=s.own::s.up,ro:=s.ro}) (Mo .not fn)
  else .fail
theorem yr{T:Nat→Option c4}{G:Nat→ae}{X:Nat→List ae→ag→ah}{c:Nat→Nat→List ae→ag→ah}{cu:Nat→List ae→ag→ah}{l:Nat→mU→f5→mU}{lu:mU→f5→mU}(aY:∀f args s,hh (fun n=>c n f args s) (cu f args s))(bN:ie l lu)(hm:∀n,ie (fun _=>l n) (l n))(jy:ie (fun _=>lu) lu)(f:Nat)(args:List ae)(s:ag):
  hh (fun n=>body T G X (c n) (l n) f args s) (body T G X cu lu f args s):=by
 unfold body;cases T f with
 |none=>exact .const _
 |some fn=>
  simp only;cases Nat.beq args.length fn.aek with
  |false=>exact .fail
  |true=>simp only[bH];refine rI args 0 .e (fun ao=>(vJ aY bN hm jy fn.body).1 ao _ _ _ (fun x ao s=>?_));cases x<;> exact .const _
theorem ol(T:Nat→Option c4)(G:Nat→ae)(X:Nat→List ae→ag→ah)(n f:Nat)(args:List ae)(s:ag):call .not T G X (n+1) f args s=body T G X (call .not T G X n) (fun gH bU ao s k=>dS gH bU n ao s k) f args s:=rfl
section
variable(T:Nat→Option c4)(G:Nat→ae)(X:Nat→List ae→ag→ah)
theorem Bv:∀(n f:Nat) (args:List ae) (s:ag),Ss (call .not T G X n f args s) (call .not T G X (n+1) f args s)
 |0,f,args,s=>.inl rfl
 |n+1,f,args,s=>by
  have h:=yr (T:=T) (G:=G) (X:=X) (c:=fun i=>call .not T G X (if i=0 then n else n+1)) (cu:=call .not T G X (n+1)) (fun f args s=>⟨fun i=>by
    simp only;split
    ·exact Bv n f args s
    ·exact .refl _,fun _=>⟨1,fun i bL=>by simp [show i≠0 by omega]⟩⟩) (yc n) (fun i=>by by_cases bL:i=0<;> simp only[bL,↓reduceIte]<;> exact lG _) (lG (n+1)) f args s
  have:=h.1 0;simp only[↓reduceIte] at this;rw[ol,ol];exact this
theorem rJ{n f:Nat}{args:List ae}{s:ag}{r:ah}(aU:r≠.fail)(e:call .not T G X n f args s=r):∀m,n≤m→call .not T G X m f args s=r:=by
 intro m hm
 induction hm with
 |refl=>exact e
 |step _ h=>exact(Bv T G X _ f args s).eq h aU
noncomputable def aA(f:Nat)(args:List ae)(s:ag):ah:=if h:∃n,call .not T G X n f args s≠.fail then call .not T G X h.choose f args s else .fail
theorem om{n f:Nat}{args:List ae}{s:ag}{r:ah}(aU:r≠.fail)(e:call .not T G X n f args s=r):aA T G X f args s=r:=by have a5:∃n,call .not T G X n f args s≠.fail:=⟨n,by rw[e];exact aU⟩;unfold aA;rw[dif_pos a5];have ar:=a5.choose_spec;exact(rJ T G X ar rfl (max a5.choose n) (by omega)).symm.trans (rJ T G X aU e (max a5.choose n) (by omega))
theorem pn{f:Nat}{args:List ae}{s:ag}{r:ah}(aU:r≠.fail)(e:aA T G X f args s=r):∃n,call .not T G X n f args s=r:=by
 unfold aA at e;split at e
 ·exact⟨_,e⟩
 ·exact absurd e.symm aU
theorem Bw(f:Nat)(args:List ae)(s:ag):hh (fun n=>call .not T G X n f args s) (aA T G X f args s):=by
 refine⟨fun n=>?_,fun h=>?_⟩
 ·by_cases br:call .not T G X n f args s=.fail
  ·exact .inl br
  ·exact .inr (om T G X br rfl).symm
 ·obtain⟨n,e⟩:=pn T G X h rfl;exact⟨n,fun m hm=>rJ T G X h e m hm⟩
theorem zG(f:Nat)(args:List ae)(s:ag):aA T G X f args s=body T G X (aA T G X) bQ f args s:=by
 have h:=yr (T:=T) (G:=G) (X:=X) (Bw T G X) vH (fun n=>lG n) m7 f args s;by_cases br:body T G X (aA T G X) bQ f args s=.fail
 ·rw[br];by_cases aY:aA T G X f args s=.fail
  ·exact aY
  ·obtain⟨n,e⟩:=pn T G X aY rfl
   have:=rJ T G X aY e (n+1) (by omega);rw[ol] at this;exact absurd ((h.1 n).eq this aY) (by rw[br];exact fun q=>aY q.symm)
 ·obtain⟨N,qk⟩:=h.2 br;have e:=(ol T G X N f args s).trans (qk N (aD _));exact om T G X br e
end
theorem zH{G:Nat→ae}{cu:Nat→List ae→ag→ah}(code:ad)(bU:f5)(ao:eO)(s:ag)(k:fk):bQ (exec (gz G cu bQ) code) bU ao s k=exec (gz G cu bQ) code ao s (ew bU (bQ (exec (gz G cu bQ) code) bU) k):=by
 have u:=(vJ (G:=G) (c:=fun _=>cu) (cu:=cu) (l:=fun _=>bQ) (lu:=bQ) (fun _ _ _=>.const _) m7 (fun _=>m7) m7 code).1;have r:=u.mono;have cZ:HA (fun n=>ew bU (dS (exec (gz G cu bQ) code) bU n) k) (ew bU (bQ (exec (gz G cu bQ) code) bU) k):=fun x ao s=>by
  cases x with
  |norm=>
   simp only[ew,ic];generalize eO.mask bU ao=ao;refine⟨fun n=>?_,fun y=>?_⟩
   ·by_cases br:dS (exec (gz G cu bQ) code) bU n ao s k=.fail
    ·exact .inl br
    ·exact .inr (mE r br rfl).symm
   ·obtain⟨n,e⟩:=lr y rfl;exact⟨n,fun m hm=>jz r y e m hm⟩
  |_=>exact .const _
 have h:=u ao s _ _ cZ;generalize A:exec (gz G cu bQ) code ao s (ew bU (bQ (exec (gz G cu bQ) code) bU) k)=R at h ⊢;by_cases br:R=.fail
 ·rw[br];by_cases aY:bQ (exec (gz G cu bQ) code) bU ao s k=.fail
  ·exact aY
  ·obtain⟨n,e⟩:=lr aY rfl
   have:=(jn _ _ _ _ _ _).symm.trans (jz r aY e (n+1) (by omega));exact absurd ((h.1 n).eq this aY) (by rw[br];exact fun q=>aY q.symm)
 ·obtain⟨N,qk⟩:=h.2 br;exact mE r br ((jn _ _ _ _ _ _).trans (qk N (aD _)))
end Go.Ab
end
section
namespace Go.Ab
def St(x:ae)(s:ag)(k:ae→ag→ah):ah:=bif x.fa then k (.bh (x.ap s.aa).cells) s else .fail
def vK(x:ae)(s:ag)(k:ae→ag→ah):ah:=bif x.fa then k (.ref (.l s.own.length) 0) (s.new (.cells (x.ap s.aa).cells)) else .fail
def zI(d:Nat):List ae→List (Nat×Nat×ae)→Option (List ae)
 |cs,[]=>some cs
 |cs,(off,sz,x)::eb=>
  let v:=x.ap d
  bif v.fa&&Nat.beq v.cells.length sz&&Nat.ble (off+sz) cs.length then zI d (dL cs off v.cells) eb else none
def HB(zero:List ae)(eb:List (Nat×Nat×ae))(s:ag)(k:ae→ag→ah):ah:=
 match (zI s.aa zero eb).map .agg with
 |some v=>k v s
 |none=>.fail
def p1(o:Option ae)(d:Nat):Option Nat:=
 match o with
 |none=>some d
 |some x=>e1 x
def hSub(x:ae)(gg bL:Option ae)(s:ag)(k:ae→ag→ah):ah:=
 match x with
 |.str e8=>
  match p1 gg 0,p1 bL e8.length with
  |some l,some h=>bif Nat.ble l h&&Nat.ble h e8.length then k (.str ((e8.drop l).take (h-l))) s else .fail
  |_,_=>.fail
 |_=>.fail
def m9(z:Nat)(x:ae)(gg bL iK:Option ae)(s:ag)(k:ae→ag→ah):ah:=
 match x with
 |.bW sz es g=>
  match p1 gg 0,p1 bL es.length with
  |some l,some h=>
   match iK with
   |none=>
    bif Nat.beq z sz&&Nat.ble l h&&Nat.ble h es.length&&pN g l h es then
     k (.bW sz ((es.drop l).take (h-l)) (match g with
      |.nil=>.nil
      |.exact=>if h=es.length then .exact else .any
      |.dx a=>if l=0∧h=es.length then .dx a else .any
      |.any=>.any)) s
    else .fail
   |some x=>
    match e1 x,g with
    |_,.nil=>.fail
    |some m,_=>bif Nat.beq z sz&&Nat.ble l h&&Nat.ble h m&&Nat.ble m es.length&&uU g es then k (.bW sz ((es.drop l).take (h-l)) (if h=m then .exact else .any)) s else .fail
    |_,_=>.fail
  |_,_=>.fail
 |.cO a off len cap sz=>
  match p1 gg 0,p1 bL len,p1 iK cap with
  |some l,some h,some m=>bif Nat.beq z sz&&Nat.ble l h&&Nat.ble h m&&Nat.ble m cap&&Nat.ble len cap then k (.cO a (if m=l then off else off+l*sz) (h-l) (m-l) sz) s else .fail
  |_,_,_=>.fail
 |_=>.fail
def rK(z n:Nat)(x:ae)(gg bL iK:Option ae)(s:ag)(k:ae→ag→ah):ah:=
 match x with
 |.ref a off=>
  match p1 gg 0,p1 bL n,p1 iK n with
  |some l,some h,some m=>bif Nat.ble l h&&Nat.ble h m&&Nat.ble m n then k (.cO a (if m=l then off else off+l*z) (h-l) (m-l) z) s else .fail
  |_,_,_=>.fail
 |_=>.fail
def afZ(v:ae):Option Loc:=
 match v with
 |.ref a _=>some a
 |.map a=>some a
 |_=>none
def zJ(v:ae)(want:Bool)(op:(ae→ag→ah)→ah)(s:ag)(k:ae→ag→ah):ah:=
 match v with
 |.bool b=>bif b==want then op k else k (.d0 []) s
 |.d0 _=>k (.d0 []) s
 |_=>.fail
def Zw(v:ae)(a b:ah):ah:=
 match v with
 |.bool t=>bif t then a else b
 |_=>.fail
def k2(s:ag)(v:ae)(n:Option Nat):Option ae:=
 match v with
 |.ref a off=>
  match s.get a,n with
  |some (.cells cs),none=>cs[off]?
  |some (.cells cs),some n=>if Nat.ble (off+n) cs.length then some (.agg ((cs.drop off).take n)) else none
  |_,_=>none
 |_=>none
def mF(bU:Bool)(e:List (Option ae))(s:ag):ah:=
 match fl (fun x=>x) e with
 |some vs=>
  bif bU then .ok (qZ (vs.map (ae.ap s.aa))) s
  else
   match fl (freeze s) vs with
   |some vs=>
    match s.up with
    |own::up=>.ok (qZ vs) {own,up,ro:=s.ro}
    |[]=>.fail
   |none=>.fail
 |none=>.fail
def ag.ai(s:ag):ag:={own:=[],up:=s.own::s.up,ro:=s.ro}
abbrev bd:=ae→ag→ah
structure nQ where
 bt:Nat→ae
 cG:mU→f5→mU
 aK:f5→ad→mU
 a0:Bool→List (Option ae)→ag→ah
 ig:ae→ag→bd→ah
 bS:ag→bd→ae→ae→ae→ah
 e4:ae→ag→bd→ah
 pR:ae→ag→bd→ah
 ih:List ae→List (Nat×Nat×ae)→ag→bd→ah
 a9:ag→bd→Nat→List ae→ah
 Bx:ag→bd→ae→ah
 aw:ag→bd→Option Nat→ae→ah
 bX:ag→bd→Nat→ae→ae→ah
 tx:ag→bd→ae→ah
 aj:ag→bd→Option ae→ah
 bY:ag→bd→IntKind→ae→ah
 ys:ag→bd→ae→ah
 lf:ag→bd→ae→ah
 qn:ag→bd→ae→ah
 lg:ag→bd→List ae→Nat→ae→ae→ah
 vL:ae→Option ae→Option ae→ag→bd→ah
 ls:Nat→ae→Option ae→Option ae→Option ae→ag→bd→ah
 aS:ag→bd→Nat→ae→ah
 By:ag→bd→Nat→Option Nat→ae→ah
 cc:ag→bd→Nat→ae→ae→ah
 mg:ag→bd→Nat→Nat→ae→ae→ah
 hz:ag→bd→ae→ae→ah
 yu:ag→bd→Nat→Nat→Option Nat→ae→ae→ah
 ca:ag→bd→Nat→ae→ah
 bn:ag→bd→Nat→List ae→ah
 rL:ag→bd→ae→List ae→ah
 gR:ag→bd→Nat→List ae→ah
 yv:ag→bd→ae→List ae→ah
 yw:ag→bd→Option Nat→ae→Nat→ae→ae→ah
 Bz:ag→bd→List (Option Nat×ae)→Nat→List ae→ah
 yx:ag→bd→List (Option Nat×ae)→ae→List ae→ah
 cW:ag→bd→Bool→ae→ah
 fO:ag→bd→Nat→Nat→Option Loc→ae→ae→ah
 vM:ag→bd→Nat→Nat→Option Loc→ae→ae→ah
 vN:ag→bd→Nat→Nat→Option Loc→ae→ae→ah
 po:ag→bd→Nat→List ae→ah
 pq:ag→bd→Nat→List ae→ah
 mG:ag→bd→Nat→Nat→ae→ae→ah
 mh:Nat→Nat→ae→Option ae→Option ae→Option ae→ag→bd→ah
 rM:ag→bd→Nat→ae→ae→ah
 zK:ag→bd→(ae→ae→Option ae)→List ae→ah
 vO:ag→bd→Option Loc→ah
 yy:ag→bd→xr→ae→ae→ae→ah
 yz:ag→bd→xr→ae→Bool→ae→ae→ah
 af:ae→Bool→(bd→ah)→ag→bd→ah
 aP:ae→ah→ah→ah
 pr:Nat→Nat→ae→(ae→ag→(oU→ag→ah)→ah)→ag→(oU→ag→ah)→ah
def l2(G:Nat→ae)(ao:Nat→ae):Option bF→Option ae
 |none=>none
 |some x=>some (aq G ao x)
def zL(G:Nat→ae)(ao:Nat→ae):Option bF→Option Loc
 |none=>some (.l 0)
 |some x=>afZ (aq G ao x)
def partsOf(G:Nat→ae)(ao:Nat→ae):List (Nat×Nat×bF)→List (Nat×Nat×ae)
 |[]=>[]
 |(off,sz,x)::eb=>(off,sz,aq G ao x)::partsOf G ao eb
def qJ(P:nQ)(ao:Nat→ae)(s:ag)(k:bd)(op:gk):ah:=
 match op with
 |.move x=>k (aq P.bt ao x) s
 |.nl x=>k (n5 (aq P.bt ao x)) s
 |.pick c a b=>P.bS s k (aq P.bt ao c) (aq P.bt ao a) (aq P.bt ao b)
 |.alloc zero=>P.ig (.ref (.l s.own.length) 0) (s.new (.cells zero)) k
 |.fu x=>P.e4 (aq P.bt ao x) s k
 |.j1 x=>P.pR (aq P.bt ao x) s k
 |.build zero parts=>P.ih zero (partsOf P.bt ao parts) s k
 |.buildSlice sz parts=>P.a9 s k sz (parts.map (aq P.bt ao))
 |.oY x=>P.Bx s k (aq P.bt ao x)
 |.load n a=>P.aw s k n (aq P.bt ao a)
 |.store n a v=>P.bX s k n (aq P.bt ao a) ((aq P.bt ao v).ap s.aa)
 |.k9 m y n a v=>P.yw s k m (aq P.bt ao y) n (aq P.bt ao a) ((aq P.bt ao v).ap s.aa)
 |.nilCheck x=>P.tx s k (aq P.bt ao x)
 |.bin op x y=>P.aj s k (al op (aq P.bt ao x) (aq P.bt ao y))
 |.eq neg e x y=>P.aj s k ((o1 e (aq P.bt ao x) (aq P.bt ao y)).map fun b=>.bool (bif neg then !b else b))
 |.un op x=>P.aj s k (kn op (aq P.bt ao x))
 |.lj d x=>P.bY s k d (aq P.bt ao x)
 |.n3 x=>P.ys s k (aq P.bt ao x)
 |.gN x=>P.lf s k (aq P.bt ao x)
 |.ja x=>P.qn s k (aq P.bt ao x)
 |.jL t x=>P.ig (.iface t ((aq P.bt ao x).ap s.aa)) s k
 |.ks f dI=>P.ig (.fn f (dI.map fun x=>(aq P.bt ao x).ap s.aa)) s k
 |.makeSlice zero bytes l c=>P.lg s k zero bytes (aq P.bt ao l) (aq P.bt ao c)
 |.kt x gg bL=>P.vL (aq P.bt ao x) (l2 P.bt ao gg) (l2 P.bt ao bL) s k
 |.slice z x gg bL iK=>P.ls z (aq P.bt ao x) (l2 P.bt ao gg) (l2 P.bt ao bL) (l2 P.bt ao iK) s k
 |.fieldAddr off a=>P.aS s k off (aq P.bt ao a)
 |.field off n x=>P.By s k off n (aq P.bt ao x)
 |.jb sz x i=>P.cc s k sz (aq P.bt ao x) (aq P.bt ao i)
 |.fv sz len x i=>P.mg s k sz len (aq P.bt ao x) (aq P.bt ao i)
 |.mY x i=>P.hz s k (aq P.bt ao x) (aq P.bt ao i)
 |.n4 sz len n x i=>P.yu s k sz len n (aq P.bt ao x) (aq P.bt ao i)
 |.extract x i=>P.ca s k i (aq P.bt ao x)
 |.call f args=>P.bn s k f (args.map fun x=>(aq P.bt ao x).ap s.aa)
 |.eA f args=>P.rL s k (aq P.bt ao f) (args.map fun x=>(aq P.bt ao x).ap s.aa)
 |.hl f args=>P.gR s k f (args.map fun x=>(aq P.bt ao x).ap s.aa)
 |.lM f args=>P.yv s k (aq P.bt ao f) (args.map fun x=>(aq P.bt ao x).ap s.aa)
 |.lA iq f args=>P.Bz s k (iq.map fun x=>(x.1,aq P.bt ao x.2)) f (args.map fun x=>(aq P.bt ao x).ap s.aa)
 |.j2 iq f args=>P.yx s k (iq.map fun x=>(x.1,aq P.bt ao x.2)) (aq P.bt ao f) (args.map fun x=>(aq P.bt ao x).ap s.aa)
 |.len b x=>P.cW s k b (aq P.bt ao x)
 |.append q bytes b x y=>P.fO s k q bytes (zL P.bt ao b) (aq P.bt ao x) (aq P.bt ao y)
 |.jN q bytes b x y=>P.vN s k q bytes (zL P.bt ao b) (aq P.bt ao x) (aq P.bt ao y)
 |.gE sz parts=>P.po s k sz (parts.map fun x=>(aq P.bt ao x).ap s.aa)
 |.gD sz parts=>P.pq s k sz (parts.map fun x=>(aq P.bt ao x).ap s.aa)
 |.jO q bytes x y=>P.mG s k q bytes (aq P.bt ao x) (aq P.bt ao y)
 |.jM q bytes b x y=>P.vM s k q bytes (zL P.bt ao b) (aq P.bt ao x) (aq P.bt ao y)
 |.iV z n x gg bL iK=>P.mh z n (aq P.bt ao x) (l2 P.bt ao gg) (l2 P.bt ao bL) (l2 P.bt ao iK) s k
 |.copy q d x=>P.rM s k q (aq P.bt ao d) (aq P.bt ao x)
 |.min xs=>P.zK s k min2 (xs.map fun x=>(aq P.bt ao x).ap s.aa)
 |.max xs=>P.zK s k max2 (xs.map fun x=>(aq P.bt ao x).ap s.aa)
 |.makeMap b=>P.vO s k (zL P.bt ao b)
 |.mZ kJ m x v=>P.yy s k kJ (aq P.bt ao m) ((aq P.bt ao x).ap s.aa) ((aq P.bt ao v).ap s.aa)
 |.lookup kJ zero ok m x=>P.yz s k kJ zero ok (aq P.bt ao m) ((aq P.bt ao x).ap s.aa)
 |.uS neg x=>P.aj s k (za neg (aq P.bt ao x))
 |.no=>.fail
def mH(P:nQ):List cS→eO→ag→(eO→ag→ah)→ah
 |[],ao,s,fin=>fin ao s
 |o::os,ao,s,fin=>
  match o.guard with
  |none=>qJ P ao.get s (fun v s=>jc ao o.dst v fun ao=>mH P os ao s fin) o.op
  |some (t,want)=>P.af (ao.get t) want (fun k=>qJ P ao.get s k o.op) s (fun v s=>jc ao o.dst v fun ao=>mH P os ao s fin)
def aE(P:nQ):ad→mU
 |.skip,ao,s,k=>k .norm ao s
 |.region none ops,ao,s,k=>mH P ops ao s (fun ao s=>k .norm ao s)
 |.region (some []) ops,ao,s,k=>mH P ops ao s (fun ao s=>k .norm ao s)
 |.region (some (_::_)) _,_,_,_=>.fail
 |.seq a b,ao,s,k=>aE P a ao s (fP (aE P b) k)
 |.mask m a,ao,s,k=>P.aK m a (eO.mask m ao) s k
 |.cond c a b,ao,s,k=>P.aP (aq P.bt ao.get c) (aE P a ao s k) (aE P b ao s k)
 |.block id c,ao,s,k=>aE P c ao s (dy id k)
 |.loop bU c,ao,s,k=>P.cG (aE P c) bU (eO.mask bU ao) s k
 |.exit id,ao,s,k=>k (.exit id) ao s
 |.scope c,ao,s,k=>aE P c ao s k
 |.ret,ao,s,k=>k .ret ao s
 |.range j f g p a b,ao,s,k=>P.pr j f (aq P.bt ao.get g) (fun x s lN=>jc ao (some p) x fun eo=>aE P a eo s (Em (aE P b) fun e _ s=>lN e s)) s fun e s=>k e ao s
def HC(ao:eO)(s:ag):te→Option ae
 |.t n=>some (ao.get n)
 |.cell a n=>k2 s (ao.get a) n
def bA(P:nQ)(fn:c4):fk:=fun x ao s=>
 match x with
 |.norm=>P.a0 fn.bU (fn.results.map (HC ao s)) s
 |.ret=>P.a0 fn.bU (fn.results.map (HC ao s)) s
 |_=>.fail
def jH:ad→Bool
 |.region (some (_::_)) _=>false
 |.seq a b|.cond _ a b=>jH a&&jH b
 |.mask _ a|.block _ a|.loop _ a|.scope a=>jH a
 |.range _ _ _ _ a b=>jH a&&jH b
 |_=>true
noncomputable def mI(G:Nat→ae)(c:Nat→List ae→ag→ah):nQ where
 bt:=G
 cG:=bQ
 aK:=fun _ a ao s k=>exec (gz G c bQ) a ao s k
 a0:=mF
 ig:=fun v s k=>k v s
 bS:=fun s k n2 a b=>np (gz G c bQ) s k n2 a b
 e4:=St
 pR:=vK
 ih:=HB
 a9:=fun s k sz es=>hN (gz G c bQ) s k sz es
 Bx:=fun s k v=>m0 (gz G c bQ) s k v
 aw:=fun s k n v=>dY (gz G c bQ) s k n v
 bX:=fun s k n a v=>fe (gz G c bQ) s k n a v
 tx:=fun s k v=>je (gz G c bQ) s k v
 aj:=fun s k v=>qV (gz G c bQ) s k v
 bY:=fun s k d v=>ke (gz G c bQ) s k d v
 ys:=fun s k v=>mo s k v
 lf:=fun s k v=>gF (gz G c bQ) s k v
 qn:=fun s k v=>ho (gz G c bQ) s k v
 lg:=fun s k z b l n2=>nn (gz G c bQ) s k z b l n2
 vL:=hSub
 ls:=m9
 aS:=fun s k off v=>gP (gz G c bQ) s k off v
 By:=fun s k off n v=>lP (gz G c bQ) s k off n v
 cc:=fun s k sz x i=>kK (gz G c bQ) s k sz x i
 mg:=fun s k sz len x i=>hM (gz G c bQ) s k sz len x i
 hz:=fun s k x i=>h6 (gz G c bQ) s k x i
 yu:=fun s k sz len n x i=>kv (gz G c bQ) s k sz len n x i
 ca:=fun s k i v=>kd (gz G c bQ) s k i v
 bn:=fun s k f args=>eA (gz G c bQ) s k (fun _ _=>.fail) f args
 rL:=fun s k f args=>la (gz G c bQ) s k (fun _ _=>.fail) f args
 gR:=fun s k f args=>hD (gz G c bQ) s k f args
 yv:=fun s k f args=>jT (gz G c bQ) s k f args
 yw:=fun s k m y n a v=>lk (gz G c bQ) s k m y n a v
 Bz:=fun s k iq f args=>h2 (gz G c bQ) s k (fun _ _=>.fail) iq f args
 yx:=fun s k iq f args=>kw (gz G c bQ) s k (fun _ _=>.fail) iq f args
 cW:=fun s k b v=>p5 (gz G c bQ) s k b v
 fO:=fun s k q bytes b x y=>gj (gz G c bQ) s k q bytes b x y
 vN:=fun s k q bytes b x y=>mq (gz G c bQ) s k q bytes b x y
 po:=fun s k sz es=>jS (gz G c bQ) s k sz es
 pq:=fun s k sz es=>jR (gz G c bQ) s k sz es
 mG:=fun s k q bytes x y=>kc (gz G c bQ) s k q bytes (zb s x) y
 vM:=fun s k q bytes b x y=>kP (gz G c bQ) s k q bytes b x y
 mh:=fun z n x gg bL iK s k=>rK z n x gg bL iK s k
 rM:=fun s k q d x=>lQ (gz G c bQ) s k q d x
 zK:=fun s k f xs=>lb (gz G c bQ) s k f xs
 vO:=fun s k b=>l8 (gz G c bQ) s k b
 yy:=fun s k kJ m x v=>ll (gz G c bQ) s k kJ m x v
 yz:=fun s k kJ z ok m x=>lm (gz G c bQ) s k kJ z ok m x
 af:=zJ
 aP:=Zw
 pr:=lS
section
variable(G:Nat→ae)(c:Nat→List ae→ag→ah)
theorem yA(d:Nat)(ao:Nat→ae):∀(eb:List (Nat×Nat×bF)) (cs:List ae),zI d cs (partsOf G ao eb)=fj G d ao cs eb
 |[],cs=>rfl
 |(off,sz,x)::eb,cs=>by simp only[partsOf,zI,fj];rw[yA d ao eb]
theorem zM(ao:Nat→ae)(o:Option bF)(d:Nat):p1 (l2 G ao o) d=dG G ao o d:=by cases o<;> rfl
theorem tz(ao:Nat→ae)(s:ag)(k:bd)(op:gk):qJ (mI G c) ao s k op=aM (gz G c bQ) ao s k (fun _ _=>.fail) op:=by
 cases op<;> try rfl
 case build zero parts=>
  simp only[qJ,aM,mI,HB,yA,qV];show _=match (fj G s.aa ao zero parts).map .agg with |some v=>k v s|none=>.fail
  cases fj G s.aa ao zero parts<;> rfl
 case kt x gg bL=>simp only[qJ,aM,mI,hSub,jQ,zM];rfl
 case slice z x gg bL iK=>
  simp only[qJ,aM,mI,m9,j3,zM];show _=j3 (gz G c bQ) ao s k z (aq G ao x) gg bL iK;unfold j3;cases aq G ao x<;> try rfl
  cases iK<;> rfl
 case iV z n x gg bL iK=>simp only[qJ,aM,mI,rK,iD,zM];show _=iD (gz G c bQ) ao s k z n (aq G ao x) gg bL iK;unfold iD;cases aq G ao x<;> rfl
theorem nw:∀(os:List cS) (ao:eO) (s:ag) (fin:eO→ag→ah),mH (mI G c) os ao s fin=fw (gz G c bQ) os ao s fin (fun _ _ _=>.fail)
 |[],ao,s,fin=>rfl
 |o::os,ao,s,fin=>by
  simp only[mH,fw];have key:(fun(v:ae) (s:ag)=>jc ao o.dst v fun ao=>mH (mI G c) os ao s fin)=fun v s=>jc ao o.dst v fun ao=>fw (gz G c bQ) os ao s fin (fun _ _ _=>.fail):=by funext v s;congr 1;funext ao;exact nw os ao s fin
  cases cb:o.guard with
  |none=>simp only[mr,bH];rw[key,tz]
  |some p=>obtain⟨t,want⟩:=p;simp only[mr,key,tz];rw[show(mI G c).af=zJ from rfl];unfold zJ;cases ao.get t<;> rfl
theorem ps:∀(code:ad),jH code=true→aE (mI G c) code=exec (gz G c bQ) code:=by
 intro code
 induction code with
 |skip=>intro _;rfl
 |region nm ops=>
  intro h;cases nm with
  |none=>funext ao s k;exact nw G c ops ao s _
  |some nm=>
   cases nm with
   |nil=>funext ao s k;simp only[aE,exec,List.all_nil,bH];exact nw G c ops ao s _
   |cons _ _=>simp [jH] at h
 |seq a b r u=>intro h;simp only[jH,bl] at h;funext ao s k;simp only[aE,exec,r h.1,u h.2]
 |mask m a e=>intro h;funext ao s k;simp only[aE,exec,ic];rfl
 |cond x a b r u=>intro h;simp only[jH,bl] at h;funext ao s k;simp only[aE,exec,r h.1,u h.2];rfl
 |block id a e=>intro h;funext ao s k;simp only[aE,exec,e h]
 |loop bU a e=>intro h;funext ao s k;simp only[aE,exec,e h,ic];rfl
 |exit id=>intro _;rfl
 |scope a e=>intro h;funext ao s k;simp only[aE,exec,e h]
 |ret=>intro _;rfl
 |range j f g p a b r u=>intro h;simp only[jH,bl] at h;funext ao s k;simp only[aE,exec,r h.1,u h.2];rfl
theorem yB{α β e:Type}(f:β→Option e)(g:α→β):∀l:List α,fl f (l.map g)=fl (fun x=>f (g x)) l
 |[]=>rfl
 |x::l=>by simp only[fH,fl,yB f g l]
theorem EI(fn:c4):bA (mI G c) fn=Mo .not fn:=by
 have key:∀ao s,mF fn.bU (fn.results.map (HC ao s)) s=finish .not fn ao s:=fun ao s=>by
  unfold mF finish;rw[yB,show(fun x=>HC ao s x)=qY ao s from by funext x;cases x<;> rfl];cases fl (qY ao s) fn.results with
  |none=>rfl
  |some vs=>cases fn.bU<;> rfl
 funext x ao s;cases x with
 |norm=>exact key ao s
 |ret=>exact key ao s
 |_=>rfl
end
structure nQ.pQ (Z:nQ):Prop where
 m:∀m a ao s k,jH a=true→Z.aK m a ao s k=aE Z a ao s k
 l:∀c bU ao s k,jH c=true→Z.cG (aE Z c) bU ao s k=aE Z c ao s (ew bU (Z.cG (aE Z c) bU) k)
section
variable(T:Nat→Option c4)(G:Nat→ae)(X:Nat→List ae→ag→ah)
noncomputable def aV:nQ:=mI G (aA T G X)
theorem Zx:(aV T G X).pQ:=by
 refine⟨fun m a ao s k h=>?_,fun c bU ao s k h=>?_⟩
 ·unfold aV;rw[ps G _ a h];rfl
 ·unfold aV;rw[ps G _ c h];exact zH c bU ao s k
theorem K5{f:Nat}{fn:c4}{args:List ae}{s:ag}(eN:T f=some fn)(dm:Nat.beq args.length fn.aek=true)(aY:jH fn.body=true):
  aA T G X f args s=bI args 0 .e fun ao=>aE (aV T G X) fn.body ao (bif fn.bU then s else s.ai) (bA (aV T G X) fn):=by
 rw[zG];unfold body;rw[eN];simp only[dm,bH,aV,ps G _ fn.body aY,EI];congr;funext ao;cases fn.bU<;> rfl
instance:Inhabited (aV T G X).pQ:=⟨Zx T G X⟩
theorem bR{f:Nat}{fn:c4}{args:List ae}{s:ag}(eN:T f=some fn:=by kernel_rfl)(dm:Nat.beq args.length fn.aek=true:=by kernel_rfl)(aY:jH fn.body=true:=by kernel_rfl):aA T G X f args s=bI args 0 .e fun ao=>aE (aV T G X) fn.body ao (bif fn.bU then s else s.ai) (bA (aV T G X) fn):=K5 T G X eN dm aY
end
theorem nQ.pQ.fA{Z:nQ}(h:Z.pQ){m:f5}{a:ad}{ao:eO}{s:ag}{k:fk}{R:ah}(e:jH a=true:=by kernel_rfl)(r:aE Z a ao s k=R:=by kernel_rfl):Z.aK m a ao s k=R:=(h.m m a ao s k e).trans r
theorem nQ.pQ.qo{Z:nQ}(h:Z.pQ){c:ad}{bU:f5}{ao:eO}{s:ag}{k:fk}{R:ah}(e:jH c=true:=by kernel_rfl)(r:aE Z c ao s (ew bU (Z.cG (aE Z c) bU) k)=R:=by kernel_rfl):Z.cG (aE Z c) bU ao s k=R:=(h.l c bU ao s k e).trans r
end Go.Ab
end
section
namespace Go.Ab
variable{T:Nat→Option c4}{G:Nat→ae}{X:Nat→List ae→ag→ah}{s:ag}{k:bd}
theorem hB(n:Option Nat)(v:ae):(aV T G X).aw s k n v=dY (gz G (aA T G X) bQ) s k n v:=rfl
theorem kj(n:Nat)(a v:ae):(aV T G X).bX s k n a v=fe (gz G (aA T G X) bQ) s k n a v:=rfl
theorem cI(v:ae):(aV T G X).ig v s k=k v s:=rfl
theorem cN(v:ae):(aV T G X).aj s k (some v)=k v s:=rfl
theorem b0(t:Bool)(a b:ae):(aV T G X).bS s k (.bool t) a b=k (if t=true then a else b) s:=by cases t<;> rfl
theorem bo(t:Bool)(a b:ah):(aV T G X).aP (.bool t) a b=if t=true then a else b:=by cases t<;> rfl
theorem vP(t w:Bool)(op:bd→ah):(aV T G X).af (.bool t) w op s k=if t=w then op k else k (.d0 []) s:=by cases t<;> cases w<;> rfl
theorem b3(l:List ae)(w:Bool)(op:bd→ah):(aV T G X).af (.d0 l) w op s k=k (.d0 []) s:=rfl
def nR(v:ae)(op:bd→ah)(s:ag)(k:bd):ah:=
 match v with
 |.bool b=>bif b then op k else k (.bool false) s
 |_=>.fail
def sW(v:ae)(op:bd→ah)(s:ag)(k:bd):ah:=
 match v with
 |.bool b=>bif b then k (.bool true) s else op k
 |_=>.fail
theorem b5(t:Bool)(op:bd→ah):nR (.bool t) op s k=if t=true then op k else k (.bool false) s:=by cases t<;> rfl
theorem c6(t:Bool)(op:bd→ah):sW (.bool t) op s k=if t=true then k (.bool true) s else op k:=by cases t<;> rfl
theorem cd(v:ae)(gU:bd→ah):(aV T G X).af v true (gU) s (fun bT s1=>(aV T G X).bS s1 k v bT (.bool false))=nR v (fun k=>gU k) s k:=by
 cases v<;> try rfl
 rename_i b;cases b<;> rfl
theorem c7(v:ae)(gU:bd→ah):(aV T G X).af v false (gU) s (fun bT s1=>(aV T G X).bS s1 k v (.bool true) bT)=sW v (fun k=>gU k) s k:=by
 cases v<;> try rfl
 rename_i b;cases b<;> rfl
theorem cf(v:ae)(gU:bd→ah)(e:ae→ag→bd→ah):(aV T G X).af v true (gU) s (fun bT s1=>(aV T G X).af v true (e bT s1) s1 (fun h s2=>(aV T G X).bS s2 k v h (.bool false)))=nR v (fun k=>gU (fun bT s1=>e bT s1 k)) s k:=by
 cases v<;> try rfl
 rename_i b;cases b<;> rfl
theorem c8(v:ae)(gU:bd→ah)(e:ae→ag→bd→ah):(aV T G X).af v false (gU) s (fun bT s1=>(aV T G X).af v false (e bT s1) s1 (fun h s2=>(aV T G X).bS s2 k v (.bool true) h))=sW v (fun k=>gU (fun bT s1=>e bT s1 k)) s k:=by
 cases v<;> try rfl
 rename_i b;cases b<;> rfl
theorem b6(v:ae)(gU:bd→ah)(h:ae→ag→bd→ah)(r:ae→ag→ae→ag→bd→ah):(aV T G X).af v true (gU) s (fun bT s1=>(aV T G X).af v true (h bT s1) s1 (fun e s2=>(aV T G X).af v true (r bT s1 e s2) s2 (fun u y=>(aV T G X).bS y k v u (.bool false))))=nR v (fun k=>gU (fun bT s1=>h bT s1 (fun e s2=>r bT s1 e s2 k))) s k:=by
 cases v<;> try rfl
 rename_i b;cases b<;> rfl
theorem c9(v:ae)(gU:bd→ah)(h:ae→ag→bd→ah)(r:ae→ag→ae→ag→bd→ah):(aV T G X).af v false (gU) s (fun bT s1=>(aV T G X).af v false (h bT s1) s1 (fun e s2=>(aV T G X).af v false (r bT s1 e s2) s2 (fun u y=>(aV T G X).bS y k v (.bool true) u)))=sW v (fun k=>gU (fun bT s1=>h bT s1 (fun e s2=>r bT s1 e s2 k))) s k:=by
 cases v<;> try rfl
 rename_i b;cases b<;> rfl
theorem cg(v:ae)(gU:bd→ah)(u:ae→ag→bd→ah)(y:ae→ag→ae→ag→bd→ah)(A:ae→ag→ae→ag→ae→ag→bd→ah):(aV T G X).af v true (gU) s (fun bT s1=>(aV T G X).af v true (u bT s1) s1 (fun e s2=>(aV T G X).af v true (y bT s1 e s2) s2 (fun r h=>(aV T G X).af v true (A bT s1 e s2 r h) h (fun B F=>(aV T G X).bS F k v B (.bool false)))))=nR v (fun k=>gU (fun bT s1=>u bT s1 (fun e s2=>y bT s1 e s2 (fun r h=>A bT s1 e s2 r h k)))) s k:=by
 cases v<;> try rfl
 rename_i b;cases b<;> rfl
theorem da(v:ae)(gU:bd→ah)(u:ae→ag→bd→ah)(y:ae→ag→ae→ag→bd→ah)(A:ae→ag→ae→ag→ae→ag→bd→ah):(aV T G X).af v false (gU) s (fun bT s1=>(aV T G X).af v false (u bT s1) s1 (fun e s2=>(aV T G X).af v false (y bT s1 e s2) s2 (fun r h=>(aV T G X).af v false (A bT s1 e s2 r h) h (fun B F=>(aV T G X).bS F k v (.bool true) B))))=sW v (fun k=>gU (fun bT s1=>u bT s1 (fun e s2=>y bT s1 e s2 (fun r h=>A bT s1 e s2 r h k)))) s k:=by
 cases v<;> try rfl
 rename_i b;cases b<;> rfl
theorem ch(v:ae)(gU:bd→ah)(A:ae→ag→bd→ah)(B:ae→ag→ae→ag→bd→ah)(F:ae→ag→ae→ag→ae→ag→bd→ah)(H:ae→ag→ae→ag→ae→ag→ae→ag→bd→ah):(aV T G X).af v true (gU) s (fun bT s1=>(aV T G X).af v true (A bT s1) s1 (fun e s2=>(aV T G X).af v true (B bT s1 e s2) s2 (fun r h=>(aV T G X).af v true (F bT s1 e s2 r h) h (fun y u=>(aV T G X).af v true (H bT s1 e s2 r h y u) u (fun I J=>(aV T G X).bS J k v I (.bool false))))))=nR v (fun k=>gU (fun bT s1=>A bT s1 (fun e s2=>B bT s1 e s2 (fun r h=>F bT s1 e s2 r h (fun y u=>H bT s1 e s2 r h y u k))))) s k:=by
 cases v<;> try rfl
 rename_i b;cases b<;> rfl
theorem db(v:ae)(gU:bd→ah)(A:ae→ag→bd→ah)(B:ae→ag→ae→ag→bd→ah)(F:ae→ag→ae→ag→ae→ag→bd→ah)(H:ae→ag→ae→ag→ae→ag→ae→ag→bd→ah):(aV T G X).af v false (gU) s (fun bT s1=>(aV T G X).af v false (A bT s1) s1 (fun e s2=>(aV T G X).af v false (B bT s1 e s2) s2 (fun r h=>(aV T G X).af v false (F bT s1 e s2 r h) h (fun y u=>(aV T G X).af v false (H bT s1 e s2 r h y u) u (fun I J=>(aV T G X).bS J k v (.bool true) I)))))=sW v (fun k=>gU (fun bT s1=>A bT s1 (fun e s2=>B bT s1 e s2 (fun r h=>F bT s1 e s2 r h (fun y u=>H bT s1 e s2 r h y u k))))) s k:=by
 cases v<;> try rfl
 rename_i b;cases b<;> rfl
theorem ci(v:ae)(gU:bd→ah)(F:ae→ag→bd→ah)(H:ae→ag→ae→ag→bd→ah)(I:ae→ag→ae→ag→ae→ag→bd→ah)(J:ae→ag→ae→ag→ae→ag→ae→ag→bd→ah)(K:ae→ag→ae→ag→ae→ag→ae→ag→ae→ag→bd→ah):(aV T G X).af v true (gU) s (fun bT s1=>(aV T G X).af v true (F bT s1) s1 (fun e s2=>(aV T G X).af v true (H bT s1 e s2) s2 (fun r h=>(aV T G X).af v true (I bT s1 e s2 r h) h (fun y u=>(aV T G X).af v true (J bT s1 e s2 r h y u) u (fun B A=>(aV T G X).af v true (K bT s1 e s2 r h y u B A) A (fun M N=>(aV T G X).bS N k v M (.bool false)))))))=nR v (fun k=>gU (fun bT s1=>F bT s1 (fun e s2=>H bT s1 e s2 (fun r h=>I bT s1 e s2 r h (fun y u=>J bT s1 e s2 r h y u (fun B A=>K bT s1 e s2 r h y u B A k)))))) s k:=by
 cases v<;> try rfl
 rename_i b;cases b<;> rfl
theorem dc(v:ae)(gU:bd→ah)(F:ae→ag→bd→ah)(H:ae→ag→ae→ag→bd→ah)(I:ae→ag→ae→ag→ae→ag→bd→ah)(J:ae→ag→ae→ag→ae→ag→ae→ag→bd→ah)(K:ae→ag→ae→ag→ae→ag→ae→ag→ae→ag→bd→ah):(aV T G X).af v false (gU) s (fun bT s1=>(aV T G X).af v false (F bT s1) s1 (fun e s2=>(aV T G X).af v false (H bT s1 e s2) s2 (fun r h=>(aV T G X).af v false (I bT s1 e s2 r h) h (fun y u=>(aV T G X).af v false (J bT s1 e s2 r h y u) u (fun B A=>(aV T G X).af v false (K bT s1 e s2 r h y u B A) A (fun M N=>(aV T G X).bS N k v (.bool true) M))))))=sW v (fun k=>gU (fun bT s1=>F bT s1 (fun e s2=>H bT s1 e s2 (fun r h=>I bT s1 e s2 r h (fun y u=>J bT s1 e s2 r h y u (fun B A=>K bT s1 e s2 r h y u B A k)))))) s k:=by
 cases v<;> try rfl
 rename_i b;cases b<;> rfl
theorem cj(v:ae)(gU:bd→ah)(I:ae→ag→bd→ah)(J:ae→ag→ae→ag→bd→ah)(K:ae→ag→ae→ag→ae→ag→bd→ah)(M:ae→ag→ae→ag→ae→ag→ae→ag→bd→ah)(N:ae→ag→ae→ag→ae→ag→ae→ag→ae→ag→bd→ah)(O:ae→ag→ae→ag→ae→ag→ae→ag→ae→ag→ae→ag→bd→ah):(aV T G X).af v true (gU) s (fun bT s1=>(aV T G X).af v true (I bT s1) s1 (fun e s2=>(aV T G X).af v true (J bT s1 e s2) s2 (fun r h=>(aV T G X).af v true (K bT s1 e s2 r h) h (fun y u=>(aV T G X).af v true (M bT s1 e s2 r h y u) u (fun B A=>(aV T G X).af v true (N bT s1 e s2 r h y u B A) A (fun H F=>(aV T G X).af v true (O bT s1 e s2 r h y u B A H F) F (fun U V=>(aV T G X).bS V k v U (.bool false))))))))=nR v (fun k=>gU (fun bT s1=>I bT s1 (fun e s2=>J bT s1 e s2 (fun r h=>K bT s1 e s2 r h (fun y u=>M bT s1 e s2 r h y u (fun B A=>N bT s1 e s2 r h y u B A (fun H F=>O bT s1 e s2 r h y u B A H F k))))))) s k:=by
 cases v<;> try rfl
 rename_i b;cases b<;> rfl
theorem dd(v:ae)(gU:bd→ah)(I:ae→ag→bd→ah)(J:ae→ag→ae→ag→bd→ah)(K:ae→ag→ae→ag→ae→ag→bd→ah)(M:ae→ag→ae→ag→ae→ag→ae→ag→bd→ah)(N:ae→ag→ae→ag→ae→ag→ae→ag→ae→ag→bd→ah)(O:ae→ag→ae→ag→ae→ag→ae→ag→ae→ag→ae→ag→bd→ah):(aV T G X).af v false (gU) s (fun bT s1=>(aV T G X).af v false (I bT s1) s1 (fun e s2=>(aV T G X).af v false (J bT s1 e s2) s2 (fun r h=>(aV T G X).af v false (K bT s1 e s2 r h) h (fun y u=>(aV T G X).af v false (M bT s1 e s2 r h y u) u (fun B A=>(aV T G X).af v false (N bT s1 e s2 r h y u B A) A (fun H F=>(aV T G X).af v false (O bT s1 e s2 r h y u B A H F) F (fun U V=>(aV T G X).bS V k v (.bool true) U)))))))=sW v (fun k=>gU (fun bT s1=>I bT s1 (fun e s2=>J bT s1 e s2 (fun r h=>K bT s1 e s2 r h (fun y u=>M bT s1 e s2 r h y u (fun B A=>N bT s1 e s2 r h y u B A (fun H F=>O bT s1 e s2 r h y u B A H F k))))))) s k:=by
 cases v<;> try rfl
 rename_i b;cases b<;> rfl
theorem ck(v:ae)(gU:bd→ah)(K:ae→ag→bd→ah)(M:ae→ag→ae→ag→bd→ah)(N:ae→ag→ae→ag→ae→ag→bd→ah)(O:ae→ag→ae→ag→ae→ag→ae→ag→bd→ah)(U:ae→ag→ae→ag→ae→ag→ae→ag→ae→ag→bd→ah)(V:ae→ag→ae→ag→ae→ag→ae→ag→ae→ag→ae→ag→bd→ah)(Y:ae→ag→ae→ag→ae→ag→ae→ag→ae→ag→ae→ag→ae→ag→bd→ah):(aV T G X).af v true (gU) s (fun bT s1=>(aV T G X).af v true (K bT s1) s1 (fun e s2=>(aV T G X).af v true (M bT s1 e s2) s2 (fun r h=>(aV T G X).af v true (N bT s1 e s2 r h) h (fun y u=>(aV T G X).af v true (O bT s1 e s2 r h y u) u (fun B A=>(aV T G X).af v true (U bT s1 e s2 r h y u B A) A (fun H F=>(aV T G X).af v true (V bT s1 e s2 r h y u B A H F) F (fun J I=>(aV T G X).af v true (Y bT s1 e s2 r h y u B A H F J I) I (fun Z aa=>(aV T G X).bS aa k v Z (.bool false)))))))))=nR v (fun k=>gU (fun bT s1=>K bT s1 (fun e s2=>M bT s1 e s2 (fun r h=>N bT s1 e s2 r h (fun y u=>O bT s1 e s2 r h y u (fun B A=>U bT s1 e s2 r h y u B A (fun H F=>V bT s1 e s2 r h y u B A H F (fun J I=>Y bT s1 e s2 r h y u B A H F J I k)))))))) s k:=by
 cases v<;> try rfl
 rename_i b;cases b<;> rfl
theorem de(v:ae)(gU:bd→ah)(K:ae→ag→bd→ah)(M:ae→ag→ae→ag→bd→ah)(N:ae→ag→ae→ag→ae→ag→bd→ah)(O:ae→ag→ae→ag→ae→ag→ae→ag→bd→ah)(U:ae→ag→ae→ag→ae→ag→ae→ag→ae→ag→bd→ah)(V:ae→ag→ae→ag→ae→ag→ae→ag→ae→ag→ae→ag→bd→ah)(Y:ae→ag→ae→ag→ae→ag→ae→ag→ae→ag→ae→ag→ae→ag→bd→ah):(aV T G X).af v false (gU) s (fun bT s1=>(aV T G X).af v false (K bT s1) s1 (fun e s2=>(aV T G X).af v false (M bT s1 e s2) s2 (fun r h=>(aV T G X).af v false (N bT s1 e s2 r h) h (fun y u=>(aV T G X).af v false (O bT s1 e s2 r h y u) u (fun B A=>(aV T G X).af v false (U bT s1 e s2 r h y u B A) A (fun H F=>(aV T G X).af v false (V bT s1 e s2 r h y u B A H F) F (fun J I=>(aV T G X).af v false (Y bT s1 e s2 r h y u B A H F J I) I (fun Z aa=>(aV T G X).bS aa k v (.bool true) Z))))))))=sW v (fun k=>gU (fun bT s1=>K bT s1 (fun e s2=>M bT s1 e s2 (fun r h=>N bT s1 e s2 r h (fun y u=>O bT s1 e s2 r h y u (fun B A=>U bT s1 e s2 r h y u B A (fun H F=>V bT s1 e s2 r h y u B A H F (fun J I=>Y bT s1 e s2 r h y u B A H F J I k)))))))) s k:=by
 cases v<;> try rfl
 rename_i b;cases b<;> rfl
theorem cl(v:ae)(gU:bd→ah)(N:ae→ag→bd→ah)(O:ae→ag→ae→ag→bd→ah)(U:ae→ag→ae→ag→ae→ag→bd→ah)(V:ae→ag→ae→ag→ae→ag→ae→ag→bd→ah)(Y:ae→ag→ae→ag→ae→ag→ae→ag→ae→ag→bd→ah)(Z:ae→ag→ae→ag→ae→ag→ae→ag→ae→ag→ae→ag→bd→ah)(aa:ae→ag→ae→ag→ae→ag→ae→ag→ae→ag→ae→ag→ae→ag→bd→ah)(ab:ae→ag→ae→ag→ae→ag→ae→ag→ae→ag→ae→ag→ae→ag→ae→ag→bd→ah):(aV T G X).af v true (gU) s (fun bT s1=>(aV T G X).af v true (N bT s1) s1 (fun e s2=>(aV T G X).af v true (O bT s1 e s2) s2 (fun r h=>(aV T G X).af v true (U bT s1 e s2 r h) h (fun y u=>(aV T G X).af v true (V bT s1 e s2 r h y u) u (fun B A=>(aV T G X).af v true (Y bT s1 e s2 r h y u B A) A (fun H F=>(aV T G X).af v true (Z bT s1 e s2 r h y u B A H F) F (fun J I=>(aV T G X).af v true (aa bT s1 e s2 r h y u B A H F J I) I (fun M K=>(aV T G X).af v true (ab bT s1 e s2 r h y u B A H F J I M K) K (fun ac ad=>(aV T G X).bS ad k v ac (.bool false))))))))))=nR v (fun k=>gU (fun bT s1=>N bT s1 (fun e s2=>O bT s1 e s2 (fun r h=>U bT s1 e s2 r h (fun y u=>V bT s1 e s2 r h y u (fun B A=>Y bT s1 e s2 r h y u B A (fun H F=>Z bT s1 e s2 r h y u B A H F (fun J I=>aa bT s1 e s2 r h y u B A H F J I (fun M K=>ab bT s1 e s2 r h y u B A H F J I M K k))))))))) s k:=by
 cases v<;> try rfl
 rename_i b;cases b<;> rfl
theorem df(v:ae)(gU:bd→ah)(N:ae→ag→bd→ah)(O:ae→ag→ae→ag→bd→ah)(U:ae→ag→ae→ag→ae→ag→bd→ah)(V:ae→ag→ae→ag→ae→ag→ae→ag→bd→ah)(Y:ae→ag→ae→ag→ae→ag→ae→ag→ae→ag→bd→ah)(Z:ae→ag→ae→ag→ae→ag→ae→ag→ae→ag→ae→ag→bd→ah)(aa:ae→ag→ae→ag→ae→ag→ae→ag→ae→ag→ae→ag→ae→ag→bd→ah)(ab:ae→ag→ae→ag→ae→ag→ae→ag→ae→ag→ae→ag→ae→ag→ae→ag→bd→ah):(aV T G X).af v false (gU) s (fun bT s1=>(aV T G X).af v false (N bT s1) s1 (fun e s2=>(aV T G X).af v false (O bT s1 e s2) s2 (fun r h=>(aV T G X).af v false (U bT s1 e s2 r h) h (fun y u=>(aV T G X).af v false (V bT s1 e s2 r h y u) u (fun B A=>(aV T G X).af v false (Y bT s1 e s2 r h y u B A) A (fun H F=>(aV T G X).af v false (Z bT s1 e s2 r h y u B A H F) F (fun J I=>(aV T G X).af v false (aa bT s1 e s2 r h y u B A H F J I) I (fun M K=>(aV T G X).af v false (ab bT s1 e s2 r h y u B A H F J I M K) K (fun ac ad=>(aV T G X).bS ad k v (.bool true) ac)))))))))=sW v (fun k=>gU (fun bT s1=>N bT s1 (fun e s2=>O bT s1 e s2 (fun r h=>U bT s1 e s2 r h (fun y u=>V bT s1 e s2 r h y u (fun B A=>Y bT s1 e s2 r h y u B A (fun H F=>Z bT s1 e s2 r h y u B A H F (fun J I=>aa bT s1 e s2 r h y u B A H F J I (fun M K=>ab bT s1 e s2 r h y u B A H F J I M K k))))))))) s k:=by
 cases v<;> try rfl
 rename_i b;cases b<;> rfl
theorem bB(v:ae)(gU:bd→ah)(U:ae→ag→bd→ah)(V:ae→ag→ae→ag→bd→ah)(Y:ae→ag→ae→ag→ae→ag→bd→ah)(Z:ae→ag→ae→ag→ae→ag→ae→ag→bd→ah)(aa:ae→ag→ae→ag→ae→ag→ae→ag→ae→ag→bd→ah)(ab:ae→ag→ae→ag→ae→ag→ae→ag→ae→ag→ae→ag→bd→ah)(ac:ae→ag→ae→ag→ae→ag→ae→ag→ae→ag→ae→ag→ae→ag→bd→ah)(ad:ae→ag→ae→ag→ae→ag→ae→ag→ae→ag→ae→ag→ae→ag→ae→ag→bd→ah)(ai:ae→ag→ae→ag→ae→ag→ae→ag→ae→ag→ae→ag→ae→ag→ae→ag→ae→ag→bd→ah):(aV T G X).af v true (gU) s (fun bT s1=>(aV T G X).af v true (U bT s1) s1 (fun e s2=>(aV T G X).af v true (V bT s1 e s2) s2 (fun r h=>(aV T G X).af v true (Y bT s1 e s2 r h) h (fun y u=>(aV T G X).af v true (Z bT s1 e s2 r h y u) u (fun B A=>(aV T G X).af v true (aa bT s1 e s2 r h y u B A) A (fun H F=>(aV T G X).af v true (ab bT s1 e s2 r h y u B A H F) F (fun J I=>(aV T G X).af v true (ac bT s1 e s2 r h y u B A H F J I) I (fun M K=>(aV T G X).af v true (ad bT s1 e s2 r h y u B A H F J I M K) K (fun O N=>(aV T G X).af v true (ai bT s1 e s2 r h y u B A H F J I M K O N) N (fun aj ak=>(aV T G X).bS ak k v aj (.bool false)))))))))))=nR v (fun k=>gU (fun bT s1=>U bT s1 (fun e s2=>V bT s1 e s2 (fun r h=>Y bT s1 e s2 r h (fun y u=>Z bT s1 e s2 r h y u (fun B A=>aa bT s1 e s2 r h y u B A (fun H F=>ab bT s1 e s2 r h y u B A H F (fun J I=>ac bT s1 e s2 r h y u B A H F J I (fun M K=>ad bT s1 e s2 r h y u B A H F J I M K (fun O N=>ai bT s1 e s2 r h y u B A H F J I M K O N k)))))))))) s k:=by
 cases v<;> try rfl
 rename_i b;cases b<;> rfl
theorem cm(v:ae)(gU:bd→ah)(U:ae→ag→bd→ah)(V:ae→ag→ae→ag→bd→ah)(Y:ae→ag→ae→ag→ae→ag→bd→ah)(Z:ae→ag→ae→ag→ae→ag→ae→ag→bd→ah)(aa:ae→ag→ae→ag→ae→ag→ae→ag→ae→ag→bd→ah)(ab:ae→ag→ae→ag→ae→ag→ae→ag→ae→ag→ae→ag→bd→ah)(ac:ae→ag→ae→ag→ae→ag→ae→ag→ae→ag→ae→ag→ae→ag→bd→ah)(ad:ae→ag→ae→ag→ae→ag→ae→ag→ae→ag→ae→ag→ae→ag→ae→ag→bd→ah)(ai:ae→ag→ae→ag→ae→ag→ae→ag→ae→ag→ae→ag→ae→ag→ae→ag→ae→ag→bd→ah):(aV T G X).af v false (gU) s (fun bT s1=>(aV T G X).af v false (U bT s1) s1 (fun e s2=>(aV T G X).af v false (V bT s1 e s2) s2 (fun r h=>(aV T G X).af v false (Y bT s1 e s2 r h) h (fun y u=>(aV T G X).af v false (Z bT s1 e s2 r h y u) u (fun B A=>(aV T G X).af v false (aa bT s1 e s2 r h y u B A) A (fun H F=>(aV T G X).af v false (ab bT s1 e s2 r h y u B A H F) F (fun J I=>(aV T G X).af v false (ac bT s1 e s2 r h y u B A H F J I) I (fun M K=>(aV T G X).af v false (ad bT s1 e s2 r h y u B A H F J I M K) K (fun O N=>(aV T G X).af v false (ai bT s1 e s2 r h y u B A H F J I M K O N) N (fun aj ak=>(aV T G X).bS ak k v (.bool true) aj))))))))))=sW v (fun k=>gU (fun bT s1=>U bT s1 (fun e s2=>V bT s1 e s2 (fun r h=>Y bT s1 e s2 r h (fun y u=>Z bT s1 e s2 r h y u (fun B A=>aa bT s1 e s2 r h y u B A (fun H F=>ab bT s1 e s2 r h y u B A H F (fun J I=>ac bT s1 e s2 r h y u B A H F J I (fun M K=>ad bT s1 e s2 r h y u B A H F J I M K (fun O N=>ai bT s1 e s2 r h y u B A H F J I M K O N k)))))))))) s k:=by
 cases v<;> try rfl
 rename_i b;cases b<;> rfl
theorem bC(v:ae)(gU:bd→ah)(Y:ae→ag→bd→ah)(Z:ae→ag→ae→ag→bd→ah)(aa:ae→ag→ae→ag→ae→ag→bd→ah)(ab:ae→ag→ae→ag→ae→ag→ae→ag→bd→ah)(ac:ae→ag→ae→ag→ae→ag→ae→ag→ae→ag→bd→ah)(ad:ae→ag→ae→ag→ae→ag→ae→ag→ae→ag→ae→ag→bd→ah)(ai:ae→ag→ae→ag→ae→ag→ae→ag→ae→ag→ae→ag→ae→ag→bd→ah)(aj:ae→ag→ae→ag→ae→ag→ae→ag→ae→ag→ae→ag→ae→ag→ae→ag→bd→ah)(ak:ae→ag→ae→ag→ae→ag→ae→ag→ae→ag→ae→ag→ae→ag→ae→ag→ae→ag→bd→ah)(al:ae→ag→ae→ag→ae→ag→ae→ag→ae→ag→ae→ag→ae→ag→ae→ag→ae→ag→ae→ag→bd→ah):(aV T G X).af v true (gU) s (fun bT s1=>(aV T G X).af v true (Y bT s1) s1 (fun e s2=>(aV T G X).af v true (Z bT s1 e s2) s2 (fun r h=>(aV T G X).af v true (aa bT s1 e s2 r h) h (fun y u=>(aV T G X).af v true (ab bT s1 e s2 r h y u) u (fun B A=>(aV T G X).af v true (ac bT s1 e s2 r h y u B A) A (fun H F=>(aV T G X).af v true (ad bT s1 e s2 r h y u B A H F) F (fun J I=>(aV T G X).af v true (ai bT s1 e s2 r h y u B A H F J I) I (fun M K=>(aV T G X).af v true (aj bT s1 e s2 r h y u B A H F J I M K) K (fun O N=>(aV T G X).af v true (ak bT s1 e s2 r h y u B A H F J I M K O N) N (fun V U=>(aV T G X).af v true (al bT s1 e s2 r h y u B A H F J I M K O N V U) U (fun am an=>(aV T G X).bS an k v am (.bool false))))))))))))=nR v (fun k=>gU (fun bT s1=>Y bT s1 (fun e s2=>Z bT s1 e s2 (fun r h=>aa bT s1 e s2 r h (fun y u=>ab bT s1 e s2 r h y u (fun B A=>ac bT s1 e s2 r h y u B A (fun H F=>ad bT s1 e s2 r h y u B A H F (fun J I=>ai bT s1 e s2 r h y u B A H F J I (fun M K=>aj bT s1 e s2 r h y u B A H F J I M K (fun O N=>ak bT s1 e s2 r h y u B A H F J I M K O N (fun V U=>al bT s1 e s2 r h y u B A H F J I M K O N V U k))))))))))) s k:=by
 cases v<;> try rfl
 rename_i b;cases b<;> rfl
theorem cn(v:ae)(gU:bd→ah)(Y:ae→ag→bd→ah)(Z:ae→ag→ae→ag→bd→ah)(aa:ae→ag→ae→ag→ae→ag→bd→ah)(ab:ae→ag→ae→ag→ae→ag→ae→ag→bd→ah)(ac:ae→ag→ae→ag→ae→ag→ae→ag→ae→ag→bd→ah)(ad:ae→ag→ae→ag→ae→ag→ae→ag→ae→ag→ae→ag→bd→ah)(ai:ae→ag→ae→ag→ae→ag→ae→ag→ae→ag→ae→ag→ae→ag→bd→ah)(aj:ae→ag→ae→ag→ae→ag→ae→ag→ae→ag→ae→ag→ae→ag→ae→ag→bd→ah)(ak:ae→ag→ae→ag→ae→ag→ae→ag→ae→ag→ae→ag→ae→ag→ae→ag→ae→ag→bd→ah)(al:ae→ag→ae→ag→ae→ag→ae→ag→ae→ag→ae→ag→ae→ag→ae→ag→ae→ag→ae→ag→bd→ah):(aV T G X).af v false (gU) s (fun bT s1=>(aV T G X).af v false (Y bT s1) s1 (fun e s2=>(aV T G X).af v false (Z bT s1 e s2) s2 (fun r h=>(aV T G X).af v false (aa bT s1 e s2 r h) h (fun y u=>(aV T G X).af v false (ab bT s1 e s2 r h y u) u (fun B A=>(aV T G X).af v false (ac bT s1 e s2 r h y u B A) A (fun H F=>(aV T G X).af v false (ad bT s1 e s2 r h y u B A H F) F (fun J I=>(aV T G X).af v false (ai bT s1 e s2 r h y u B A H F J I) I (fun M K=>(aV T G X).af v false (aj bT s1 e s2 r h y u B A H F J I M K) K (fun O N=>(aV T G X).af v false (ak bT s1 e s2 r h y u B A H F J I M K O N) N (fun V U=>(aV T G X).af v false (al bT s1 e s2 r h y u B A H F J I M K O N V U) U (fun am an=>(aV T G X).bS an k v (.bool true) am)))))))))))=sW v (fun k=>gU (fun bT s1=>Y bT s1 (fun e s2=>Z bT s1 e s2 (fun r h=>aa bT s1 e s2 r h (fun y u=>ab bT s1 e s2 r h y u (fun B A=>ac bT s1 e s2 r h y u B A (fun H F=>ad bT s1 e s2 r h y u B A H F (fun J I=>ai bT s1 e s2 r h y u B A H F J I (fun M K=>aj bT s1 e s2 r h y u B A H F J I M K (fun O N=>ak bT s1 e s2 r h y u B A H F J I M K O N (fun V U=>al bT s1 e s2 r h y u B A H F J I M K O N V U k))))))))))) s k:=by
 cases v<;> try rfl
 rename_i b;cases b<;> rfl
theorem bD(v:ae)(gU:bd→ah)(aa:ae→ag→bd→ah)(ab:ae→ag→ae→ag→bd→ah)(ac:ae→ag→ae→ag→ae→ag→bd→ah)(ad:ae→ag→ae→ag→ae→ag→ae→ag→bd→ah)(ai:ae→ag→ae→ag→ae→ag→ae→ag→ae→ag→bd→ah)(aj:ae→ag→ae→ag→ae→ag→ae→ag→ae→ag→ae→ag→bd→ah)(ak:ae→ag→ae→ag→ae→ag→ae→ag→ae→ag→ae→ag→ae→ag→bd→ah)(al:ae→ag→ae→ag→ae→ag→ae→ag→ae→ag→ae→ag→ae→ag→ae→ag→bd→ah)(am:ae→ag→ae→ag→ae→ag→ae→ag→ae→ag→ae→ag→ae→ag→ae→ag→ae→ag→bd→ah)(an:ae→ag→ae→ag→ae→ag→ae→ag→ae→ag→ae→ag→ae→ag→ae→ag→ae→ag→ae→ag→bd→ah)(ao:ae→ag→ae→ag→ae→ag→ae→ag→ae→ag→ae→ag→ae→ag→ae→ag→ae→ag→ae→ag→ae→ag→bd→ah):(aV T G X).af v true (gU) s (fun bT s1=>(aV T G X).af v true (aa bT s1) s1 (fun e s2=>(aV T G X).af v true (ab bT s1 e s2) s2 (fun r h=>(aV T G X).af v true (ac bT s1 e s2 r h) h (fun y u=>(aV T G X).af v true (ad bT s1 e s2 r h y u) u (fun B A=>(aV T G X).af v true (ai bT s1 e s2 r h y u B A) A (fun H F=>(aV T G X).af v true (aj bT s1 e s2 r h y u B A H F) F (fun J I=>(aV T G X).af v true (ak bT s1 e s2 r h y u B A H F J I) I (fun M K=>(aV T G X).af v true (al bT s1 e s2 r h y u B A H F J I M K) K (fun O N=>(aV T G X).af v true (am bT s1 e s2 r h y u B A H F J I M K O N) N (fun V U=>(aV T G X).af v true (an bT s1 e s2 r h y u B A H F J I M K O N V U) U (fun Z Y=>(aV T G X).af v true (ao bT s1 e s2 r h y u B A H F J I M K O N V U Z Y) Y (fun ap aq=>(aV T G X).bS aq k v ap (.bool false)))))))))))))=nR v (fun k=>gU (fun bT s1=>aa bT s1 (fun e s2=>ab bT s1 e s2 (fun r h=>ac bT s1 e s2 r h (fun y u=>ad bT s1 e s2 r h y u (fun B A=>ai bT s1 e s2 r h y u B A (fun H F=>aj bT s1 e s2 r h y u B A H F (fun J I=>ak bT s1 e s2 r h y u B A H F J I (fun M K=>al bT s1 e s2 r h y u B A H F J I M K (fun O N=>am bT s1 e s2 r h y u B A H F J I M K O N (fun V U=>an bT s1 e s2 r h y u B A H F J I M K O N V U (fun Z Y=>ao bT s1 e s2 r h y u B A H F J I M K O N V U Z Y k)))))))))))) s k:=by
 cases v<;> try rfl
 rename_i b;cases b<;> rfl
theorem co(v:ae)(gU:bd→ah)(aa:ae→ag→bd→ah)(ab:ae→ag→ae→ag→bd→ah)(ac:ae→ag→ae→ag→ae→ag→bd→ah)(ad:ae→ag→ae→ag→ae→ag→ae→ag→bd→ah)(ai:ae→ag→ae→ag→ae→ag→ae→ag→ae→ag→bd→ah)(aj:ae→ag→ae→ag→ae→ag→ae→ag→ae→ag→ae→ag→bd→ah)(ak:ae→ag→ae→ag→ae→ag→ae→ag→ae→ag→ae→ag→ae→ag→bd→ah)(al:ae→ag→ae→ag→ae→ag→ae→ag→ae→ag→ae→ag→ae→ag→ae→ag→bd→ah)(am:ae→ag→ae→ag→ae→ag→ae→ag→ae→ag→ae→ag→ae→ag→ae→ag→ae→ag→bd→ah)(an:ae→ag→ae→ag→ae→ag→ae→ag→ae→ag→ae→ag→ae→ag→ae→ag→ae→ag→ae→ag→bd→ah)(ao:ae→ag→ae→ag→ae→ag→ae→ag→ae→ag→ae→ag→ae→ag→ae→ag→ae→ag→ae→ag→ae→ag→bd→ah):(aV T G X).af v false (gU) s (fun bT s1=>(aV T G X).af v false (aa bT s1) s1 (fun e s2=>(aV T G X).af v false (ab bT s1 e s2) s2 (fun r h=>(aV T G X).af v false (ac bT s1 e s2 r h) h (fun y u=>(aV T G X).af v false (ad bT s1 e s2 r h y u) u (fun B A=>(aV T G X).af v false (ai bT s1 e s2 r h y u B A) A (fun H F=>(aV T G X).af v false (aj bT s1 e s2 r h y u B A H F) F (fun J I=>(aV T G X).af v false (ak bT s1 e s2 r h y u B A H F J I) I (fun M K=>(aV T G X).af v false (al bT s1 e s2 r h y u B A H F J I M K) K (fun O N=>(aV T G X).af v false (am bT s1 e s2 r h y u B A H F J I M K O N) N (fun V U=>(aV T G X).af v false (an bT s1 e s2 r h y u B A H F J I M K O N V U) U (fun Z Y=>(aV T G X).af v false (ao bT s1 e s2 r h y u B A H F J I M K O N V U Z Y) Y (fun ap aq=>(aV T G X).bS aq k v (.bool true) ap))))))))))))=sW v (fun k=>gU (fun bT s1=>aa bT s1 (fun e s2=>ab bT s1 e s2 (fun r h=>ac bT s1 e s2 r h (fun y u=>ad bT s1 e s2 r h y u (fun B A=>ai bT s1 e s2 r h y u B A (fun H F=>aj bT s1 e s2 r h y u B A H F (fun J I=>ak bT s1 e s2 r h y u B A H F J I (fun M K=>al bT s1 e s2 r h y u B A H F J I M K (fun O N=>am bT s1 e s2 r h y u B A H F J I M K O N (fun V U=>an bT s1 e s2 r h y u B A H F J I M K O N V U (fun Z Y=>ao bT s1 e s2 r h y u B A H F J I M K O N V U Z Y k)))))))))))) s k:=by
 cases v<;> try rfl
 rename_i b;cases b<;> rfl
theorem K6(v:ae)(h:v.fa=true):(aV T G X).pR v s k=k (.ref (.l s.own.length) 0) (s.new (.cells (v.ap s.aa).cells)):=by show vK v s k=_;unfold vK;rw[h];rfl
section
variable(cs:List ae)(ev:IntKind)(n:Int)(b:Bool)(e8:List Nat)(a:Loc)(o sz:Nat)(es:List ae)(g:eZ)(f:Nat)
theorem aF:(aV T G X).e4 (.agg cs) s k=k (.bh cs) s:=rfl
theorem aC:(aV T G X).e4 (.int ev n) s k=k (.bh [.int ev n]) s:=rfl
theorem ax:(aV T G X).e4 (.bool b) s k=k (.bh [.bool b]) s:=rfl
theorem aG:(aV T G X).e4 (.str e8) s k=k (.bh [.str e8]) s:=rfl
theorem aO:(aV T G X).e4 (.bW sz es g) s k=k (.bh [.bW sz es (g.ap s.aa)]) s:=rfl
theorem aQ:(aV T G X).e4 (.fn f cs) s k=k (.bh [.fn f cs]) s:=rfl
theorem ay:(aV T G X).e4 (.bh cs) s k=k (.bh [.bh cs]) s:=rfl
theorem aH:(aV T G X).e4 (.ref a o) s k=k (.bh [.ref (a.ap s.aa) o]) s:=rfl
end
theorem aB(sz:Nat)(es:List ae)(g:eZ):(aV T G X).cW s k false (.bW sz es g)=k (.int .i64 es.length) s:=rfl
theorem aW(a:Loc)(off n c sz:Nat):(aV T G X).cW s k false (.cO a off n c sz)=k (.int .i64 n) s:=rfl
theorem a1(e8:List Nat):(aV T G X).cW s k true (.str e8)=k (.int .i64 e8.length) s:=rfl
theorem bg(c:ae)(cs:List ae):(aV T G X).aw s k none (.bh (c::cs))=k c s:=rfl
theorem bk(n:Nat)(cs:List ae)(h:n≤cs.length):(aV T G X).aw s k (some n) (.bh cs)=k (.agg (cs.take n)) s:=by show(bif Nat.ble n cs.length then _ else _)=_;rw[show Nat.ble n cs.length=true from et h];rfl
theorem dP(off:Nat)(cs:List ae):(aV T G X).aS s k off (.bh cs)=k (.bh (cs.drop off)) s:=rfl
theorem aI(off o:Nat)(a:Loc):(aV T G X).aS s k off (.ref a o)=k (.ref a (o+off)) s:=rfl
theorem g9(ev:IntKind)(n:Nat):e1 (.int ev (n:Int))=some n:=by simp [e1]
theorem k3(sz:Nat)(es:List ae)(g:eZ)(ev:IntKind)(i:Nat)(e:ae)(h:es[i]? =some e):(aV T G X).cc s k sz (.bW sz es g) (.int ev (i:Int))=k (.bh e.cells) s:=by show kK (gz G (aA T G X) bQ) s k sz (.bW sz es g) (.int ev (i:Int))=_;unfold kK;rw[g9];simp only[show Nat.beq sz sz=true from ft sz,bH,h];rfl
theorem HD(sz:Nat)(es:List ae)(g:eZ)(ev:IntKind)(i:Int)(e:ae)(eS:0≤i)(h:es[i.toNat]? =some e):(aV T G X).cc s k sz (.bW sz es g) (.int ev i)=k (.bh e.cells) s:=by
 have:=k3 (T:=T) (G:=G) (X:=X) (s:=s) (k:=k) sz es g ev i.toNat e h
 rwa [Int.toNat_of_nonneg eS] at this
theorem na{f:Nat}{args:List ae}{v:ae}{s':ag}(h:aA T G X f args s=.ok v s')(cP:s'.aa=s.aa):(aV T G X).bn s k f args=k v s':=by show eA _ _ _ _ _ _=_;unfold eA;show(match aA T G X f args s with |.ok v s'=>_|.panic v s'=>_|.fail=>_)=_;rw[h];simp only[cP,ft,bH]
theorem a8{f:Nat}{args:List ae}{v:ae}(h:aA T G X f args s=.ok v s):(aV T G X).bn s k f args=k v s:=na h rfl
theorem bw{f:Nat}{dI args:List ae}:(aV T G X).rL s k (.fn f dI) args=(aV T G X).bn s k f (args++dI):=rfl
theorem lv{f:Nat}{args:List ae}{v:ae}{s':ag}(e:ae.aZ args=true)(h:aA T G X f args {own:=[],up:=[],ro:=[]}=.ok v s')(bM:v.bc=true):(aV T G X).gR s k f args=k v s:=by show hD _ _ _ _ _=_;unfold hD;rw[e];simp only[bH];show(match aA T G X f args _ with |.ok v _=>_|_=>_)=_;rw[h];simp only[bM,bH]
theorem gA(i:Nat)(vs:List ae)(v:ae)(h:vs[i]? =some v):(aV T G X).ca s k i (.d0 vs)=k v s:=by show qV _ _ _ _=_;rw[h];rfl
section
variable(ev:IntKind)(a b:Int)
theorem Zy:al .add (.int ev a) (.int ev b)=some (.int ev (ev.wrap (a+b))):=by simp [al,gr]
theorem Zz:al .sub (.int ev a) (.int ev b)=some (.int ev (ev.wrap (a-b))):=by simp [al,gr]
theorem ZA:al .mul (.int ev a) (.int ev b)=some (.int ev (ev.wrap (a*b))):=by simp [al,gr]
theorem ZB(h:b≠0):al .quo (.int ev a) (.int ev b)=some (.int ev (ev.wrap (a.tdiv b))):=by simp [al,gr,h]
theorem ZC(h:b≠0):al .rem (.int ev a) (.int ev b)=some (.int ev (a.tmod b)):=by simp [al,gr,h]
theorem ZD:al .eql (.int ev a) (.int ev b)=some (.bool (decide (a=b))):=by simp only[al,gr,↓reduceIte];congr 2
theorem ZE:al .neq (.int ev a) (.int ev b)=some (.bool (decide (¬a=b))):=by simp only[al,gr,↓reduceIte,bne];congr 2;by_cases h:a=b<;> simp [h]
theorem ZF:al .lss (.int ev a) (.int ev b)=some (.bool (decide (a<b))):=by simp [al,gr]
theorem ZG:al .leq (.int ev a) (.int ev b)=some (.bool (decide (a≤b))):=by simp [al,gr]
theorem ZH:al .gtr (.int ev a) (.int ev b)=some (.bool (decide (b<a))):=by simp [al,gr]
theorem ZI:al .geq (.int ev a) (.int ev b)=some (.bool (decide (b≤a))):=by simp [al,gr]
end
section
variable(ev:IntKind)(a b:Int)
theorem fp:(aV T G X).aj s k (al .add (.int ev a) (.int ev b))=k (.int ev (ev.wrap (a+b))) s:=by rw[Zy];rfl
theorem fK:(aV T G X).aj s k (al .sub (.int ev a) (.int ev b))=k (.int ev (ev.wrap (a-b))) s:=by rw[Zz];rfl
theorem f0:(aV T G X).aj s k (al .mul (.int ev a) (.int ev b))=k (.int ev (ev.wrap (a*b))) s:=by rw[ZA];rfl
theorem Mz(h:b≠0):(aV T G X).aj s k (al .quo (.int ev a) (.int ev b))=k (.int ev (ev.wrap (a.tdiv b))) s:=by rw[ZB _ _ _ h];rfl
theorem MA(h:b≠0):(aV T G X).aj s k (al .rem (.int ev a) (.int ev b))=k (.int ev (a.tmod b)) s:=by rw[ZC _ _ _ h];rfl
theorem bJ:(aV T G X).aj s k (al .eql (.int ev a) (.int ev b))=k (.bool (decide (a=b))) s:=by rw[ZD];rfl
theorem cL:(aV T G X).aj s k (al .neq (.int ev a) (.int ev b))=k (.bool (decide (¬a=b))) s:=by rw[ZE];rfl
theorem be:(aV T G X).aj s k (al .lss (.int ev a) (.int ev b))=k (.bool (decide (a<b))) s:=by rw[ZF];rfl
theorem c0:(aV T G X).aj s k (al .leq (.int ev a) (.int ev b))=k (.bool (decide (a≤b))) s:=by rw[ZG];rfl
theorem bZ:(aV T G X).aj s k (al .gtr (.int ev a) (.int ev b))=k (.bool (decide (b<a))) s:=by rw[ZH];rfl
theorem cJ:(aV T G X).aj s k (al .geq (.int ev a) (.int ev b))=k (.bool (decide (b≤a))) s:=by rw[ZI];rfl
theorem cT(t:Bool):(aV T G X).aj s k (kn .not (.bool t))=k (.bool (!t)) s:=rfl
theorem dg:(aV T G X).aj s k (kn .neg (.int ev a))=k (.int ev (ev.wrap (0-a))) s:=rfl
end
theorem eP(a:Int)(ar: -9223372036854775808≤a)(av:a≤9223372036854775807):IntKind.wrap .i64 a=a:=IntWalk.i64_in a ⟨ar,av⟩
def ae.plain:ae→Bool
 |.int .. |.bool _|.str _|.hJ|.hZ|.hK|.fh=>true
 |_=>false
theorem yd{s:ag}{v:ae}(h:v.plain=true):freeze s v=some v:=by cases v<;> simp [ae.plain] at h<;> rfl
section
variable{own:List cU}{u:List cU}{dp ro:List (List cU)}
theorem a2(ev:IntKind)(n:Int):(aV T G X).a0 false [some (.int ev n)] {own,up:=u::dp,ro}=.ok (.int ev n) {own:=u,up:=dp,ro}:=rfl
theorem aR(b:Bool):(aV T G X).a0 false [some (.bool b)] {own,up:=u::dp,ro}=.ok (.bool b) {own:=u,up:=dp,ro}:=rfl
theorem a3(b:List Nat):(aV T G X).a0 false [some (.str b)] {own,up:=u::dp,ro}=.ok (.str b) {own:=u,up:=dp,ro}:=rfl
end
theorem aN(ev:IntKind)(n:Int):(aV T G X).a0 false [some (.int ev n)] s.ai=.ok (.int ev n) s:=rfl
theorem aJ(b:Bool):(aV T G X).a0 false [some (.bool b)] s.ai=.ok (.bool b) s:=rfl
theorem a4(b:List Nat):(aV T G X).a0 false [some (.str b)] s.ai=.ok (.str b) s:=rfl
theorem ha(s:ag)(o:cU):(s.new o).get (.l s.own.length)=some o:=by simp [ag.get,ag.new]
theorem EJ(s:ag)(o o':cU):(s.new o).set (.l s.own.length) o'=some (s.new o'):=by simp [ag.set,ag.new]
theorem tA{α:Type}:∀(vs cs:List α),vs.length=cs.length→dL cs 0 vs=vs:=by
 intro vs cs h;apply List.ext_getElem?;intro j;rw[gQ _ _ _ (by omega)];split
 ·simp
 ·rw[List.getElem?_eq_none (by omega),List.getElem?_eq_none (by omega)]
theorem cQ(n:Nat)(vs cs:List ae)(ar:vs.length=n)(av:cs.length=n)(bV:vs.all ae.eB=true):(aV T G X).bX (s.new (.cells cs)) k n (.ref (.l s.own.length) 0) (.agg vs)=k .dead (s.new (.cells vs)):=by
 rw[kj];unfold fe;simp only[ae.fa,ae.cells,ar,ft,bz,bH];unfold h1;simp only[ha];have e:dL cs 0 vs=vs:=tA _ _ (by omega);have dH:Nat.ble (0+vs.length) cs.length=true:=et (by omega);have h:(s.new (.cells cs)).gO (.l s.own.length) vs=true:=by simp [ag.gO,ag.oZ]
 rw[dH,h,bV];simp only[bz,bH,e];show(match (s.new (.cells cs)).set (.l s.own.length) (.cells vs) with |some s=>k .dead s|none=>.fail)=_;rw[EJ]
theorem b1(n:Nat)(cs:List ae)(h:n≤cs.length):(aV T G X).aw (s.new (.cells cs)) k (some n) (.ref (.l s.own.length) 0)=k (.agg (cs.take n)) (s.new (.cells cs)):=by rw[hB];simp only[dY,ha,b9,eU];rw[show Nat.ble n cs.length=true from et h];rfl
theorem b7(e:ae)(cs:List ae):(aV T G X).aw (s.new (.cells (e::cs))) k none (.ref (.l s.own.length) 0)=k e (s.new (.cells (e::cs))):=by rw[hB];simp only[dY,ha];rfl
theorem cp(h e:ae)(cs:List ae):(aV T G X).aw (s.new (.cells (h::e::cs))) k none (.ref (.l s.own.length) 1)=k e (s.new (.cells (h::e::cs))):=by rw[hB];simp only[dY,ha];rfl
theorem cq(h r e:ae)(cs:List ae):(aV T G X).aw (s.new (.cells (h::r::e::cs))) k none (.ref (.l s.own.length) 2)=k e (s.new (.cells (h::r::e::cs))):=by rw[hB];simp only[dY,ha];rfl
theorem cr(e h r lz:ae)(cs:List ae):(aV T G X).aw (s.new (.cells (e::h::r::lz::cs))) k none (.ref (.l s.own.length) 3)=k lz (s.new (.cells (e::h::r::lz::cs))):=by rw[hB];simp only[dY,ha];rfl
theorem ct(h r u lz e:ae)(cs:List ae):(aV T G X).aw (s.new (.cells (h::r::u::lz::e::cs))) k none (.ref (.l s.own.length) 4)=k e (s.new (.cells (h::r::u::lz::e::cs))):=by rw[hB];simp only[dY,ha];rfl
theorem cv(h r u lz y e:ae)(cs:List ae):(aV T G X).aw (s.new (.cells (h::r::u::lz::y::e::cs))) k none (.ref (.l s.own.length) 5)=k e (s.new (.cells (h::r::u::lz::y::e::cs))):=by rw[hB];simp only[dY,ha];rfl
theorem cw(h r u lz y A e:ae)(cs:List ae):(aV T G X).aw (s.new (.cells (h::r::u::lz::y::A::e::cs))) k none (.ref (.l s.own.length) 6)=k e (s.new (.cells (h::r::u::lz::y::A::e::cs))):=by rw[hB];simp only[dY,ha];rfl
theorem cx(h r u lz y A B e:ae)(cs:List ae):(aV T G X).aw (s.new (.cells (h::r::u::lz::y::A::B::e::cs))) k none (.ref (.l s.own.length) 7)=k e (s.new (.cells (h::r::u::lz::y::A::B::e::cs))):=by rw[hB];simp only[dY,ha];rfl
theorem cy(h r u lz y A B F e:ae)(cs:List ae):(aV T G X).aw (s.new (.cells (h::r::u::lz::y::A::B::F::e::cs))) k none (.ref (.l s.own.length) 8)=k e (s.new (.cells (h::r::u::lz::y::A::B::F::e::cs))):=by rw[hB];simp only[dY,ha];rfl
structure Child (s S:ag):Prop where
 up:S.up=s.own::s.up
 ro:S.ro=s.ro
theorem Child.ai(s:ag):Child s s.ai:=⟨rfl,rfl⟩
theorem Child.new{s S:ag}(h:Child s S)(o:cU):Child s (S.new o):=⟨h.up,h.ro⟩
theorem gv{s S:ag}(h:Child s S)(v w:ae)(hw:freeze S v=some w):(aV T G X).a0 false [some v] S=.ok w s:=by obtain⟨ar,av⟩:=h;show mF false [some v] S=_;unfold mF;simp only[fl,fF,ej,cond_false,hw,qZ,ar,av]
theorem kC{s S:ag}(h:Child s S)(v1 v2 e r:ae)(dH:freeze S v1=some e)(u:freeze S v2=some r):(aV T G X).a0 false [some v1,some v2] S=.ok (.d0 [e,r]) s:=by obtain⟨ar,av⟩:=h;show mF false [some v1,some v2] S=_;unfold mF;simp only[fl,fF,ej,cond_false,dH,u,qZ,ar,av]
theorem ir{s S:ag}(h:Child s S)(ev:IntKind)(n:Int):(aV T G X).a0 false [some (.int ev n)] S=.ok (.int ev n) s:=gv h _ _ rfl
theorem jA{s S:ag}(h:Child s S)(b:Bool):(aV T G X).a0 false [some (.bool b)] S=.ok (.bool b) s:=gv h _ _ rfl
theorem ba(d:Nat)(cs:List ae):ae.ap d (.agg cs)=.agg cs:=rfl
theorem az(d:Nat)(ev:IntKind)(n:Int):ae.ap d (.int ev n)=.int ev n:=rfl
theorem bb(d:Nat)(b:Bool):ae.ap d (.bool b)=.bool b:=rfl
theorem bE(d:Nat)(b:List Nat):ae.ap d (.str b)=.str b:=rfl
theorem eQ(d f:Nat)(cs:List ae):ae.ap d (.fn f cs)=.fn f cs:=rfl
theorem d9(d:Nat)(cs:List ae):ae.ap d (.bh cs)=.bh cs:=rfl
theorem ea(d:Nat):ae.ap d .hJ=.hJ:=rfl
theorem du(ev:IntKind)(n:Int):ae.eB (.int ev n)=true:=rfl
theorem di(b:Bool):ae.eB (.bool b)=true:=rfl
theorem dw(b:List Nat):ae.eB (.str b)=true:=rfl
theorem dR(sz:Nat)(es:List ae)(g:eZ):ae.eB (.bW sz es g)=true:=rfl
end Go.Ab
end
