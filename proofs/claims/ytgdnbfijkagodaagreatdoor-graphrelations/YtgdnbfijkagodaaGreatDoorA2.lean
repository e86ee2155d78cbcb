/- A part of the proof: no condition. -/
import Derived.Test.YtgdnbfijkagodaaGreatDoorA1
import Derived.Test.YtgdnbfijkagodaaGreatDoorA0
import Derived.OrdersIn
import Derived.TacticsIn
import Derived.Scope
import Derived.KernelRfl
import Derived.IntWalk
set_option linter.unusedSectionVars false
set_option linter.unusedSimpArgs false
set_option linter.unusedVariables false
section
namespace Go.Ab
theorem hL{G g g':Nat→ae}{o:Option bB}{d:Nat}(h:∀x,x∈o.toList→aq G g x=aq G g' x):dB G g o d=dB G g' o d:=by
 cases o with
 |none=>rfl
 |some x=>simp only[dB,h x (by simp)]
theorem nz{G g g':Nat→ae}{d:Nat}:∀(ea:List (Nat×Nat×bB)) (cs:List ae),(∀x,x∈ea.map (·.2.2)→aq G g x=aq G g' x)→fg G d g cs ea=fg G d g' cs ea
 |[],_,_=>rfl
 |(off,sz,x)::ea,cs,h=>by simp only[fg,h x (by simp)];congr 1;exact nz ea _ (fun y eQ=>h y (by simp only[gd,List.mem_cons];exact .inr eQ))
theorem map_congr{G g g':Nat→ae}{f:ae→ae}(xs:List bB)(h:∀x,x∈xs→aq G g x=aq G g' x):xs.map (fun x=>f (aq G g x))=xs.map fun x=>f (aq G g' x):=List.map_congr_left fun x a9=>by rw[h x a9]
theorem zV{E:Env}{g g':Nat→ae}{op:f9}(h:∀x,x∈op.JN→aq E.au g x=aq E.au g' x)(s:ag)(k kp:ae→ag→ah):aL E g s k kp op=aL E g' s k kp op:=by
 cases op<;> simp only[f9.JN,List.mem_cons,p3,or_false,forall_eq_or_imp,forall_eq,List.mem_append] at h<;> simp only[aL]
 case build z ea=>rw[nz ea z h]
 case buildSlice sz ea=>have:ea.map (aq E.au g)=ea.map (aq E.au g'):=List.map_congr_left h;rw[this]
 case kb f xs=>rw[map_congr xs h]
 case call f xs=>rw[map_congr xs h]
 case hn f xs=>rw[map_congr xs h]
 case min xs=>rw[map_congr xs h]
 case max xs=>rw[map_congr xs h]
 case eu f xs=>rw[h.1,map_congr xs h.2]
 case ly f xs=>rw[h.1,map_congr xs h.2]
 case kc x gk bY=>
  unfold jG;rw[h.1];cases aq E.au g' x<;> try rfl
  simp only;rw[hL (o:=gk) (fun x a9=>h.2 x (.inl a9)),hL (o:=bY) (fun x a9=>h.2 x (.inr a9))]
 case slice z x gk bY iE=>
  unfold jR;rw[h.1];have dM:∀d,dB E.au g gk d=dB E.au g' gk d:=fun d=>hL (fun x a9=>h.2 x (.inl (.inl a9)))
  have e:∀d,dB E.au g bY d=dB E.au g' bY d:=fun d=>hL (fun x a9=>h.2 x (.inl (.inr a9)))
  have r:∀d,dB E.au g iE d=dB E.au g' iE d:=fun d=>hL (fun x a9=>h.2 x (.inr a9))
  cases aq E.au g' x<;> try rfl
  ·simp only[dM,e];cases iE with
   |none=>rfl
   |some y=>have:=h.2 y (.inr (by simp));simp only[this]
  ·simp only[dM,e,r]
 case append q b at_ x y=>
  have dM:hZ E.au g at_=hZ E.au g' at_:=by
   cases at_ with
   |none=>rfl
   |some z=>simp only[hZ,h z (.inl (by simp))]
  rw[dM,h x (.inr (.inl rfl)),h y (.inr (.inr rfl))]
 case jD q b at_ x y=>
  have dM:hZ E.au g at_=hZ E.au g' at_:=by
   cases at_ with
   |none=>rfl
   |some z=>simp only[hZ,h z (.inl (by simp))]
  rw[dM,h x (.inr (.inl rfl)),h y (.inr (.inr rfl))]
 case gA sz ea=>rw[map_congr ea h]
 case gB sz ea=>rw[map_congr ea h]
 case jE q b x y=>rw[h.1,h.2]
 case jC q b at_ x y=>
  have dM:hZ E.au g at_=hZ E.au g' at_:=by
   cases at_ with
   |none=>rfl
   |some z=>simp only[hZ,h z (.inl (by simp))]
  rw[dM,h x (.inr (.inl rfl)),h y (.inr (.inr rfl))]
 case iO z n x gk bY iE=>
  unfold ix;rw[h.1];have dM:∀d,dB E.au g gk d=dB E.au g' gk d:=fun d=>hL (fun x a9=>h.2 x (.inl (.inl a9)))
  have e:∀d,dB E.au g bY d=dB E.au g' bY d:=fun d=>hL (fun x a9=>h.2 x (.inl (.inr a9)))
  have r:∀d,dB E.au g iE d=dB E.au g' iE d:=fun d=>hL (fun x a9=>h.2 x (.inr a9))
  simp only[dM,e,r]
 case ln ig f xs=>
  have dM:(ig.map fun x=>(x.1,aq E.au g x.2))=ig.map fun x=>(x.1,aq E.au g' x.2):=List.map_congr_left fun x a9=>by rw[h x.2 (.inl (List.mem_map.2 ⟨x,a9,rfl⟩))]
  rw[map_congr xs (fun x a9=>h x (.inr a9)),dM]
 case jQ ig f xs=>
  have dM:(ig.map fun x=>(x.1,aq E.au g x.2))=ig.map fun x=>(x.1,aq E.au g' x.2):=List.map_congr_left fun x a9=>by rw[h.2 x.2 (.inl (List.mem_map.2 ⟨x,a9,rfl⟩))]
  rw[h.1,map_congr xs (fun x a9=>h.2 x (.inr a9)),dM]
 case makeMap at_=>
  have dM:hZ E.au g at_=hZ E.au g' at_:=by
   cases at_ with
   |none=>rfl
   |some z=>simp only[hZ,h z (by simp)]
  rw[dM]
 all_goals first|rfl |simp only[h]
def cH(g:Nat→ae)(d:Option Nat)(v:ae):Nat→ae:=
 match d with
 |none=>g
 |some n=>fun m=>if m=n then v else g m
def fV(Vo:Option (Nat×Bool))(g:Nat→ae):Option Bool:=
 match Vo with
 |none=>some true
 |some (t,w)=>
  match g t with
  |.bool b=>some (b==w)
  |.eb _=>some false
  |_=>none
def ji(E:Env)(o:cQ)(g:Nat→ae)(s:ag):Option (ae×ag):=
 match fV o.guard g with
 |none=>none
 |some false=>some (.eb [],s)
 |some true=>
  match aL E g s .ok .panic o.op with
  |.ok v s'=>some (v,s')
  |_=>none
def gX(E:Env):List cQ→(Nat→ae)→ag→Option ((Nat→ae)×ag)
 |[],g,s=>some (g,s)
 |o::os,g,s=>(ji E o g s).bind fun p=>gX E os (cH g o.dst p.1) p.2
def bB.tmp:bB→List Nat
 |.t n=>[n]
 |.at m e _=>[m,e]
 |.OJ e _=>[e]
 |_=>[]
def cQ.looks(o:cQ):List Nat:=o.op.JN.flatMap bB.tmp++(o.guard.map (·.1)).toList
def bB.same:bB→bB→Bool
 |.t n,.t m=>Nat.beq n m
 |.g n,.g m=>Nat.beq n m
 |.at _ b o,.OJ e o'=>Nat.beq b e&&Nat.beq o o'
 |_,_=>false
theorem bB.iy{a b:bB}(h:a.same b=true)(G g:Nat→ae):aq G g a=.dead∨aq G g a=aq G g b:=by
 cases a<;> cases b<;> simp [bB.same] at h
 ·rw[h];exact .inr rfl
 ·rw[h];exact .inr rfl
 ·rw[h.1,h.2];rename_i t _ _ b off;rcases Fi (g t) (g b) off with e|⟨_,e⟩
  ·exact .inl e
  ·exact .inr e
def u0:Option Nat→Option Nat→Bool
 |none,none=>true
 |some a,some b=>Nat.beq a b
 |_,_=>false
theorem xl{a b:Option Nat}(h:u0 a b=true):a=b:=by cases a<;> cases b<;> simp [u0] at h<;> simp [h]
def leaves(a b:f9):Bool:=
 match a with
 |.load n x=>
  match b with
  |.ln ig _ _|.jQ ig _ _=>ig.any fun y=>u0 n y.1&&x.same y.2
  |.jC ..=>true
  |.kZ m y _ _ _=>u0 n m&&x.same y
  |_=>false
 |_=>false
def indep(a b:cQ):Bool:=
 (match a.dst with
  |some d=> !b.looks.contains d
  |none=>true) &&
 (match b.dst with
  |some d=> !a.looks.contains d
  |none=>true) &&
 (match a.dst,b.dst with
  |some d,some e=> !Nat.beq d e
  |_,_=>true) &&
 (Nat.beq a.op.pz 0||Nat.beq b.op.pz 0||(Nat.beq a.op.pz 1&&Nat.beq b.op.pz 1)||leaves a.op b.op||leaves b.op a.op)
theorem Ir{G g:Nat→ae}{d:Option Nat}{v:ae}{x:bB}(h:∀n,d=some n→n ∉ x.tmp):aq G (cH g d v) x=aq G g x:=by
 cases d with
 |none=>rfl
 |some n=>
  have e:=h n rfl;cases x<;> try rfl
  ·rename_i t
   have:n≠t:=by simpa [bB.tmp] using e
   simp [aq,cH,Ne.symm this]
  ·rename_i t b off
   have:n≠t∧n≠b:=by simpa [bB.tmp,not_or] using e
   simp [aq,cH,Ne.symm this.1,Ne.symm this.2]
  ·rename_i b off
   have:n≠b:=by simpa [bB.tmp] using e
   simp [aq,cH,Ne.symm this]
theorem zW{E:Env}{o:cQ}{g:Nat→ae}{d:Option Nat}{v:ae}(h:∀n,d=some n→n ∉ o.looks)(s:ag):ji E o (cH g d v) s=ji E o g s:=by
 have ar:fV o.guard (cH g d v)=fV o.guard g:=by
  unfold fV;cases cB:o.guard with
  |none=>rfl
  |some p=>
   obtain⟨t,w⟩:=p;cases d with
   |none=>rfl
   |some n=>
    have:n≠t:=fun e=>h n rfl (by rw[cQ.looks,cB];simp [e])
    simp [cH,Ne.symm this]
 unfold ji;rw[ar,zV (g':=g) (fun x a9=>Ir (fun n dk r=>h n dk (by rw[cQ.looks];exact List.mem_append_left _ (List.mem_flatMap.2 ⟨x,a9,r⟩))))]
theorem Is{g:Nat→ae}{d e:Option Nat}{v u:ae}(h:∀n m,d=some n→e=some m→n≠m):cH (cH g d v) e u=cH (cH g e u) d v:=by
 cases d with
 |none=>rfl
 |some n=>
  cases e with
  |none=>rfl
  |some m=>
   have:=h n m rfl rfl;funext t;simp only[cH];by_cases ar:t=m
   ·by_cases av:t=n
    ·exact absurd (av.symm.trans ar) this
    ·simp [ar,Ne.symm this]
   ·simp [ar]
section
variable{E:Env}(bo:E.F=.not)
include bo
theorem xm{o:cQ}(a1:o.op.pz=0){g:Nat→ae}{s s':ag}{v:ae}(h:ji E o g s=some (v,s')):s'=s∧∀e:ag,e.aa=s.aa→ji E o g e=some (v,e):=by
 unfold ji at h ⊢;cases hw:fV o.guard g with
 |none=>rw[hw] at h;cases h
 |some b=>
  rw[hw] at h;cases b with
  |false=>simp only[bj,eW] at h;exact⟨h.2.symm,fun e _=>by rw[←h.1]⟩
  |true=>
   simp only at h;obtain⟨x,a9⟩:=uZ bo g a1 s.aa;rw[a9 s _ _ rfl] at h;cases x with
   |none=>simp [ga] at h
   |some y=>simp only[ga,bj,eW] at h;refine⟨h.2.symm,fun e cR=>?_⟩;simp only;rw[a9 e _ _ cR];simp [ga,h.1]
theorem nY{o:cQ}(a1:o.op.pz=1){g:Nat→ae}{s s':ag}{v:ae}(h:ji E o g s=some (v,s')):s'=s:=by
 unfold ji at h;cases hw:fV o.guard g with
 |none=>rw[hw] at h;cases h
 |some b=>
  rw[hw] at h;cases b with
  |false=>simp only[bj,eW] at h;exact h.2.symm
  |true=>
   simp only at h;split at h
   ·rename_i fB r e;simp only[bj,eW] at h;rw[←h.2];exact sU bo g a1 e
   ·cases h
theorem u1{o:cQ}{g:Nat→ae}{s s':ag}{v:ae}(h:ji E o g s=some (v,s')):s'.aa=s.aa:=by
 unfold ji at h;cases hw:fV o.guard g with
 |none=>rw[hw] at h;cases h
 |some b=>
  rw[hw] at h;cases b with
  |false=>simp only[bj,eW] at h;rw[h.2]
  |true=>
   simp only at h;split at h
   ·rename_i fB r e;simp only[bj,eW] at h;rw[←h.2];exact zU bo g e
   ·cases h
theorem nZ{n:Option Nat}{cs e:List ae}{s s':ag}{u:ae}{t:ag}(h:cs.take (n.getD 1)=e.take (n.getD 1))(bK:eR E s .ok n cs=.ok u t):eR E s' .ok n e=.ok u s':=by
 cases n with
 |none=>
  simp only[Option.getD_none] at h;cases cs with
  |nil=>simp [eR] at bK
  |cons c cs=>
   cases e with
   |nil=>simp at h
   |cons nK e=>simp only[cT,cW,List.cons.injEq,and_true] at h;subst h;simp only[eR,bo,aU.not,ah.ok.injEq] at bK ⊢;exact⟨bK.1,trivial⟩
 |some n=>
  simp only[Option.getD_some] at h;simp only[eR,bo,aU.not] at bK ⊢;cases r:Nat.ble n cs.length with
  |false=>rw[r] at bK;cases bK
  |true=>
   rw[r,bX] at bK;simp only[ah.ok.injEq] at bK;have ar:=dW r;have av:n≤e.length:=by have:=congrArg List.length h;simp only[List.length_take] at this;omega
   rw[show Nat.ble n e.length=true from eN av,bX,←h,bK.1]
theorem pP{n:Option Nat}{v:ae}{s s':ag}{l:List ae}{u:ae}{t:ag}(ar:eY s n v=some l)(av:eY s' n v=some l)(bK:dX E s .ok n v=.ok u t):dX E s' .ok n v=.ok u s':=by
 unfold eY at ar av;cases v<;> simp only[cellsOf] at ar av<;> try cases ar
 case bP cs=>exact nZ bo rfl bK
 case ref a off=>
  simp only[dX] at bK ⊢;cases cB:s.get a with
  |none=>rw[cB] at ar;cases ar
  |some o=>
   rw[cB] at ar bK;cases o<;> try cases ar
   rename_i cs;cases e:s'.get a with
   |none=>rw[e] at av;cases av
   |some o'=>
    rw[e] at av;cases o'<;> try cases av
    rename_i h;simp only[ep,bj] at av;exact nZ bo av.symm bK
theorem u2{s:ag}{n:Option Nat}{v:ae}{k:ae→ag→ah}:dX E s k n v=match cellsOf s v with |some cs=>eR E s k n cs|none=>.fail:=by cases v<;> simp only[dX,cellsOf];split<;> rfl
theorem q1{s s':ag}{n:Option Nat}{v u:ae}{t:ag}(h:cellsOf s v=cellsOf s' v)(bK:dX E s .ok n v=.ok u t):dX E s' .ok n v=.ok u s':=by
 rw[u2 bo,h] at bK;rw[u2 bo];cases a1:cellsOf s' v with
 |none=>rw[a1] at bK;cases bK
 |some cs=>rw[a1] at bK;exact nZ bo rfl bK
theorem q2{s s':ag}(h:∀d i,s'.get (.g d i)=s.get (.g d i)∨((∀cs,s.get (.g d i)≠some (.cells cs))∧∀cs,s'.get (.g d i)≠some (.cells cs)))(cR:s'.aa=s.aa)(v:ae):cellsOf s v=cellsOf s' v:=by
 cases v<;> simp only[cellsOf];rename_i a off;have dM:=ag.hJ s a;have r:=ag.hJ s' a;rw[cR] at r;cases fp:a.ap s.aa with
 |l i=>cases a<;> simp [Loc.ap] at fp
 |g d i=>
  rw[fp] at dM r;rw[←dM,←r];rcases h d i with e|⟨ka,u⟩
  ·rw[e]
  ·cases ar:s.get (.g d i) with
   |none=>
    cases av:s'.get (.g d i) with
    |none=>rfl
    |some o=>
     cases o<;> try rfl
     exact absurd av (u _)
   |some o=>
    cases o
    ·exact absurd ar (ka _)
    all_goals
     cases av:s'.get (.g d i) with
     |none=>rfl
     |some o=>
      cases o<;> try rfl
      exact absurd av (u _)
theorem u3{q b:Nat}{l:Loc}{sz:Nat}{es:List ae}{g:e2}{y:ae}{s s':ag}{v:ae}(h:hG E s .ok q b l (.cr sz es g) y=.ok v s')(w:ae):cellsOf s w=cellsOf s' w:=by
 simp only[hG,bo,aU.not] at h;split at h
 ·cases h
 ·rename_i z new _;have h:=gW bo h;cases new with
  |nil=>simp only[ah.ok.injEq] at h;rw[h.2]
  |cons c cs=>
   have new:∀{o:dp} {l':Loc} {u:ag},(∀cs,o≠.cells cs)→s.hd l o=some (l',u)→cellsOf s w=cellsOf u w:=fun {o l' u} I dk=>by
    obtain⟨d,i,_,A⟩:=ij.by dk
    refine q2 bo (fun fG hx=>?_) A.aa w;rw[A.get];split
    ·rename_i B;obtain⟨rfl,rfl⟩:=B;obtain⟨K,ar,av⟩:=A.here;refine .inr ⟨fun cs a1=>?_,fun cs a1=>I cs (Option.some.inj a1)⟩;rw[ag.mc,ar] at a1;simp only[f0] at a1;rw[←av,List.getElem?_eq_none (aB _)] at a1;cases a1
    ·exact .inl rfl
   cases g with
   |any=>cases h
   |nil=>
    simp only at h;split at h
    ·rename_i dk;simp only[ah.ok.injEq] at h;rw[←h.2];exact new (fun cs e=>by cases e) dk
    ·cases h
   |exact=>
    simp only at h;split at h
    ·rename_i dk;simp only[ah.ok.injEq] at h;rw[←h.2];exact new (fun cs e=>by cases e) dk
    ·cases h
   |dt a=>
    simp only at h;split at h
    ·rename_i n J;have h:=gW bo h;split at h
     ·rename_i H;simp only[ah.ok.injEq] at h;rw[←h.2];have F:=H;have r:=J;rw[←ag.lf] at F;rw[←ag.hJ] at r;cases fp:a.ap s.aa with
      |l i=>cases a<;> simp [Loc.ap] at fp
      |g d i=>
       rw[fp] at F r;refine q2 bo (fun fG hx=>?_) (ag.jX H) w;rw[ag.uv F r];split
       ·rename_i B;obtain⟨rfl,rfl⟩:=B;refine .inr ⟨fun cs a1=>?_,fun cs a1=>by cases a1⟩;rw[r] at a1;cases a1
       ·exact .inl rfl
     ·cases h
    ·cases h
theorem w6{a b:f9}(h:leaves a b=true){g:Nat→ae}{s s':ag}{v:ae}(r:aL E g s .ok .panic b=.ok v s'):∃n x,a=.load n x∧(cellsOf s (aq E.au g x)=cellsOf s' (aq E.au g x)∨aq E.au g x=.dead∨∃l,eY s n (aq E.au g x)=some l∧eY s' n (aq E.au g x)=some l):=by
 unfold leaves at h;split at h
 ·rename_i n x;refine⟨n,x,rfl,?_⟩;have key:∀(ig:List (Option Nat×bB)),(ig.any fun y=>u0 n y.1&&x.same y.2)=true→(∀y,y∈ig.map (fun x=>(x.1,aq E.au g x.2))→∃l,eY s y.1 y.2=some l∧eY s' y.1 y.2=some l)→aq E.au g x=.dead∨∃l,eY s n (aq E.au g x)=some l∧eY s' n (aq E.au g x)=some l:=fun ig ar av=>by
   obtain⟨y,eQ,A⟩:=List.any_eq_true.1 ar;simp only[bm] at A;rcases bB.iy A.2 E.au g with e|e
   ·exact .inl e
   rw[xl A.1,e];exact .inr (av _ (List.mem_map.2 ⟨y,eQ,rfl⟩))
  split at h
  ·rename_i ig f args;simp only[aL,bo,aU.not] at r;exact .inr (key ig h (nX bo r).2)
  ·rename_i ig f args;simp only[aL] at r;unfold ke at r;split at r
   ·simp only[bo,aU.not] at r;exact .inr (key ig h (nX bo r).2)
   ·cases r
  ·rename_i q b at_ x y;simp only[aL] at r;unfold kH at r;split at r
   ·unfold f7 at r;split at r
    ·exact .inl (u3 bo r _)
    ·cases r
   ·cases r
  ·rename_i m y q a u;simp only[bm] at h;rcases bB.iy h.2 E.au g with e|e
   ·exact .inr (.inl e)
   ·rw[xl h.1,e];exact .inr (.inr (sV bo r).2)
  ·cases h
 ·cases h
theorem sW{a b:cQ}(h:leaves a.op b.op=true){g:Nat→ae}{s s':ag}{v:ae}(r:ji E b g s=some (v,s')){u:ae}:ji E a g s=some (u,s)↔ji E a g s'=some (u,s'):=by
 unfold ji at r;cases hw:fV b.guard g with
 |none=>rw[hw] at r;cases r
 |some w=>
  rw[hw] at r;cases w with
  |false=>simp only[bj,eW] at r;rw[r.2]
  |true=>
   simp only at r;split at r
   ·rename_i fB H A;simp only[bj,eW] at r;rw[r.2] at A;obtain⟨n,x,B,F⟩:=w6 bo h A;unfold ji;cases I:fV a.guard g with
    |none=>simp
    |some w=>
     cases w with
     |false=>simp
     |true=>
      simp only[B,aL];rcases F with nV|e|⟨l,ar,av⟩
      ·constructor
       ·intro gr;split at gr
        ·rename_i y;simp only[bj,eW] at gr;rw[q1 bo nV y,gr.1]
        ·cases gr
       ·intro gr;split at gr
        ·rename_i y;simp only[bj,eW] at gr;rw[q1 bo nV.symm y,gr.1]
        ·cases gr
      ·rw[e];simp [dX]
      constructor
      ·intro gr;split at gr
       ·rename_i y;simp only[bj,eW] at gr;rw[pP bo ar av y,gr.1]
       ·cases gr
      ·intro gr;split at gr
       ·rename_i y;simp only[bj,eW] at gr;rw[pP bo av ar y,gr.1]
       ·cases gr
   ·cases r
theorem sX{a b:f9}(h:leaves a b=true):a.pz=1:=by
 unfold leaves at h;split at h
 ·rfl
 ·cases h
theorem It{a b:cQ}(bY:indep a b=true){rest:List cQ}{g:Nat→ae}{s:ag}{r:(Nat→ae)×ag}(h:gX E (a::b::rest) g s=some r):gX E (b::a::rest) g s=some r:=by
 simp only[indep,bm,Bool.or_eq_true] at bY;obtain⟨⟨⟨ar,av⟩,bO⟩,dD⟩:=bY;have d1:∀n,a.dst=some n→n ∉ b.looks:=fun n dk=>by rw[dk] at ar;simpa using ar
 have d2:∀n,b.dst=some n→n ∉ a.looks:=fun n dk=>by rw[dk] at av;simpa using av
 have d3:∀n m,a.dst=some n→b.dst=some m→n≠m:=fun n m dk hm e=>by rw[dk,hm,e] at bO;simp at bO
 simp only[gX] at h ⊢;cases y:ji E a g s with
 |none=>rw[y] at h;cases h
 |some p=>
  obtain⟨B,s1⟩:=p;rw[y] at h;simp only[f0] at h;cases u:ji E b (cH g a.dst B) s1 with
  |none=>rw[u] at h;cases h
  |some q=>
   obtain⟨H,s2⟩:=q;rw[u] at h;simp only[f0] at h;rw[zW d1] at u;have key:∃S,ji E b g s=some (H,S)∧ji E a g S=some (B,s2):=by
    by_cases a1:a.op.pz=0
    ·refine⟨s2,?_⟩;obtain⟨dM,A⟩:=xm bo a1 y;subst dM;exact⟨u,A s2 (u1 bo u)⟩
    ·by_cases F:b.op.pz=0
     ·refine⟨s,?_⟩;obtain⟨dM,A⟩:=xm bo F u;subst dM;exact⟨A s (u1 bo y).symm,y⟩
     ·rcases dD with(((dD|dD)|dD)|dD)|dD
      ·exact absurd (dj dD) a1
      ·exact absurd (dj dD) F
      ·have dM:=nY bo (dj dD.1) y;subst dM;have A:=nY bo (dj dD.2) u;subst A;exact⟨_,u,y⟩
      ·have dM:=nY bo (sX bo dD) y;subst dM;exact⟨s2,u,(sW bo dD u).1 y⟩
      ·have A:=nY bo (sX bo dD) u;subst A;exact⟨s,(sW bo dD y).2 u,y⟩
   obtain⟨S,I,J⟩:=key;rw[I];simp only[f0];rw[zW d2,J];simp only[f0];rw[←Is d3];exact h
theorem u4{o:cQ}:∀(pre:List cQ) {post:List cQ} {g:Nat→ae} {s:ag} {r:(Nat→ae)×ag},(∀a,a∈pre→indep a o=true)→gX E (pre++o::post) g s=some r→gX E (o::(pre++post)) g s=some r
 |[],_,_,_,_,_,h=>h
 |a::pre,post,g,s,r,bY,h=>by
  refine It bo (bY a List.mem_cons_self) ?_;simp only[List.cons_append,gX] at h ⊢;cases e:ji E a g s with
  |none=>rw[e] at h;cases h
  |some p=>rw[e] at h;simp only[f0] at h ⊢;exact u4 pre (fun x a9=>bY x (List.mem_cons_of_mem _ a9)) h
end
theorem j3:∀(d n:Nat) (v:ae) (k:eH→ah) (ao:eH) (r:ah),eH.iS d n v k ao=r→r≠.fail→∃eh,k eh=r∧∀m,eh.get m=if m=n then v else ao.get m
 |0,n,v,k,ao,r,h,bt=>absurd h.symm bt
 |d+1,n,v,k,ao,r,h,bt=>by
  have H:∀m,Nat.beq (m%2) 1=true→∃q,m=2*q+1:=fun m h=>⟨m/2,by have:=dj h;omega⟩
  have even:∀m,Nat.beq (m%2) 1=false→Nat.beq m 0=false→∃q,m=2*q+2:=fun m h I=>⟨(m-2)/2,by
   have ar:m%2≠1:=fun e=>by rw[e] at h;simp at h
   have av:m≠0:=fun e=>by rw[e] at I;simp at I
   omega⟩
  have u:∀(l:eH) (x:ae) (r:eH) (q:Nat),(eH.n l x r).get (2*q+1)=l.get q:=fun l x r q=>by
   have ar:Nat.beq (2*q+1) 0=false:=by rfl
   have av:Nat.beq ((2*q+1)%2) 1=true:=by rw[show(2*q+1)%2=1 by omega];rfl
   simp only[eH.get,ar,av,cond_false,bX];congr 1;omega
  have y:∀(l:eH) (x:ae) (r:eH) (q:Nat),(eH.n l x r).get (2*q+2)=r.get q:=fun l x r q=>by
   have ar:Nat.beq (2*q+2) 0=false:=by rfl
   have av:Nat.beq ((2*q+2)%2) 1=false:=by rw[show(2*q+2)%2=0 by omega];rfl
   simp only[eH.get,ar,av,cond_false];congr 1;omega
  have B:∀(l:eH) (x:ae) (r:eH),(eH.n l x r).get 0=x:=fun l x r=>rfl
  have F:∀m,m=0∨(∃q,m=2*q+1)∨∃q,m=2*q+2:=fun m=>by
   by_cases eJ:m=0
   ·exact .inl eJ
   ·by_cases ar:m%2=1
    ·exact .inr (.inl ⟨m/2,by omega⟩)
    ·exact .inr (.inr ⟨(m-2)/2,by omega⟩)
  cases ao with
  |e=>
   simp only[eH.iS] at h;cases eJ:Nat.beq n 0 with
   |true=>
    rw[eJ,bX] at h
    have:=dj eJ;subst this;refine⟨_,h,fun m=>?_⟩;rcases F m with rfl |⟨q,rfl⟩|⟨q,rfl⟩
    ·simp [B]
    ·rw[u];simp [eH.get]
    ·rw[y];simp [eH.get]
   |false=>
    rw[eJ,cond_false] at h;cases ar:Nat.beq (n%2) 1 with
    |true=>
     rw[ar,bX] at h;obtain⟨p,rfl⟩:=H n ar;obtain⟨l',e,bK⟩:=j3 d _ v _ _ r h bt;refine⟨_,e,fun m=>?_⟩;rcases F m with rfl |⟨q,rfl⟩|⟨q,rfl⟩
     ·simp [B,eH.get]
     ·rw[u,bK q];have dM:(2*p+1-1)/2=p:=by omega
      have A:2*q+1=2*p+1↔q=p:=by omega
      simp only[dM,A];simp [eH.get]
     ·rw[y,if_neg (by omega)];simp [eH.get]
    |false=>
     rw[ar,cond_false] at h;obtain⟨p,rfl⟩:=even n ar eJ;obtain⟨l',e,bK⟩:=j3 d _ v _ _ r h bt;refine⟨_,e,fun m=>?_⟩;rcases F m with rfl |⟨q,rfl⟩|⟨q,rfl⟩
     ·simp [B,eH.get]
     ·rw[u,if_neg (by omega)];simp [eH.get]
     ·rw[y,bK q];have dM:(2*p+2-1)/2=p:=by omega
      have A:2*q+2=2*p+2↔q=p:=by omega
      simp only[dM,A];simp [eH.get]
  |n l x J=>
   simp only[eH.iS] at h;cases eJ:Nat.beq n 0 with
   |true=>
    rw[eJ,bX] at h
    have:=dj eJ;subst this;refine⟨_,h,fun m=>?_⟩;rcases F m with rfl |⟨q,rfl⟩|⟨q,rfl⟩
    ·simp [B]
    ·rw[u,u];simp
    ·rw[y,y];simp
   |false=>
    rw[eJ,cond_false] at h;cases ar:Nat.beq (n%2) 1 with
    |true=>
     rw[ar,bX] at h;obtain⟨p,rfl⟩:=H n ar;obtain⟨l',e,bK⟩:=j3 d _ v _ _ r h bt;refine⟨_,e,fun m=>?_⟩;rcases F m with rfl |⟨q,rfl⟩|⟨q,rfl⟩
     ·simp [B]
     ·rw[u,u,bK q];have dM:(2*p+1-1)/2=p:=by omega
      have A:2*q+1=2*p+1↔q=p:=by omega
      simp only[dM,A]
     ·rw[y,y,if_neg (by omega)]
    |false=>
     rw[ar,cond_false] at h;obtain⟨p,rfl⟩:=even n ar eJ;obtain⟨l',e,bK⟩:=j3 d _ v _ _ r h bt;refine⟨_,e,fun m=>?_⟩;rcases F m with rfl |⟨q,rfl⟩|⟨q,rfl⟩
     ·simp [B]
     ·rw[u,u,if_neg (by omega)]
     ·rw[y,y,bK q];have dM:(2*p+2-1)/2=p:=by omega
      have A:2*q+2=2*p+2↔q=p:=by omega
      simp only[dM,A]
def na(fL:Nat):Option Nat→Option Nat→Bool
 |none,none=>true
 |some a,some b=>Nat.beq a b&&Nat.blt a fL
 |_,_=>false
def oN(ops:Array Oper):Option (Nat×Bool)→Option (Nat×Bool)→Bool
 |none,none=>true
 |some (t,w),some (j,w')=>
  match (ops[j]?).bind (·.dst) with
  |some d=>Nat.beq d t&&w==w'
  |none=>false
 |_,_=>false
def n0(T:kD)(fL:Nat)(ops:Array Oper)(e:cQ)(o:Oper):Bool:=na fL e.dst o.dst&&oN ops e.guard o.guard&&eB T e.op o.op
def Marks(B:Nat)(w:World)(h3:List Deferred):Prop:=B≤w.heap.size∧∃ot:List Nat,h3=ot.map (fun D=>{target:=.collected D,args:= #[]})∧ot.Nodup∧∀D,D∈ot→B≤D∧w.heap[D]? =some (.deferred (some []))
theorem Marks.nil{B:Nat}{w:World}(h:B≤w.heap.size):Marks B w []:=⟨h,[],rfl,List.nodup_nil,fun D h=>by cases h⟩
theorem cY.lZ{κ:bh}{s:ag}{w:World}(a3:cY κ s w){b:Nat}(h:Live κ s b):(∃C e jt,w.heap[b]? =some (.cells C e jt))∨∃fi clock,w.heap[b]? =some (.map fi clock):=by
 obtain⟨d,i,o,ar,av⟩:=h;have r:=a3.obj d i o ar;cases o with
 |cells cs=>obtain⟨⟨C,e,jt,bO,_⟩,_⟩:=r;simp only[bg,bj] at av;exact .inl ⟨C,e,jt,av ▸ bO⟩
 |tok n=>obtain⟨u,cap,sz,bO,_,⟨C,e,jt,dD,_⟩,_⟩:=r;simp only[bg,bO,ep,bj] at av;exact .inl ⟨C,e,jt,av ▸ dD⟩
 |gone=>cases av
 |map es=>obtain⟨fi,clock,bO,_⟩:=r;simp only[bg,bj] at av;exact .inr ⟨fi,clock,av ▸ bO⟩
theorem Marks.ext{κ κ':bh}{s s':ag}{w w':World}{h3:List Deferred}{B:Nat}(h:Marks B w h3)(a3:cY κ s w)(he:ft κ s w κ' s' w'):Marks B w' h3:=by
 obtain⟨eJ,ot,ar,av,bO⟩:=h;refine⟨Nat.le_trans eJ he.size,ot,ar,av,fun D u=>⟨(bO D u).1,?_⟩⟩;have dD:=(bO D u).2;rw[he.kK D (Array.getElem?_eq_some_iff.1 dD).1 fun bK=>?_]
 ·exact dD
 ·rcases a3.lZ bK with⟨C,e,jt,r⟩|⟨fi,clock,r⟩<;> rw[dD] at r<;> cases r
structure fz (κ:bh) (s:ag) (w:World) (g:Nat→ae) (a:Act) (fL:Nat) (B:Nat) (G:Nat→ae):Prop where
 iL:cY κ s w
 ao:wl κ s g a
 defers:Marks B w a.defers
 size:a.tmps.size=fL
 au:j9 κ G
theorem oO{ao:eH}{d:Option Nat}{v:ae}{k:eH→ah}{r:ah}(aQ:iU ao d v k=r)(bt:r≠.fail):∃eh,k eh=r∧eh.get=cH ao.get d v:=by
 cases d with
 |none=>exact⟨ao,aQ,rfl⟩
 |some n=>obtain⟨eh,ar,av⟩:=j3 12 n v k ao r aQ bt;exact⟨eh,ar,funext av⟩
theorem u5{g:Option (Nat×Bool)}{ao:eH}{k:Bool→ah}{r:ah}(aQ:l8 g ao k=r)(bt:r≠.fail):∃b,fV g ao.get=some b∧k b=r:=by
 cases g with
 |none=>exact⟨true,rfl,aQ⟩
 |some p=>obtain⟨t,w⟩:=p;simp only[l8] at aQ;simp only[fV];cases bJ:ao.get t<;> rw[bJ] at aQ<;> simp only at aQ<;> first|exact absurd aQ.symm bt|exact⟨_,rfl,aQ⟩
theorem JO{E:Env}(dk:∀f args s v s',E.call f args s≠.panic v s'){g:Nat→ae}{s:ag}{k kp e:ae→ag→ah}(op:f9):aL E g s k kp op=aL E g s k e op:=by
 have a1:∀f args,eu E s k kp f args=eu E s k e f args:=fun f args=>by
  unfold eu;cases h:E.call f args s with
  |panic v s'=>exact absurd h (dk _ _ _ _ _)
  |_=>rfl
 have kL:∀(k:ae→ag→ah) f args,eu E s k kp f args=eu E s k e f args:=fun k f args=>by
  unfold eu;cases h:E.call f args s with
  |panic v s'=>exact absurd h (dk _ _ _ _ _)
  |_=>rfl
 cases op<;> simp only[aL]
 case call=>simp only[a1]
 case eu=>unfold k2;simp only[a1]
 case ln=>simp only[hW];congr;funext args;exact kL _ _ _
 case jQ=>unfold ke hW;congr;funext f dC;congr;funext args;exact kL _ _ _
theorem w7{E:Env}(bo:E.F=.not)(dk:∀f args s v s',E.call f args s≠.panic v s'){g:Nat→ae}{s s':ag}{v:ae}(op:f9):aL E g s .ok .panic op≠.panic v s':=fun h=>by have ar:=jh bo g s .ok .panic op;have av:=jh bo g s .ok (fun _ _=>.fail) op;rw[h] at av;rw[←JO dk (kp:=.panic) op,h] at av;cases av
theorem lK{E:Env}(bo:E.F=.not)(dk:∀f args s v s',E.call f args s≠.panic v s'){fin:eH→ag→ah}{H:ae→eH→ag→ah}{r:ah}(bt:r≠.fail):∀(B:List cQ) {ao:eH} {s:ag},fs E B ao s fin H=r→∃eh s',gX E B ao.get s=some (eh.get,s')∧fin eh s'=r
 |[],ao,s,h=>⟨ao,s,rfl,h⟩
 |o::os,ao,s,h=>by
  simp only[fs] at h;obtain⟨b,ar,av⟩:=u5 h bt;cases b with
  |false=>simp only[cond_false] at av;obtain⟨eh,bO,dD⟩:=oO av bt;obtain⟨u,s',y,A⟩:=lK bo dk bt os bO;exact⟨u,s',by simp only[gX,ji,ar,f0,←dD,y],A⟩
  |true=>
   simp only[bX] at av;rw[jh bo] at av;cases e:aL E ao.get s .ok .panic o.op with
   |fail=>rw[e] at av;exact absurd av.symm bt
   |panic v s'=>exact absurd e (w7 bo dk o.op)
   |ok v s'=>rw[e] at av;simp only[ah.bind] at av;obtain⟨eh,bO,dD⟩:=oO av bt;obtain⟨u,I,y,A⟩:=lK bo dk bt os bO;exact⟨u,I,by simp only[gX,ji,ar,e,f0,←dD,y],A⟩
section
variable{P:Program}{κ:bh}{s:ag}{w:World}{g:Nat→ae}{a:Act}{fL:Nat}{B:Nat}{G:Nat→ae}
theorem fz.put(h:fz κ s w g a fL B G){κ':bh}{s':ag}{w':World}(he:ft κ s w κ' s' w')(a3:cY κ' s' w'){v:ae}{x:Value}(a9:dA κ' (s.aa+1) (v.ap s.aa) x){d fG:Option Nat}(cR:na fL d fG=true):fz κ' s' w' (cH g d v) (a.put fG x) fL B G:=by
 have bZ:=h.ao.ext he;cases d with
 |none=>
  cases fG with
  |none=>exact⟨a3,bZ,h.defers.ext h.iL he,h.size,h.au.mono he.k⟩
  |some b=>simp [na] at cR
 |some n=>
  cases fG with
  |none=>simp [na] at cR
  |some b=>
   simp only[na,bm] at cR;have e:=dj cR.1;subst e;have dk:n<a.tmps.size:=by rw[h.size];have:=cR.2;rw[Nat.blt_eq] at this;exact this
   refine⟨a3,fun t=>?_,h.defers.ext h.iL he,?_,h.au.mono he.k⟩
   ·simp only[cH];by_cases dU:t=n
    ·subst dU;rw[if_pos rfl,he.aa];simp only[Act.put,Array.getD_eq_getD_getElem?,Array.getElem?_setIfInBounds_self_of_lt dk,Option.getD_some];exact a9
    ·rw[if_neg dU]
     have:=bZ t;simp only[Act.put,Array.getD_eq_getD_getElem?,Array.getElem?_setIfInBounds_ne (Ne.symm dU)] at this ⊢;exact this
   ·simp [Act.put,h.size]
theorem fz.skip(h:fz κ s w g a fL B G){d fG:Option Nat}(cR:na fL d fG=true):fz κ s w (cH g d (.eb [])) (a.put fG undef) fL B G:=
 h.put (.refl _ _ _) h.iL (v:=.eb []) (x:=undef) (.eb [] [] rfl (fun j c x a1=>by simp at a1)) cR
theorem fz.wanted(h:fz κ s w g a fL B G){ops:Array Oper}{Vo:Option (Nat×Bool)}{o:Oper}(cB:oN ops Vo o.guard=true){b:Bool}(u:fV Vo g=some b):Region.wanted o (yielded ops a.tmps)=b:=by
 unfold Region.wanted;cases Vo with
 |none=>
  cases A:o.guard with
  |none=>simpa [fV] using u
  |some p=>rw[A] at cB;simp [oN] at cB
 |some p=>
  obtain⟨t,want⟩:=p;cases A:o.guard with
  |none=>rw[A] at cB;simp [oN] at cB
  |some q=>
   obtain⟨j,H⟩:=q;rw[A] at cB;simp only[oN] at cB;split at cB
   ·rename_i d cR;simp only[bm,beq_iff_eq] at cB;have e:=dj cB.1;subst e;obtain rfl:=cB.2;have a9:=h.ao d;simp only[fV] at u;simp only[yielded,cR,f0];cases bJ:g d<;> rw[bJ] at u a9<;> simp only[bj,reduceCtorEq] at u
    ·rename_i F;have r:=dA.gT (b:=F) a9
     have:a.tmps[d]? =some (.bool F):=by
      rw[Array.getD_eq_getD_getElem?] at r;cases gr:a.tmps[d]? with
      |none=>rw[gr] at r;cases r
      |some y=>rw[gr] at r;simp only[Option.getD_some] at r;rw[r]
     rw[this];simpa using u
    ·rename_i vs;obtain⟨xs,r,_⟩:=dA.uB (cs:=vs) a9
     have:∀b,a.tmps[d]?≠some (.bool b):=fun b gr=>by rw[Array.getD_eq_getD_getElem?,gr] at r;cases r
     split
     ·rename_i F gr;exact absurd gr (this F)
     ·simpa using u
   ·cases cB
theorem zX{T:kD}{x:f9}{op:Op}(h:eB T x op=true)(a9:x≠.no):∀c,op≠.defer c:=by
 rintro c rfl
 cases x<;> first|exact a9 rfl |simp [eB] at h
theorem zY{ro:Option Nat}{m:Nat}{P:Program}{f:FuncId}{args:Array Value}{w:World}{R:Ending→World→Prop}(h:Calls P f args w R):CallsIn (wM ro) m P f args w R:=callsIn_wide.2 h
variable{ro:Option Nat}{B:Nat}{T:kD}(eO:T.pn P){E:Env}(bo:E.F=.not)(ju:mM P E)
include eO bo ju
theorem oP(h:fz κ s w g a fL B E.au){ops:Array Oper}{u:cQ}{i:Nat}{o:Oper}(bY:ops[i]? =some o)(dd:n0 T fL ops u o=true){v:ae}{s':ag}(aQ:ji E u g s=some (v,s'))
  {K:Act→World→Prop}{Q:Exit→Act→World→Prop}(y:∀κ' w' fN,ft κ s w κ' s' w'→fz κ' s' w' (cH g u.dst v) fN fL B E.au→K fN w'):wpOpIn (wM ro) 0 P ops Q i K a w:=by
 unfold wpOpIn;simp only[bY];simp only[n0,bm] at dd;unfold ji at aQ;cases hw:fV u.guard g with
 |none=>rw[hw] at aQ;cases aQ
 |some b=>
  rw[hw] at aQ;rw[h.wanted dd.1.2 hw];cases b with
  |false=>simp only[bj,eW] at aQ;obtain⟨rfl,rfl⟩:=aQ;simp only[bS,↓reduceIte];exact⟨fun _ _=>trivial,y κ w _ (.refl _ _ _) (h.skip dd.1.1)⟩
  |true=>
   simp only at aQ;simp only[↓reduceIte];cases r:aL E g s .ok .panic u.op with
   |fail=>rw[r] at aQ;cases aQ
   |panic v s'=>rw[r] at aQ;cases aQ
   |ok fB H=>
    rw[r] at aQ;simp only[bj,eW] at aQ;obtain⟨rfl,rfl⟩:=aQ;obtain⟨v1,s1,dc,cR⟩:=zP (ty:=o.type) eO h.iL bo ju h.ao h.au (by simp) dd.2 r;simp only[ah.ok.injEq] at dc;obtain⟨rfl,rfl⟩:=dc;have F:∀(R:Result Next),(∀dst pos after guard,(execOp a.eval ⟨dst,o.op,o.type,pos,after,guard⟩).run P w=R)→(Oper.semAt ro a.eval o).run P w=R:=fun R h=>by
     rw[show Oper.semAt ro a.eval o=execOp a.eval o from by
      cases ro with
      |none=>rfl
      |some l=>exact Oper.semAt_some l _ o (zX dd.2 fun dk=>by rw[dk] at r;cases r)]
     exact h o.dst o.pos o.after o.guard
    unfold Oper.wpIn;refine⟨fun _ _=>trivial,?_⟩;rcases cR with⟨x,κ',w',a9|⟨a9,rfl⟩,he,A,bJ⟩|⟨f,xs,a9,a1⟩
    ·rw[F _ a9,Oper.uponIn_value];exact y κ' w' _ he (h.put he A bJ dd.1.1)
    ·rw[F _ a9,Oper.uponIn_skip];exact y κ' w' _ he (h.put he A bJ dd.1.1)
    ·rw[F _ a9,Oper.uponIn_enter];refine⟨fun a9=>(by cases a9),(zY a1).mono fun e w' ⟨x,hex,κ',he,A,bJ⟩=>?_⟩;subst hex;exact y κ' w' _ he (h.put he A bJ dd.1.1)
theorem qd{ops:Array Oper}{Q:Exit→Act→World→Prop}{g':Nat→ae}{s':ag}:∀(l:List Nat) (r:List cQ) {κ:bh} {s:ag} {w:World} {g:Nat→ae} {a:Act},l.length=r.length→
  (∀(j i:Nat) (e:cQ),l[j]? =some i→r[j]? =some e→∃o,ops[i]? =some o∧n0 T fL ops e o=true)→fz κ s w g a fL B E.au→gX E r g s=some (g',s')→
  (∀κ' w' fN,ft κ s w κ' s' w'→fz κ' s' w' g' fN fL B E.au→Q .normal fN w')→wpOpsIn (wM ro) 0 P ops Q l a w
 |[],[],κ,s,w,g,a,_,_,h,aQ,u=>by simp only[gX,bj,eW] at aQ;obtain⟨rfl,rfl⟩:=aQ;exact u κ w a (.refl _ _ _) h
 |[],_::_,_,_,_,_,_,bK,_,_,_,_=>by simp at bK
 |_::_,[],_,_,_,_,_,bK,_,_,_,_=>by simp at bK
 |i::l,e::r,κ,s,w,g,a,bK,dd,h,aQ,u=>by
  obtain⟨o,bY,y⟩:=dd 0 i e rfl rfl;rw[wpOpsIn_cons];simp only[gX] at aQ;cases he:ji E e g s with
  |none=>rw[he] at aQ;cases aQ
  |some p=>
   rw[he] at aQ;refine oP eO bo ju h bY y he fun κ' w' fN A F=>?_
   exact qd l r (by simpa using bK) (fun j i e ar av=>dd (j+1) i e (by simpa using ar) (by simpa using av)) F aQ
    fun H I J K L=>u H I J (A.trans K) L
end
def n1(o:Oper):List Nat:=(o.after.toList.filter (Region.binds .any)).map (·.on)
def mO(acc:List Nat):List Nat→Nat
 |[]=>0
 |e::es=>mO acc es ||| ((1 <<< e) ||| acc.getD e 0)
def qe:List Nat→List Oper→List Nat
 |acc,[]=>acc
 |acc,o::os=>qe (acc++[mO acc (n1 o)]) os
def yu(bits:Nat)(b:cQ):Nat→List cQ→Bool
 |_,[]=>true
 |m,a::as=>(bits.testBit m||indep a b)&&yu bits b (m+1) as
def q3:List cQ→List Nat→List cQ→Bool
 |_,_,[]=>true
 |pre,m::zI,b::fb=>yu m b 0 pre&&q3 (pre++[b]) zI fb
 |_,[],_::_=>false
def yv:Nat→List Oper→Bool
 |_,[]=>true
 |i,o::os=>(n1 o).all (fun e=>Nat.blt e i)&&yv (i+1) os
def i7(T:kD)(fL:Nat)(ops:Array Oper):List cQ→List Oper→Bool
 |[],[]=>true
 |a::as,o::os=>n0 T fL ops a o&&i7 T fL ops as os
 |_,_=>false
def q4(T:kD)(fL:Nat)(ops:Array Oper)(e:List cQ):Bool:=i7 T fL ops e ops.toList&&yv 0 ops.toList&&q3 [] (qe [] ops.toList) e
theorem h5{T:kD}{fL:Nat}{ops:Array Oper}:∀{as:List cQ} {os:List Oper},i7 T fL ops as os=true→as.length=os.length∧∀(i:Nat) (a:cQ) (o:Oper),as[i]? =some a→os[i]? =some o→n0 T fL ops a o=true
 |[],[],_=>⟨rfl,fun i a o h=>by simp at h⟩
 |[],_::_,h=>by simp [i7] at h
 |_::_,[],h=>by simp [i7] at h
 |a::as,o::os,h=>by
  simp only[i7,bm] at h;obtain⟨ar,av⟩:=h5 h.2;refine⟨by simp [ar],fun i fN o' e r=>?_⟩;cases i with
  |zero=>simp at e r;subst e;subst r;exact h.1
  |succ i=>exact av i fN o' (by simpa using e) (by simpa using r)
theorem q5:∀{i:Nat} {os:List Oper},yv i os=true→∀(j:Nat) (o:Oper),os[j]? =some o→∀e,e∈n1 o→e<i+j
 |i,[],_,j,o,h=>by simp at h
 |i,o'::os,h,j,o,r=>by
  simp only[yv,bm,List.all_eq_true] at h;cases j with
  |zero=>
   simp at r;subst r;intro e he
   have:=h.1 e he;rw[Nat.blt_eq] at this;omega
  |succ j=>
   intro e he
   have:=q5 h.2 j o (by simpa using r) e he;omega
theorem q6{bits:Nat}{b:cQ}:∀{m:Nat} {as:List cQ},yu bits b m as=true→∀(j:Nat) (a:cQ),as[j]? =some a→bits.testBit (m+j)=true∨indep a b=true
 |m,[],_,j,a,h=>by simp at h
 |m,fN::as,h,j,a,e=>by
  simp only[yu,bm,Bool.or_eq_true] at h;cases j with
  |zero=>simp at e;subst e;exact h.1
  |succ j=>have:=q6 h.2 j a (by simpa using e);rw[show m+(j+1)=m+1+j by omega];exact this
theorem pQ:∀{pre:List cQ} {zI:List Nat} {rest:List cQ},q3 pre zI rest=true→∀(i m:Nat) (a b:cQ),pre.length≤i→m<i→(pre++rest)[m]? =some a→(pre++rest)[i]? =some b→(zI.getD (i-pre.length) 0).testBit m=true∨indep a b=true
 |pre,zI,[],_,i,m,a,b,bY,hm,u,r=>by
  rw[uj] at r
  have:=(eA.1 r).1;omega
 |pre,[],y::fb,h,i,m,a,b,bY,hm,u,r=>by simp [q3] at h
 |pre,jg::zI,y::fb,h,i,m,a,b,bY,hm,u,r=>by
  simp only[q3,bm] at h;by_cases he:i=pre.length
  ·subst he;rw[Nat.sub_self];have A:b=y:=by simpa using r.symm
   subst A
   have:=q6 h.1 m a (by rw[ha hm] at u;exact u);simpa using this
  ·have:=pQ (pre:=pre++[y]) h.2 i m a b (by simp;omega) hm (by simpa using u) (by simpa using r);have e:i-pre.length=(i-(pre++[y]).length)+1:=by simp;omega
   rw[e];simpa using this
theorem ou(acc:List Nat)(m:Nat):∀(es:List Nat),(mO acc es).testBit m=true→∃e,e∈es∧(m=e∨(acc.getD e 0).testBit m=true)
 |[],h=>by simp [mO] at h
 |e::es,h=>by
  simp only[mO,Nat.testBit_or,Bool.or_eq_true] at h;rcases h with h|h|h
  ·obtain⟨hR,ar,av⟩:=ou acc m es h;exact⟨hR,List.mem_cons_of_mem _ ar,av⟩
  ·refine⟨e,List.mem_cons_self,.inl ?_⟩;rw[Nat.one_shiftLeft,Nat.testBit_two_pow] at h;simpa using (of_decide_eq_true h).symm
  ·exact⟨e,List.mem_cons_self,.inr h⟩
def JP(M:List Nat)(os:List Oper):Prop:=M.length=os.length∧∀i m,(M.getD i 0).testBit m=true→∃o e,os[i]? =some o∧e∈n1 o∧(m=e∨(M.getD e 0).testBit m=true)
theorem q7:∀(os:List Oper) (acc:List Nat) (pre:List Oper),JP acc pre→JP (qe acc os) (pre++os)
 |[],acc,pre,h=>by simpa [qe] using h
 |o::os,acc,pre,h=>by
  have:=q7 os (acc++[mO acc (n1 o)]) (pre++[o]) ?_
  ·simpa [qe] using this
  refine⟨by simp [h.1],fun i m hm=>?_⟩;have up:∀e,(acc.getD e 0).testBit m=true→((acc++[mO acc (n1 o)]).getD e 0).testBit m=true:=fun e he=>by
   have r:e<acc.length:=by
    rcases Nat.lt_or_ge e acc.length with q|q
    ·exact q
    ·rw[List.getD_eq_getElem?_getD,List.getElem?_eq_none q] at he;simp at he
   rw[List.getD_eq_getElem?_getD,ha r,←List.getD_eq_getElem?_getD];exact he
  rcases Nat.lt_trichotomy i acc.length with q|q|q
  ·rw[List.getD_eq_getElem?_getD,ha q,←List.getD_eq_getElem?_getD] at hm;obtain⟨o',e,ar,av,bO⟩:=h.2 i m hm;refine⟨o',e,?_,av,bO.imp id (up e)⟩;rw[ha (by rw[←h.1];exact q)];exact ar
  ·subst q;have u:(mO acc (n1 o)).testBit m=true:=by simpa using hm
   obtain⟨e,ar,av⟩:=ou acc m _ u;refine⟨o,e,?_,ar,av.imp id (up e)⟩;rw[h.1];simp
  ·rw[List.getD_eq_getElem?_getD,List.getElem?_eq_none (by simp;omega)] at hm;simp at hm
section
variable{P:Program}{fL:Nat}{B:Nat}{ro:Option Nat}{T:kD}(eO:T.pn P){E:Env}(bo:E.F=.not)(ju:mM P E)
include eO bo ju
theorem C3{ops:Array Oper}{r:List cQ}(dd:q4 T fL ops r=true){Q:Exit→Act→World→Prop}{g':Nat→ae}{s':ag}:∀(fuel:Nat) (L:List Nat) (listed:Array Bool) {κ:bh} {s:ag} {w:World} {g:Nat→ae} {a:Act},
  L.length=fuel→L.Pairwise (· < ·)→listed.size=ops.size→(∀i,i∈L↔i<ops.size∧listed.getD i true=false)→
  (∀i m,listed.getD i false=true→((qe [] ops.toList).getD i 0).testBit m=true→listed.getD m false=true)→fz κ s w g a fL B E.au→gX E (L.map (r.getD · default)) g s=some (g',s')→
  (∀κ' w' fN,ft κ s w κ' s' w'→fz κ' s' w' g' fN fL B E.au→Q .normal fN w')→wpAnyIn (wM ro) 0 P .any ops Q fuel listed a w:=by
 simp only[q4,bm] at dd;obtain⟨⟨Z,aa⟩,ab⟩:=dd;obtain⟨hlen,ac⟩:=h5 Z;have ad:=q5 aa;have af:=pQ ab;have ah:=q7 ops.toList [] [] ⟨rfl,fun i m h=>by simp at h⟩;have ai:∀(o:Oper) (e:Edge),e∈o.after→Region.binds .any e=true→e.on∈n1 o:=fun o e he I=>List.mem_map.2 ⟨e,List.mem_filter.2 ⟨by simpa using he,I⟩,rfl⟩
 have aj:∀(o:Oper) (n:Nat),n∈n1 o→∃e,e∈o.after∧Region.binds .any e=true∧e.on=n:=fun o n dk=>by obtain⟨e,he,ak⟩:=List.mem_map.1 dk;obtain⟨ar,av⟩:=List.mem_filter.1 he;exact⟨e,by simpa using ar,av,ak⟩
 have O:∀(listed:Array Bool) (i:Nat),i<listed.size→listed.getD i true=listed.getD i false:=fun listed i h=>by simp [Array.getD_eq_getD_getElem?,h]
 intro fuel
 induction fuel with
 |zero=>
  intro L listed κ s w g a n2 fp eZ jo J h aQ K
  have:L=[]:=kF n2;subst this;refine⟨?_,?_⟩
  ·cases M:Region.ready .any ops listed with
   |nil=>rfl
   |cons i l=>
    have bY:i∈Region.ready .any ops listed:=by rw[M];exact List.mem_cons_self
    obtain⟨ar,o,av,_⟩:=mem_ready.1 bY
    have:=(jo i).2 ⟨(Array.getElem?_eq_some_iff.1 av).1,ar⟩;cases this
  ·simp only[List.map_nil,gX,bj,eW] at aQ;obtain⟨rfl,rfl⟩:=aQ;exact K κ w a (.refl _ _ _) h
 |succ fuel al=>
  intro L listed κ s w g a n2 fp eZ jo J h aQ K;refine⟨fun M=>?_,fun i bY=>?_⟩
  ·cases L with
   |nil=>simp at n2
   |cons i0 l=>
    obtain⟨ar,av⟩:=(jo i0).1 List.mem_cons_self
    have:i0∈Region.ready .any ops listed:=by
     refine mem_ready.2 ⟨av,ops[i0],Array.getElem?_eq_getElem ar,fun e he I=>?_⟩;have am:=ad i0 ops[i0] (by simp [ar]) e.on (ai _ _ he I);rw[bf] at am;rw[←O listed e.on (by omega)];cases gr:listed.getD e.on true with
     |true=>rfl
     |false=>
      have:=(jo e.on).2 ⟨by omega,gr⟩;rcases List.mem_cons.1 this with q|q
      ·omega
      ·have:=List.rel_of_pairwise_cons fp q;omega
    rw[M] at this;cases this
  ·obtain⟨ar,o,av,bO⟩:=mem_ready.1 bY;have H:i<ops.size:=(Array.getElem?_eq_some_iff.1 av).1;have an:=(jo i).2 ⟨H,ar⟩;have U:∀m,((qe [] ops.toList).getD i 0).testBit m=true→listed.getD m false=true:=fun m hm=>by
    obtain⟨o',e,ao,ap,A⟩:=ah.2 i m hm
    have:o'=o:=by
     have V:ops[i]? =some o':=by simpa using ao
     rw[av] at V;exact(Option.some.inj V).symm
    subst this;obtain⟨hR,px,qG,CO⟩:=aj _ _ ap;have bK:=bO hR px qG;rw[CO] at bK;rcases A with A|A
    ·rw[A];exact bK
    ·exact J e m bK A
   obtain⟨pre,post,rfl⟩:=List.append_of_mem an;have F:=List.pairwise_append.1 fp;have Y:∀m,m∈pre→m<i:=fun m hm=>F.2.2 m hm i List.mem_cons_self
   have aq:∀m,m∈post→i<m:=fun m hm=>List.rel_of_pairwise_cons F.2.1 hm
   have N:∀m,m<ops.size→r[m]? =some (r.getD m default):=fun m hm=>by
    have:m<r.length:=by rw[hlen];simpa using hm
    simp [List.getD_eq_getElem?_getD,this]
   have as:∀x,x∈pre.map (r.getD · default)→indep x (r.getD i default)=true:=fun x a9=>by
    obtain⟨m,hm,rfl⟩:=List.mem_map.1 a9;have aw:=Y m hm;obtain⟨ax,jj⟩:=(jo m).1 (List.mem_append_left _ hm);rcases af i m _ _ (Nat.zero_le _) aw (N m ax) (N i H) with q|q
    ·have:=U m (by simpa using q);rw[O listed m (by omega),this] at jj;cases jj
    ·exact q
   rw[List.map_append,gd] at aQ;have ie:=u4 bo _ as aQ;rw[←List.map_append] at ie;simp only[gX] at ie;cases he:ji E (r.getD i default) g s with
   |none=>rw[he] at ie;cases ie
   |some p=>
    obtain⟨v,s1⟩:=p;rw[he] at ie;simp only[f0] at ie;refine oP eO bo ju h av (ac i _ o (N i H) (by simpa using av)) he fun κ' w' fN ay az=>?_
    refine al (pre++post) _ (by simp at n2 ⊢;omega) (List.pairwise_append.2 ⟨F.1,F.2.1.of_cons,fun x a9 y eQ=>F.2.2 x a9 y (List.mem_cons_of_mem _ eQ)⟩) (by simp [eZ]) (fun j=>?_) (fun j m df hm=>?_) az ie
     (fun aA aB aC aD aE=>K aA aB aC (ay.trans aD) aE)
    ·by_cases u:j=i
     ·subst u;constructor
      ·intro hm;rcases List.mem_append.1 hm with q|q
       ·exact absurd (Y j q) (Nat.lt_irrefl _)
       ·exact absurd (aq j q) (Nat.lt_irrefl _)
      ·intro hm
       have:=hm.2;simp [Array.getD_eq_getD_getElem?,eZ,H] at this
     ·rw[getD_set_ne true (Ne.symm u),←jo j];simp only[List.mem_append,List.mem_cons];constructor
      ·rintro (q|q)
       ·exact .inl q
       ·exact .inr (.inr q)
      ·rintro (q|q|q)
       ·exact .inl q
       ·exact absurd q u
       ·exact .inr q
    ·by_cases u:j=i
     ·subst u;exact getD_set_true (U m hm)
     ·rw[getD_set_ne false (Ne.symm u)] at df;exact getD_set_true (J j m df hm)
theorem w8{κ:bh}{s:ag}{w:World}{ao:eH}{a:Act}{ops:Array Oper}{e:List cQ}(dd:i7 T fL ops e ops.toList=true)(h:fz κ s w ao.get a fL B E.au){fin:eH→ag→ah}{A:ae→eH→ag→ah}{r:ah}(bt:r≠.fail)(aQ:fs E e ao s fin A=r){Q:Exit→Act→World→Prop}
  (F:∀κ' s' w' eh fN,ft κ s w κ' s' w'→fz κ' s' w' eh.get fN fL B E.au→fin eh s'=r→Q .normal fN w')(id:Nat):(Code.region id ops false).wpIn (wM ro) 0 P Q a w:=by
 obtain⟨eh,s',ar,av⟩:=lK bo ju.nx bt e aQ;obtain⟨hlen,H⟩:=h5 dd;refine wpIn_region (qd eO bo ju (List.range ops.size) e (by rw[hlen];simp) (fun j i I df J=>?_) h ar (fun κ' w' fN he K=>F κ' s' w' eh fN he K av));obtain⟨L,u⟩:=eA.1 df;rw[List.getElem_range] at u;subst u;have y:j<ops.size:=by simpa using L
 exact⟨ops[j],Array.getElem?_eq_getElem y,H j I _ J (by simp [y])⟩
theorem fz.drawn{κ:bh}{s:ag}{w:World}{g:Nat→ae}{a:Act}(h:fz κ s w g a fL B E.au):fz κ s {w with drawn:=w.drawn+1} g a fL B E.au∧ft κ s w κ s {w with drawn:=w.drawn+1}:=
 ⟨⟨h.iL.world (.refl _ _) rfl rfl (fun a v e=>h.iL.iA a v e) (fun _ _=>⟨rfl,fun _=>rfl⟩),h.ao,h.defers,h.size,h.au⟩,
  ⟨.refl _ _,rfl,aB _,rfl,rfl,rfl,fun _ _ _=>rfl,fun _ _ h=>h,fun _ h=>.inl h⟩⟩
theorem zZ{κ:bh}{s:ag}{w:World}{ao:eH}{a:Act}{ops:Array Oper}{e:List cQ}(hm:P.follows .mixedOrders=true)(dd:q4 T fL ops e=true)(h:fz κ s w ao.get a fL B E.au){fin:eH→ag→ah}{y:ae→eH→ag→ah}{r:ah}(bt:r≠.fail)(aQ:fs E e ao s fin y=r){Q:Exit→Act→World→Prop}
  (A:∀κ' s' w' eh fN,ft κ s w κ' s' w'→fz κ' s' w' eh.get fN fL B E.au→fin eh s'=r→Q .normal fN w')(id:Nat):(Code.region id ops true).wpIn (wM ro) 0 P Q a w:=by
 obtain⟨eh,s',ar,av⟩:=lK bo ju.nx bt e aQ;have hlen:=(h5 (by simp only[q4,bm] at dd;exact dd.1.1)).1;obtain⟨cR,F⟩:=h.drawn eO bo ju;refine wpIn_region_any hm (C3 eO bo ju dd ops.size (List.range ops.size) _ (by simp) List.pairwise_lt_range (by simp) (fun i=>?_) (fun i m bY=>?_) cR ?_ (fun κ' w' fN he H=>A κ' s' w' eh fN (F.trans he) H av))
 ·rw[List.mem_range];constructor
  ·intro bY;exact⟨bY,by simp [Array.getD_eq_getD_getElem?,bY]⟩
  ·exact fun bY=>bY.1
 ·by_cases u:i<ops.size
  ·simp [Array.getD_eq_getD_getElem?,u] at bY
  ·simp [Array.getD_eq_getD_getElem?,u] at bY
 ·have:(List.range ops.size).map (e.getD · default)=e:=by
   apply List.ext_getElem
   ·rw[hlen];simp
   ·intro i J I;simp [List.getD_eq_getElem?_getD,I]
  rw[this];exact ar
end
inductive aay:p4→Exit→Prop
 |norm:aay .norm .normal
 |exit (i:Nat):aay (.exit i) (.exit i)
 |ret:aay .ret .ret
def j4(κ:bh)(s:ag)(w:World)(fL:Nat)(B:Nat)(G:Nat→ae)(k:p4→eH→ag→ah)(r:ah):Exit→Act→World→Prop:=fun e fN w'=>∃x κ' s' eh,aay x e∧ft κ s w κ' s' w'∧fz κ' s' w' eh.get fN fL B G∧k x eh s'=r
theorem j4.trans{κ κ':bh}{s s':ag}{w w':World}{fL:Nat}{B:Nat}{G:Nat→ae}{k:p4→eH→ag→ah}{r:ah}(he:ft κ s w κ' s' w'){e:Exit}{a:Act}{u:World}(h:j4 κ' s' w' fL B G k r e a u):j4 κ s w fL B G k r e a u:=by obtain⟨x,y,A,eh,ar,av,bO,dD⟩:=h;exact⟨x,y,A,eh,ar,he.trans av,bO,dD⟩
theorem hi.ext{l:Nat}{κ κ':bh}{s s':ag}{w w':World}(h:hi l κ s w κ' s' w')(bK:w'.heap[l]? =w.heap[l]?):ft κ s w κ' s' w':=
 ⟨h.k,h.aa,h.size,h.os,h.tape,h.output,fun b r dk=>by
  by_cases e:b=l
  ·rw[e,bK]
  ·exact h.kK b r e dk,h.live,h.oF⟩
theorem hi.q8{l:Nat}{κ κ':bh}{s s':ag}{w w':World}(h:hi l κ s w κ' s' w')(bK:w.heap.size≤l):ft κ s w κ' s' w':=
 ⟨h.k,h.aa,h.size,h.os,h.tape,h.output,fun b e dk=>h.kK b e (by omega) dk,h.live,h.oF⟩
theorem hi.put{κ:bh}{s:ag}{w:World}(l:Nat)(o:Obj):hi l κ s w κ s (w.putObj l o):=
 ⟨.refl _ _,rfl,Nat.le_of_eq World.putObj_size.symm,rfl,rfl,rfl,fun b _ dk _=>World.putObj_heap_other dk,fun _ _ h=>h,fun _ h=>.inl h⟩
theorem cY.heap{κ:bh}{s:ag}{w w':World}(a3:cY κ s w)(h:∀(r:Nat) (o:Obj),w.heap[r]? =some o→((∃C e jt,o=.cells C e jt)∨∃fi clock,o=.map fi clock)→w'.heap[r]? =some o):cY κ s w':=by
 refine a3.world (.refl _ _) rfl rfl (fun a v e=>?_) (fun b u=>⟨?_,fun _=>rfl⟩)
 ·obtain⟨ar,av⟩:=a3.iA a v e;refine⟨ar,?_⟩;unfold World.cell? at av ⊢;split at av
  ·rename_i c hR jt a1;rw[h _ _ a1 (.inl ⟨_,_,_,rfl⟩)];exact av
  ·cases av
 ·rcases a3.lZ u with⟨C,e,jt,ar⟩|⟨fi,clock,ar⟩
  ·rw[ar,h _ _ ar (.inl ⟨_,_,_,rfl⟩)]
  ·rw[ar,h _ _ ar (.inr ⟨_,_,rfl⟩)]
theorem cY.put{κ:bh}{s:ag}{w:World}(a3:cY κ s w){l:Nat}{r:Loop}(bK:w.heap[l]? =some (.loop r))(o:Obj):cY κ s (w.putObj l o):=
 a3.heap fun b o' ar av=>by
  rw[World.putObj_heap_other,ar]
  rintro rfl
  rw[bK] at ar;cases ar;rcases av with⟨C,e,jt,av⟩|⟨fi,clock,av⟩<;> cases av
theorem cY.nA{κ:bh}{s:ag}{w:World}(a3:cY κ s w){l:Nat}{r:Loop}(bK:w.heap[l]? =some (.loop r)):¬Live κ s l:=fun h=>by rcases a3.lZ h with⟨C,e,jt,u⟩|⟨fi,clock,u⟩<;> rw[bK] at u<;> cases u
theorem cY.xn{κ:bh}{s:ag}{w:World}(a3:cY κ s w){l:Nat}{r:Option (List Deferred)}(bK:w.heap[l]? =some (.deferred r)):¬Live κ s l:=fun h=>by rcases a3.lZ h with⟨C,e,jt,u⟩|⟨fi,clock,u⟩<;> rw[bK] at u<;> cases u
theorem World.kP(w:World)(o:Obj)(k:Nat)(h:k<w.heap.size):(w.alloc o).heap[k]? =w.heap[k]?:=by show(w.heap.push o)[k]? =_;rw[Array.getElem?_push,if_neg (by omega)]
theorem cY.alloc{κ:bh}{s:ag}{w:World}(a3:cY κ s w)(o:Obj):cY κ s (w.alloc o):=
 a3.heap fun b o' ar _=>by rw[World.kP w o b (Array.getElem?_eq_some_iff.1 ar).1,ar]
theorem ft.alloc(κ:bh)(s:ag)(w:World)(o:Obj):ft κ s w κ s (w.alloc o):=
 ⟨.refl _ _,rfl,by rw[World.size_alloc];omega,rfl,rfl,rfl,fun b e _=>World.kP w o b e,fun _ _ h=>h,fun _ h=>.inl h⟩
section
variable{P:Program}{fL:Nat}{B:Nat}{E:Env}
def JQ(p fL:Nat)(ea:Array Tmp):Bool:=match ea.toList with
 |[q]=>Nat.beq p q&&Nat.blt p fL
 |_=>false
def JR(P:Program)(fL:Nat)(E:Env)(ro:Option Nat)(c:ad)(code:Code):Prop:=∀{κ:bh} {s:ag} {w:World} {ao:eH} {a:Act} {B:Nat} {k:p4→eH→ag→ah} {r:ah},r≠.fail→fz κ s w ao.get a fL B E.au→exec E c ao s k=r→code.wpIn (wM ro) 0 P (j4 κ s w fL B E.au k r) a w
theorem tE{step:ae→ag→(p4→ag→ah)→ah}{hA:ag}{dC:List ae}{x:ae}{xs:List ae}{s:ag}{k:p4→ag→ah}:g4 step hA dC (x::xs) s k=step x s fun e s=>match e with
  |.norm=>bif dC.all (fS hA s) then g4 step hA dC xs s k else .fail
  |e=>k e s:=rfl
theorem yw{j f p:Nat}{g:bB}{x y:ad}{g':Operand}{ea:Array Tmp}{ap aq:Code}(aE:zM P f j)(cB:cD g g'=true)(M:JQ p fL ea=true)(a9:∀l,JR P fL E (some l) x ap)(eQ:∀l,JR P fL E (some l) y aq)
  {κ:bh}{s:ag}{w:World}{ao:eH}{a:Act}{k:p4→eH→ag→ah}{r:ah}(bt:r≠.fail)(h:fz κ s w ao.get a fL B E.au)(aQ:exec E (.range j f g p x y) ao s k=r):
  (Code.rangeFunc g' ea ap aq).wpIn (wM none) 0 P (j4 κ s w fL B E.au k r) a w:=by
 simp only[exec] at aQ;have aR:=bq h.ao h.au cB;unfold nQ at aQ;split at aQ
 ·rename_i wt dC a7;rw[a7] at aR;cases N:Nat.beq f wt with
  |false=>rw[N] at aQ;exact absurd aQ.symm bt
  |true=>
  rw[N] at aQ;simp only[bX] at aQ;have a8:=dj N;subst a8;split at aQ
  ·rename_i xs fU;obtain⟨dr,ba,bb⟩:=dA.tP (cs:=dC) aR;obtain⟨bc,bz⟩:ea= #[p]∧p<fL:=by
    unfold JQ at M;split at M
    ·rename_i q gr;simp only[bm] at M;have ar:=dj M.1;have av:=M.2;rw[Nat.blt_eq] at av;subst ar;exact⟨by rw[←Array.toArray_toList (xs:=ea),gr],av⟩
    ·cases M
   subst bc;obtain⟨⟨aS,bd,aT,be⟩,aE⟩:=aE;refine wpIn_rangeFunc ?_;intro fn bA;obtain⟨rec,H⟩:∃rec:LoopState→Option Code→Loop,rec=fun gP O=>{state:=gP,pending:=O,fn,tmps:=a.tmps,params:= #[p],assign:=ap,body:=aq,defers:=w.heap.size}:=⟨_,rfl⟩
   obtain⟨A,ab⟩:∃A,(w.alloc (.deferred (some []))).alloc (.loop (rec .ready none))=A:=⟨_,rfl⟩;obtain⟨l,bK⟩:∃l,l=w.heap.size+1:=⟨_,rfl⟩;have I:A.heap[l]? =some (.loop (rec .ready none)):=by rw[←ab,bK];have:=World.alloc_heap_new (w.alloc (.deferred (some []))) (.loop (rec .ready none));rwa [World.size_alloc] at this
   have aF:A.heap[w.heap.size]? =some (.deferred (some [])):=by rw[←ab];exact(World.kP _ _ _ (by simp)).trans (World.alloc_heap_new w _)
   have as:ft κ s w κ s A:=by rw[←ab];exact(ft.alloc _ _ _ _).trans (ft.alloc _ _ _ _)
   have ac:cY κ s A:=by rw[←ab];exact(h.iL.alloc _).alloc _
   refine⟨w.heap.size+1,[{target:=.collected w.heap.size,args:= #[]}],A,{target:=.fn (.func f) dr.toArray,args:= #[.func (.yield (w.heap.size+1)) #[] #[]]},A,f,
    #[.func (.yield (w.heap.size+1)) #[] #[]]++dr.toArray,A,?_,?_,fun _ _=>trivial,?_,fun bf=>(by cases bf),?_⟩
   ·rw[←ab,H];exact run_enterLoop_outer _ _ _ _ _
   ·simp only[resolve,ba];simp [go_sem]
   ·have bg:¬aS.name= "runtime.NumGoroutine" :=by simpa using be
    cases N:aS.body with
    |none=>rw[N] at aT;cases aT
    |some c=>simp [invoke,go_sem,callFunc,bd,bg,N]
   ·rw[←bK];obtain⟨step,aU⟩:∃step:ae→ag→(p4→ag→ah)→ah,step=fun kw s lz=>iU ao (some p) kw fun eh=>exec E x eh s (CL (exec E y) fun u _ s=>lz u s):=⟨_,rfl⟩
    obtain⟨ek,aV⟩:∃ek:p4→ag→ah,ek=fun u s=>k u ao s:=⟨_,rfl⟩
    rw[←aU,←aV] at aQ;refine(aE dC xs κ s A dr l fU ac bb (Array.getElem?_eq_some_iff.1 I).1 (ac.nA I) (fun o af=>by rw[I] at af;cases af;rfl)
     (fun i s'=>g4 step s dC (xs.drop i) s' ek=r) (fun s' o=>∃(u:p4) (c:Code),ek u s'=r∧o=some (.loop (rec .done (some c)))∧((∃i,u=.exit i∧c=.exit i)∨(u=.ret∧c=.ret))) aQ ?_).mono ?_
    ·
     intro i aW oJ κ' s' w' bY he J ai bC bJ;have bi:xs.drop i=aW::xs.drop (i+1):=by obtain⟨ar,av⟩:=eA.1 bY;rw[jq ar,av]
     rw[bi,tE] at ai;obtain⟨aw,ax⟩:∃aw:p4→ag→ah,aw=fun u aG=>match u with
      |.norm=>bif dC.all (fS s aG) then g4 step s dC (xs.drop (i+1)) aG ek else .fail
      |u=>ek u aG:=⟨_,rfl⟩
     have aj:step aW s' aw=r:=by rw[ax];exact ai
     rw[aU] at aj;simp only at aj;obtain⟨eh,bj,bk⟩:=oO aj bt;have F:w'.heap[l]? =some (.loop (rec .ready none)):=by rw[he.kK l (Array.getElem?_eq_some_iff.1 I).1 (ac.nA I)];exact I
     have aX:=run_yield (P:=P) (args:= #[oJ]) F (by rw[H];rfl);rw[H] at aX;refine⟨fn,_,ap,aq,aX,roundIn_of_wpIn trivial ?_⟩;have eZ:a.tmps.size=fL:=h.size;have bl:fz κ' s' w' eh.get {tmps:=((#[p]:Array Tmp).zip #[oJ]).foldl (fun tmps x=>tmps.setIfInBounds x.1 x.2) a.tmps,defers:=[]} fL w'.heap.size E.au:=by
      refine⟨J,fun t=>?_,Marks.nil (aB _),by simp [eZ],h.au.mono (as.trans he).k⟩;rw[bk];simp only[cH];have fp:p<a.tmps.size:=by omega
      by_cases dU:t=p
      ·subst dU;rw[if_pos rfl,bJ.k4];simp only[List.zip_toArray,List.zip_cons_cons,List.zip_nil_right,List.foldl_toArray',List.foldl_cons,List.foldl_nil,Array.getD_eq_getD_getElem?,Array.getElem?_setIfInBounds_self_of_lt fp,Option.getD_some];exact bJ
      ·rw[if_neg dU]
       have:=(h.ao.ext (as.trans he)) t;simp only[List.zip_toArray,List.zip_cons_cons,List.zip_nil_right,List.foldl_toArray',List.foldl_cons,List.foldl_nil,Array.getD_eq_getD_getElem?,Array.getElem?_setIfInBounds_ne (Ne.symm dU)] at this ⊢;exact this
     refine wpIn_mono (a9 l bt bl bj) ?_
     rintro e aY aH ⟨u,ay,s1,aZ,aI,a0,ak,aJ⟩
     cases aI with
     |exit i=>exact absurd aJ.symm bt
     |ret=>exact absurd aJ.symm bt
     |norm=>
      have az:aH.heap[l]? =some (.loop (rec .ready none)):=by rw[a0.kK l (Array.getElem?_eq_some_iff.1 F).1 (J.nA F)];exact F
      obtain⟨K,U⟩:∃K,aH.putObj l (.loop {rec .ready none with state:=.busy})=K:=⟨_,rfl⟩;refine⟨K,by rw[←U];exact run_beginRound az (by rw[H]),?_⟩;have bn:hi l ay s1 aH ay s1 K:=by rw[←U];exact .put _ _
      have aK:K.heap[l]? =some (.loop {rec .ready none with state:=.busy}):=by rw[←U];exact World.putObj_heap_same (Array.getElem?_eq_some_iff.1 az).1
      have a2:cY ay s1 K:=by rw[←U];exact ak.iL.put az _
      have bo:Marks w'.heap.size K aY.defers:=by
       obtain⟨aA,ot,al,aC,V⟩:=ak.defers;refine⟨by rw[←U,World.putObj_size];exact aA,ot,al,aC,fun D L=>⟨(V D L).1,?_⟩⟩;rw[←U,World.putObj_heap_other,(V D L).2]
       rintro rfl
       have:=(V D L).2;rw[az] at this;cases this
      have bp:fz ay s1 K aZ.get aY fL w'.heap.size E.au:=⟨a2,ak.ao,bo,ak.size,ak.au⟩;have br:exec E y aZ s1 (fun u _ s=>aw u s)=r:=aJ;refine wpIn_mono (eQ l bt bp br) ?_
      rintro e bD am ⟨u,aD,s2,bE,aI,a3,aL,Y⟩
      have an:am.heap[l]? =some (.loop {rec .ready none with state:=.busy}):=by rw[a3.kK l (Array.getElem?_eq_some_iff.1 aK).1 (a2.nA aK)];exact aK
      have aM:hi l κ' s' w' aD s2 am:=(a0.x.trans bn).trans a3.x;have fin:∀Z:Option Code,(Instr.endRound l Z).run P am=.ok (.bool Z.isNone) (am.putObj l (.loop (rec (if Z.isNone then .ready else .done) Z))):=fun Z=>by have:=run_endRound (P:=P) Z an;rw[H] at this ⊢;exact this
      have aN:∀o,(am.putObj l o).heap[l]? =some o:=fun o=>World.putObj_heap_same (Array.getElem?_eq_some_iff.1 an).1
      cases aI with
      |norm=>
       refine⟨_,_,fin none,.inl ⟨rfl,aD,s2,(aM.trans (.put l _)).ext ?_,aL.iL.put an _,?_⟩⟩
       ·rw[aN,F];rfl
       ·rw[ax] at Y;obtain⟨ar,av⟩:=cV Y bt;exact⟨av,ar⟩
      |exit i=>refine⟨_,_,fin (some (.exit i)),.inr ⟨rfl,aD,s2,aM.trans (.put l _),aL.iL.put an _,.exit i,.exit i,?_,aN _,.inl ⟨i,rfl,rfl⟩⟩⟩;rw[ax] at Y;exact Y
      |ret=>refine⟨_,_,fin (some .ret),.inr ⟨rfl,aD,s2,aM.trans (.put l _),aL.iL.put an _,.ret,.ret,?_,aN _,.inr ⟨rfl,rfl⟩⟩⟩;rw[ax] at Y;exact Y
    ·
     have out:∀(κ':bh) (s':ag) (w':World) (gP:LoopState) (O:Option Code),hi l κ s A κ' s' w'→cY κ' s' w'→w'.heap[l]? =some (.loop (rec gP O))→∀u:p4,ek u s'=r→
       ∃aa,aa=w'.putObj l (.loop {rec gP O with state:=.exhausted})∧∀e,aay u e→j4 κ s w fL B E.au k r e {a with defers:={target:=.collected w.heap.size,args:= #[]}::a.defers} aa:=fun κ' s' w' gP O kA J F u dc=>by
      refine⟨_,rfl,fun e bs=>⟨u,κ',s',ao,bs,?_,?_,by rw[aV] at dc;exact dc⟩⟩
      ·exact((as.x.trans kA).trans (.put l _)).q8 (by omega)
      ·have aO:ft κ s w κ' s' (w'.putObj l (.loop {rec gP O with state:=.exhausted})):=((as.x.trans kA).trans (.put l _)).q8 (by omega);refine⟨J.put F _,h.ao.ext aO,?_,h.size,h.au.mono aO.k⟩;obtain⟨aA,ot,al,aC,V⟩:=h.defers.ext h.iL aO;refine⟨aA,w.heap.size::ot,by simp only[gd,al],List.nodup_cons.2 ⟨fun hm=>?_,aC⟩,fun D L=>?_⟩
       ·obtain⟨bu,a4,a5,bv,a6⟩:=h.defers;have bw:a4=ot:=by
         have:=a5.symm.trans al;clear aA al aC V bu a5 bv a6 hm
         induction a4 generalizing ot with
         |nil=>cases ot with
          |nil=>rfl
          |cons _ _=>cases this
         |cons d h3 bx=>cases ot with
          |nil=>cases this
          |cons fG bF=>simp only[gd,List.cons.injEq,Deferred.mk.injEq,Target.collected.injEq,and_true] at this;rw[this.1,bx _ this.2]
        have:=(a6 _ (bw ▸ hm)).2
        have:=(Array.getElem?_eq_some_iff.1 this).1;omega
       ·rcases List.mem_cons.1 L with rfl |L
        ·refine⟨h.defers.1,?_⟩;rw[World.putObj_heap_other (by omega),kA.kK _ (Array.getElem?_eq_some_iff.1 aF).1 (by omega) (ac.xn aF)];exact aF
        ·exact V D L
     rintro e w' ⟨⟨v,rfl⟩,(⟨κ',s',he,J,ai⟩|⟨κ',s',kA,J,u,c,dc,af,a1⟩)⟩
     ·have F:w'.heap[l]? =some (.loop (rec .ready none)):=by rw[he.kK l (Array.getElem?_eq_some_iff.1 I).1 (ac.nA I)];exact I
      have aj:ek .norm s'=r:=by rw[List.drop_length] at ai;exact ai
      obtain⟨aa,aP,dD⟩:=out κ' s' w' .ready none he.x J F .norm aj;refine⟨none,aa,?_,dD _ .norm⟩
      have:=run_endLoop (P:=P) F (by rw[H];simp);rw[this,aP,H]
     ·obtain⟨aa,aP,dD⟩:=out κ' s' w' .done (some c) kA J af u dc;refine⟨some c,aa,?_,?_⟩
      ·have:=run_endLoop (P:=P) af (by rw[H];simp);rw[this,aP,H]
      ·rcases a1 with⟨i,rfl,rfl⟩|⟨rfl,rfl⟩
       ·exact wpIn_exit (dD _ (.exit i))
       ·exact wpIn_ret (dD _ .ret)
  ·exact absurd aQ.symm bt
 ·exact absurd aQ.symm bt
end
def dn(T:kD)(fL:Nat)(rd:Bool):ad→Code→Bool
 |.skip,.skip=>true
 |.skip,.label _=>true
 |.region none e,.region _ ops false=>i7 T fL ops e ops.toList
 |.region (some []) e,.region _ ops true=>q4 T fL ops e
 |.seq a b,.seq x y=>dn T fL rd a x&&dn T fL rd b y
 |.mask _ a,c=>dn T fL rd a c
 |.cond c a b,.cond nK x y=>cD c nK&&dn T fL rd a x&&dn T fL rd b y
 |.block i a,.block j x=>Nat.beq i j&&dn T fL rd a x
 |.loop _ a,.loop x=>dn T fL rd a x
 |.exit i,.exit j=>Nat.beq i j
 |.scope a,.scope x=> !rd&&dn T fL rd a x
 |.ret,.ret=>true
 |.range j f g p a b,.rangeFunc g' ea x y=> !rd&&T.CV f j&&cD g g'&&JQ p fL ea&&dn T fL true a x&&dn T fL true b y
 |_,_=>false
theorem hM:∀(m:gg) (k:eH→ah) (ao:eH),∃eh,eH.js m k ao=k eh∧∀t,eh.get t=ao.get t∨eh.get t=.dead
 |.e,k,ao=>⟨.e,by cases ao<;> rfl,fun t=>.inr rfl⟩
 |.n A b u,k,.e=>by
  obtain⟨l',dM,ar⟩:=hM A (fun l=>eH.js u (fun r=>k (.n l .dead r)) .e) .e;obtain⟨y,B,av⟩:=hM u (fun r=>k (.n l' .dead r)) .e;refine⟨.n l' .dead y,by simp only[eH.js];rw[dM];exact B,fun t=>.inr ?_⟩;have F:∀t,l'.get t=.dead:=fun t=>(ar t).elim (fun h=>h) id
  have H:∀t,y.get t=.dead:=fun t=>(av t).elim (fun h=>h) id
  simp only[eH.get,F,H];cases Nat.beq t 0<;> cases Nat.beq (t%2) 1<;> rfl
 |.n A b u,k,.n l v r=>by
  obtain⟨l',dM,ar⟩:=hM A (fun l=>eH.js u (fun r=>k (.n l (bif b then v else .dead) r)) r) l;obtain⟨y,B,av⟩:=hM u (fun r=>k (.n l' (bif b then v else .dead) r)) r;refine⟨.n l' (bif b then v else .dead) y,by simp only[eH.js];rw[dM];exact B,fun t=>?_⟩;simp only[eH.get];cases Nat.beq t 0 with
  |true=>cases b<;> simp
  |false=>
   simp only[cond_false];cases Nat.beq (t%2) 1 with
   |true=>exact ar _
   |false=>exact av _
theorem qf{m:gg}{k:eH→ah}{ao:eH}{r:ah}(h:eH.js m k ao=r):∃eh,k eh=r∧∀t,eh.get t=ao.get t∨eh.get t=.dead:=by obtain⟨eh,e,cB⟩:=hM m k ao;exact⟨eh,e.symm.trans h,cB⟩
theorem oQ{F:Fence}{B:Nat}{P:Program}{c:Code}{Q:Exit→Act→World→Prop}(J:Nat→Act→World→Prop)(round:∀n a w,J n a w→c.wpIn F B P (Exit.then (fun fN w'=>∃m,m<n∧J m fN w') Q) a w){n:Nat}{a:Act}{w:World}(h:J n a w):(Code.loop c).wpIn F B P Q a w:=by
 intro b k cs H A aQ;have key:∀n a w,J n a w→∃e fN w',Q e fN w'∧ArrivesIn (Machine.fenced P F) P (lone (b.atR a (.code c:: .inLoop c::k)) cs w) b k cs e fN w':=by
  intro n
  induction n using Nat.strongRecOn with
  |_ n I=>
   intro a w K;obtain⟨e,u,y,gr,r⟩:=round n a w K b (.inLoop c::k) cs H A aQ;cases e with
   |normal=>obtain⟨m,L,M⟩:=gr;obtain⟨N,O,U,V,Y⟩:=I m L u y M;exact⟨N,O,U,V,.of_steps (StepsIn.trans r (.one (fenced_calm A aQ rfl) stepR_inLoop)) Y⟩
   |exit id=>exact⟨_,u,y,gr,.pass (x:=.inLoop c) rfl (fun _ _=>.inl (by simp)) r⟩
   |goto l=>exact⟨_,u,y,gr,.pass (x:=.inLoop c) rfl (fun _ _=>.inl (by simp)) r⟩
   |ret=>exact⟨_,u,y,gr,.pass (x:=.inLoop c) rfl (fun _ _=>.inl (by simp)) r⟩
   |panic JE=>exact⟨_,u,y,gr,.pass (x:=.inLoop c) rfl (fun _ _=>.inl (by simp)) r⟩
   |outgrown=>exact⟨_,u,y,gr,.pass (x:=.inLoop c) rfl (fun _ _=>.inl (by simp)) r⟩
 obtain⟨e,fN,w',gr,r⟩:=key n a w h;exact⟨e,fN,w',gr,.of_steps (.one (fenced_calm A aQ rfl) stepR_loop) r⟩
section
variable{P:Program}(hm:P.follows .mixedOrders=true){fL:Nat}{T:kD}(eO:T.pn P){E:Env}(bo:E.F=.not)(ju:mM P E)
include hm eO bo ju
theorem sY:∀(c:ad) (code:Code) {rd:Bool} {ro:Option Nat},(ro=none↔rd=false)→dn T fL rd c code=true→∀{κ:bh} {s:ag} {w:World} {ao:eH} {a:Act} {B:Nat} {k:p4→eH→ag→ah} {r:ah},r≠.fail→fz κ s w ao.get a fL B E.au→exec E c ao s k=r→code.wpIn (wM ro) 0 P (j4 κ s w fL B E.au k r) a w:=by
 intro c
 induction c with
 |skip=>
  intro code rd ro A dd κ s w ao a B k r bt h aQ;cases code<;> simp only[dn,bS] at dd
  ·exact wpIn_skip ⟨.norm,κ,s,ao,.norm,.refl _ _ _,h,aQ⟩
  ·exact wpIn_label ⟨.norm,κ,s,ao,.norm,.refl _ _ _,h,aQ⟩
 |region m2 ap=>
  intro code rd ro A dd κ s w ao a B k r bt h aQ;cases code with
  |region id ops d=>
   cases m2 with
   |none=>
    cases d with
    |true=>simp [dn] at dd
    |false=>simp only[dn] at dd;simp only[exec] at aQ;exact w8 eO bo ju dd h bt aQ (fun κ' s' w' eh fN he u dc=>⟨.norm,κ',s',eh,.norm,he,u,dc⟩) id
   |some m2=>
    cases m2 with
    |cons x l=>simp [dn] at dd
    |nil=>
     cases d with
     |false=>simp [dn] at dd
     |true=>simp only[dn] at dd;simp only[exec,List.all_nil,bX] at aQ;exact zZ eO bo ju hm dd h bt aQ (fun κ' s' w' eh fN he u dc=>⟨.norm,κ',s',eh,.norm,he,u,dc⟩) id
  |_=>cases m2<;> simp [dn] at dd
 |seq x y I J=>
  intro code rd ro A dd κ s w ao a B k r bt h aQ;cases code<;> simp only[dn,bS,bm] at dd;simp only[exec] at aQ;refine wpIn_seq (wpIn_mono (I _ A dd.1 bt h aQ) fun e fN w' fp=>?_);obtain⟨z,κ',s',eh,hC,he,u,dc⟩:=fp;cases hC with
  |norm=>exact wpIn_mono (J _ A dd.2 bt u dc) fun e aa ab fp=>fp.trans he
  |exit i=>exact⟨.exit i,κ',s',eh,.exit i,he,u,dc⟩
  |ret=>exact⟨.ret,κ',s',eh,.ret,he,u,dc⟩
 |mask m x F=>
  intro code rd ro A dd κ s w ao a B k r bt h aQ;have ac:dn T fL rd x code=true:=by simpa only[dn] using dd
  simp only[exec] at aQ;obtain⟨H,bK,K⟩:=qf aQ;have ae:fz κ s w H.get a fL B E.au:=⟨h.iL,fun t=>by
   rcases K t with q|q
   ·rw[q];exact h.ao t
   ·rw[q];exact .dead _,h.defers,h.size,h.au⟩
  exact F code A ac bt ae bK
 |cond c x y I J=>
  intro code rd ro A dd κ s w ao a B k r bt h aQ;cases code<;> simp only[dn,bS,bm] at dd;simp only[exec] at aQ;have a1:=bq h.ao h.au dd.1.1;cases bJ:aq E.au ao.get c<;> rw[bJ] at aQ a1<;> simp only at aQ<;> first|exact absurd aQ.symm bt|skip
  rename_i b;cases b with
  |true=>exact wpIn_cond_true (dA.gT (b:=true) a1) (I _ A dd.1.2 bt h aQ)
  |false=>exact wpIn_cond_false (dA.gT (b:=false) a1) (J _ A dd.2 bt h aQ)
 |block id c F=>
  intro code rd ro A dd κ s w ao a B k r bt h aQ;cases code<;> simp only[dn,bS,bm] at dd;have e:=dj dd.1;subst e;simp only[exec] at aQ;refine wpIn_block (wpIn_mono (F _ A dd.2 bt h aQ) fun e fN w' fp=>?_);obtain⟨z,κ',s',eh,hC,he,u,dc⟩:=fp;cases hC with
  |norm=>exact⟨.norm,κ',s',eh,.norm,he,u,dc⟩
  |exit i=>
   simp only[Exit.inBlock];simp only[eg] at dc;split
   ·rename_i bY;rw[bY,gf,bX] at dc;exact⟨.norm,κ',s',eh,.norm,he,u,dc⟩
   ·rename_i bY;rw[show Nat.beq i id=false from by cases af:Nat.beq i id with
     |false=>rfl
     |true=>exact absurd (dj af) bY,cond_false] at dc
    exact⟨.exit i,κ',s',eh,.exit i,he,u,dc⟩
  |ret=>exact⟨.ret,κ',s',eh,.ret,he,u,dc⟩
 |loop bN c F=>
  intro code rd ro A dd κ s w ao a B k r bt h aQ;cases code<;> simp only[dn,bS] at dd;simp only[exec] at aQ;have masked:∀{κ':bh} {s':ag} {w':World} {eh H:eH} {fN:Act},fz κ' s' w' eh.get fN fL B E.au→(∀t,H.get t=eh.get t∨H.get t=.dead)→fz κ' s' w' H.get fN fL B E.au:=fun u K=>⟨u.iL,fun t=>by
   rcases K t with q|q
   ·rw[q];exact u.ao t
   ·rw[q];exact .dead _,u.defers,u.size,u.au⟩
  obtain⟨ai,Y,aj⟩:=qf aQ;obtain⟨N,pR⟩:=ju.loop;rw[pR] at Y;refine oQ (fun n fN w'=>∃κ' s' eh,ft κ s w κ' s' w'∧fz κ' s' w' eh.get fN fL B E.au∧dP (exec E c) bN n eh s' k=r) (fun n fN w' ak=>?_) ⟨κ,s,ai,.refl _ _ _,masked h aj,Y⟩;obtain⟨κ',s',eh,he,u,bK⟩:=ak;cases n with
  |zero=>exact absurd bK.symm bt
  |succ n=>
   simp only[dP] at bK;refine wpIn_mono (F _ A dd bt u bK) fun e aa ab fp=>?_
   obtain⟨z,L,M,Z,hC,O,U,dc⟩:=fp;cases hC with
   |norm=>simp only[fa] at dc;obtain⟨H,al,am⟩:=qf dc;exact⟨n,Nat.lt_succ_self n,L,M,H,he.trans O,masked U am,al⟩
   |exit i=>exact⟨.exit i,L,M,Z,.exit i,he.trans O,U,dc⟩
   |ret=>exact⟨.ret,L,M,Z,.ret,he.trans O,U,dc⟩
 |exit id=>intro code rd ro A dd κ s w ao a B k r bt h aQ;cases code<;> simp only[dn,bS] at dd;have e:=dj dd;subst e;exact wpIn_exit ⟨.exit id,κ,s,ao,.exit id,.refl _ _ _,h,aQ⟩
 |scope c F=>
  intro code rd ro A dd κ s w ao a B k r bt h aQ;cases code<;> simp only[dn,bS,bm,Bool.not_eq_true'] at dd;obtain⟨V,dd⟩:=dd;obtain rfl:=A.2 V;simp only[exec] at aQ;refine wpIn_wide.2 (wp_scope_straight (wpIn_wide.1 (wpIn_mono (F _ A dd bt h aQ) fun e fN w' fp=>?_)));obtain⟨z,κ',s',eh,hC,he,u,dc⟩:=fp;cases hC with
  |norm=>exact⟨.norm,κ',s',eh,.norm,he,u,dc⟩
  |exit i=>exact⟨.exit i,κ',s',eh,.exit i,he,u,dc⟩
  |ret=>exact⟨.ret,κ',s',eh,.ret,he,u,dc⟩
 |range j f g p x y I J=>intro code rd ro A dd κ s w ao a B k r bt h aQ;cases code<;> simp only[dn,bS,bm,Bool.not_eq_true'] at dd;obtain⟨⟨⟨⟨⟨V,ar⟩,av⟩,bO⟩,dD⟩,an⟩:=dd;obtain rfl:=A.2 V;exact yw (eO.CV _ _ ar) av bO (fun l=>I _ (by simp) dD) (fun l=>J _ (by simp) an) bt h aQ
 |ret=>intro code rd ro A dd κ s w ao a B k r bt h aQ;cases code<;> simp only[dn,bS] at dd;exact wpIn_ret ⟨.ret,κ,s,ao,.ret,.refl _ _ _,h,aQ⟩
end
def i9(r:ah):Prop:=∀v s,r≠.panic v s
theorem i9.bind{r:ah}{k kp:ae→ag→ah}(ar:∀v s,i9 (k v s))(av:∀v s,i9 (kp v s)):i9 (ah.bind r k kp):=by
 cases r with
 |fail=>intro v s h;cases h
 |ok v s=>exact ar v s
 |panic v s=>exact av v s
theorem i9.fail:i9 .fail:=fun _ _ h=>by cases h
theorem i9.iS:∀(d n:Nat) (v:ae) (k:eH→ah) (ao:eH),(∀ao,i9 (k ao))→i9 (eH.iS d n v k ao)
 |0,n,v,k,ao,h=>i9.fail
 |d+1,n,v,k,.e,h=>by
  simp only[eH.iS];cases Nat.beq n 0
  ·cases Nat.beq (n%2) 1
   ·exact i9.iS d _ v _ _ (fun _=>h _)
   ·exact i9.iS d _ v _ _ (fun _=>h _)
  ·exact h _
 |d+1,n,v,k,.n l x r,h=>by
  simp only[eH.iS];cases Nat.beq n 0
  ·cases Nat.beq (n%2) 1
   ·exact i9.iS d _ v _ _ (fun _=>h _)
   ·exact i9.iS d _ v _ _ (fun _=>h _)
  ·exact h _
theorem i9.iU{ao:eH}{d:Option Nat}{v:ae}{k:eH→ah}(h:∀ao,i9 (k ao)):i9 (iU ao d v k):=by
 cases d with
 |none=>exact h ao
 |some n=>exact i9.iS 12 n v k ao h
theorem i9.fs{E:Env}(bo:E.F=.not):∀(r:List cQ) {ao:eH} {s:ag} {fin:eH→ag→ah} {e:ae→eH→ag→ah},(∀ao s,i9 (fin ao s))→(∀v ao s,i9 (e v ao s))→i9 (fs E r ao s fin e)
 |[],_,_,_,_,h,_=>h _ _
 |o::os,ao,s,fin,e,h,fp=>by
  simp only[Ab.fs];have key:∀w:Bool,i9 (bif w then aL E ao.get s (fun v s=>Ab.iU ao o.dst v fun ao=>Ab.fs E os ao s fin e) (fun v s=>e v ao s) o.op else Ab.iU ao o.dst (.eb []) fun ao=>Ab.fs E os ao s fin e):=fun w=>by
   cases w with
   |false=>exact i9.iU (fun ao=>i9.fs bo os h fp)
   |true=>simp only[bX];rw[jh bo];exact i9.bind (fun v s=>i9.iU (fun ao=>i9.fs bo os h fp)) (fun v s=>fp _ _ _)
  unfold l8;split
  ·exact key _
  ·split
   ·exact key _
   ·exact key _
   ·exact i9.fail
theorem i9.g4{step:ae→ag→(p4→ag→ah)→ah}{hA:ag}{dC:List ae}(h:∀x s k,(∀e s,i9 (k e s))→i9 (step x s k)):∀(xs:List ae) {s:ag} {k:p4→ag→ah},(∀e s,i9 (k e s))→i9 (Ab.g4 step hA dC xs s k)
 |[],_,_,dc=>dc _ _
 |x::xs,s,k,dc=>h x s _ fun e s=>by
  cases e with
  |norm=>
   simp only;cases dC.all (fS hA s) with
   |true=>exact i9.g4 h xs dc
   |false=>exact i9.fail
  |_=>exact dc _ _
theorem i9.exec{E:Env}(bo:E.F=.not)(n2:∃n,∀step bN ao s k,E.loop step bN ao s k=dP step bN n ao s k):∀(c:ad) {ao:eH} {s:ag} {k:p4→eH→ag→ah},(∀x ao s,i9 (k x ao s))→i9 (exec E c ao s k):=by
 intro c
 induction c with
 |skip=>exact fun h=>h _ _ _
 |region m2 ops=>
  intro ao s k h;cases m2 with
  |none=>exact i9.fs bo ops (fun _ _=>h _ _ _) (fun _ _ _=>i9.fail)
  |some m2=>
   simp only[Ab.exec];cases m2.all (qw E.au ao.get)
   ·exact i9.fail
   ·exact i9.fs bo ops (fun _ _=>h _ _ _) (fun _ _ _=>i9.fail)
 |seq a b u y=>
  intro ao s k h;simp only[Ab.exec];refine u fun x ao s=>?_
  cases x with
  |norm=>exact y h
  |_=>exact h _ _ _
 |mask m a r=>intro ao s k h;simp only[Ab.exec];obtain⟨eh,e,_⟩:=hM m (fun ao=>Ab.exec E a ao s k) ao;rw[e];exact r h
 |cond c a b u y=>
  intro ao s k h;simp only[Ab.exec];split
  ·rename_i t _;cases t
   ·exact y h
   ·exact u h
  ·exact i9.fail
 |block id c r=>
  intro ao s k h;simp only[Ab.exec];refine r fun x ao s=>?_
  cases x with
  |exit j=>simp only[eg];cases Nat.beq j id<;> exact h _ _ _
  |_=>exact h _ _ _
 |loop bN c r=>
  intro ao s k h;simp only[Ab.exec];obtain⟨n,dk⟩:=n2;obtain⟨eh,e,a9⟩:=hM bN (fun ao=>E.loop (Ab.exec E c) bN ao s k) ao;rw[e];simp only[dk];clear dk e a9
  induction n generalizing eh s with
  |zero=>exact i9.fail
  |succ n A=>
   simp only[dP];refine r fun x ao s=>?_
   cases x with
   |norm=>simp only[fa];obtain⟨eh,e,_⟩:=hM bN (fun ao=>dP (Ab.exec E c) bN n ao s k) ao;rw[e];exact A (s:=s) (eh:=eh)
   |_=>exact h _ _ _
 |exit id=>exact fun h=>h _ _ _
 |scope c r=>intro ao s k h;simp only[Ab.exec];exact r h
 |ret=>exact fun h=>h _ _ _
 |range j f g p a b u y=>
  intro ao s k h;simp only[Ab.exec];unfold nQ;split
  ·cases Nat.beq _ _ with
   |false=>exact i9.fail
   |true=>
    simp only[bX];split
    ·exact i9.g4 (fun x s lz dc=>i9.iU fun ao=>u fun x ao s=>by
      cases x with
      |norm=>exact y (fun _ _ _=>dc _ _)
      |_=>exact i9.fail) _ (fun _ _=>h _ _ _)
    ·exact i9.fail
  ·exact i9.fail
theorem i9.cw:∀(vs:List ae) (i:Nat) (ao:eH) (k:eH→ah),(∀ao,i9 (k ao))→i9 (cw vs i ao k)
 |[],_,ao,_,h=>h ao
 |v::vs,i,ao,k,h=>i9.iS 12 i v _ ao (fun ao=>i9.cw vs (i+1) ao k h)
theorem i9.finish{fn:c0}{ao:eH}{s:ag}:i9 (finish .not fn ao s):=by
 intro v s' h;simp only[Ab.finish,aU.not] at h;split at h
 ·split at h
  ·cases h
  ·split at h
   ·split at h<;> cases h
   ·cases h
 ·cases h
theorem i9.call{T:Nat→Option c0}{G:Nat→ae}{X:Nat→List ae→ag→ah}(kA:∀f args s,i9 (X f args s)):∀(n f:Nat) (args:List ae) (s:ag),i9 (call .not T G X n f args s)
 |0,_,_,_=>i9.fail
 |n+1,f,args,s=>by
  simp only[Ab.call];split
  ·exact kA _ _ _
  ·cases Nat.beq _ _
   ·exact i9.fail
   ·refine i9.cw _ _ _ _ fun ao=>i9.exec rfl ⟨_,fun _ _ _ _ _=>rfl⟩ _ fun x ao s=>?_
    cases x with
    |norm=>exact i9.finish
    |ret=>exact i9.finish
    |_=>exact i9.fail
theorem n3{k:eH→ah}{r:ah}(bt:r≠.fail):∀(vs:List ae) (i:Nat) (ao:eH),cw vs i ao k=r→∃eh,k eh=r∧∀t,eh.get t=if i≤t∧t<i+vs.length then vs.getD (t-i) .dead else ao.get t
 |[],i,ao,h=>⟨ao,h,fun t=>by rw[if_neg (by rw[cx];omega)]⟩
 |v::vs,i,ao,h=>by
  obtain⟨A,ar,av⟩:=j3 12 i v _ ao r h bt;obtain⟨eh,bO,dD⟩:=n3 bt vs (i+1) A ar;refine⟨eh,bO,fun t=>?_⟩;rw[dD t];by_cases dU:t=i
  ·subst dU;rw[if_neg (by omega),av,if_pos rfl,if_pos (by simp)];simp
  ·by_cases a1:i+1≤t∧t<i+1+vs.length
   ·rw[if_pos a1,if_pos (by simp;omega),show t-i=(t-(i+1))+1 by omega];simp
   ·rw[if_neg a1,av,if_neg dU,if_neg (by simp;omega)]
theorem kQ{α β:Type}{f:α→Option β}:∀{xs:List α} {e:List β},fC f xs=some e→e.length=xs.length∧∀(j:Nat) (y:β),e[j]? =some y→∃x,xs[j]? =some x∧f x=some y
 |[],e,h=>by simp only[fC,bj] at h;subst h;exact⟨rfl,fun j y df=>by simp at df⟩
 |x::xs,e,h=>by
  simp only[fC] at h;cases a9:f x with
  |none=>rw[a9] at h;cases h
  |some y=>
   rw[a9] at h;simp only[f0] at h;cases hm:fC f xs with
   |none=>rw[hm] at h;cases h
   |some l=>
    rw[hm] at h;simp only[ep,bj] at h;subst h;obtain⟨ar,av⟩:=kQ hm;refine⟨by simp [ar],fun j z df=>?_⟩;cases j with
    |zero=>simp at df;subst df;exact⟨x,rfl,a9⟩
    |succ j=>simpa using av j z (by simpa using df)
theorem oR{P:Program}{w:World}{α β:Type}(f:α→Sem β):∀(e:List α) (xs:List β),xs.length=e.length→(∀(j:Nat) (r:α) (x:β),e[j]? =some r→xs[j]? =some x→(f r).run P w=.ok x w)→(e.mapM f).run P w=.ok xs w
 |[],[],_,_=>by simp
 |[],_::_,h,_=>by simp at h
 |_::_,[],h,_=>by simp at h
 |r::e,x::xs,h,df=>by have ar:=df 0 r x rfl rfl;have av:=oR f e xs (by simpa using h) (fun j r x aQ a9=>df (j+1) r x (by simpa using aQ) (by simpa using a9));simp [List.mapM_cons,ar,av]
section
variable{P:Program}{κ:bh}{s:ag}{w:World}
theorem cY.hp(a3:cY κ s w):∀n,n≤s.own.length→∃κ' s',cY κ' s' w∧ft κ s w κ' s' w∧s'.up=s.up∧s'.ro=s.ro∧s'.own.length=s.own.length∧(∀i,n≤i→s'.own[i]? =s.own[i]?)∧κ'.loc=κ.loc∧
  ∀i cs,i<n→s.own[i]? =some (.cells cs)→∃C:Array Value,(∀j (h:j<C.size),κ'.F ⟨κ.loc s.aa i,j,none⟩=some C[j])∧ej κ' (s.aa+1) cs (C.toList.take cs.length)
 |0,_=>⟨κ,s,a3,.refl _ _ _,rfl,rfl,rfl,fun _ _=>rfl,rfl,fun i cs h=>absurd h (Nat.not_lt_zero i)⟩
 |n+1,dk=>by
  obtain⟨κ',s',ar,av,bO,dD,J,A,B,K⟩:=a3.hp n (by omega);have cR:s'.aa=s.aa:=av.aa;by_cases a1:∃cs,s.own[n]? =some (.cells cs)
  ·obtain⟨cs,L⟩:=a1;have cB:s'.get (.g s'.aa n)=some (.cells cs):=by
    simp only[ag.get,↓reduceIte];rw[A n (aB _),L]
   obtain⟨C,e,jt,O,H,M,u⟩:=ar.uw (s':={s' with own:=s'.own.set n .gone}) cB (by simp [ag.set]);refine⟨_,_,M,av.trans u,bO,dD,by simp [J],fun i bY=>?_,B,fun i y bY r=>?_⟩
   ·simp only;rw[nm (by omega),A i (by omega)]
   ·by_cases I:i=n
    ·subst I;rw[L] at r;simp only[bj,dp.cells.injEq] at r;subst r;refine⟨C,fun j df=>?_,?_⟩
     ·rw[←B,←cR];exact nS (Nat.zero_le _) df
     ·rw[cR] at H;exact⟨H.1,fun j c x a1 a9=>(H.2 j c x a1 a9).mono (u.k.low (by omega))⟩
    ·obtain⟨N,px,qG⟩:=K i y (by omega) r;exact⟨N,fun j df=>u.k.F _ _ (px j df),qG.1,fun j c x a1 a9=>(qG.2 j c x a1 a9).mono (u.k.low (by omega))⟩
  ·refine⟨κ',s',ar,av,bO,dD,J,fun i bY=>A i (by omega),B,fun i y bY r=>?_⟩;by_cases I:i=n
   ·subst I;exact absurd ⟨y,r⟩ a1
   ·exact K i y (by omega) r
theorem w9{D off len cap sz b:Nat}{cs:List ae}{C:Array Value}(h1:∀j (h:j<C.size),κ.F ⟨b,j,none⟩=some C[j])(bJ:ej κ D cs (C.toList.take cs.length)){lE:Nat}(tw:len≤lE)(sm:len=cap→lE=cap)(ar:ae.a7 (chunk sz len (cs.drop off))=true)(av:off+len*sz≤cs.length)(hC:sz≠0)(u:Nat):
  dA κ u (.cr sz (chunk sz len (cs.drop off)) (if len=cap then .exact else .any)) (.slice (some ⟨b,off,none⟩) len lE):=by
 obtain⟨A,B⟩:=kh sz hC len (cs.drop off) (by simp;omega);have bK:cs.length≤C.size:=by have:=bJ.1;simp at this;omega
 have key:dA κ D (.cr sz (chunk sz len (cs.drop off)) (if len=cap then e2.exact else e2.any)) (.slice (some ⟨b,off,none⟩) (chunk sz len (cs.drop off)).length lE):=by
  refine .cr sz _ _ _ _ (fun j=>C.getD (off+j) undef) ?_ (by rw[fo];exact tw) (fun _=>rfl) B (.inl fun e he=>ed.1 ar e he) (fun j df=>?_) (fun j c a1=>?_)
  ·by_cases h:len=cap
   ·simp [h,iz,fo,sm h]
   ·simp [h,iz]
  ·rw[A] at df;simp at df;have r:off+j<C.size:=by omega
   rw[fT rfl];show κ.F ⟨b,off+j,none⟩=_;rw[h1 _ r];simp [Array.getD,r]
  ·rw[A,List.getElem?_take] at a1;split at a1
   ·rw[List.getElem?_drop] at a1;obtain⟨y,eQ,H⟩:=bJ.get a1;have r:off+j<cs.length:=(eA.1 a1).1
    have:C.getD (off+j) undef=y:=by
     rw[List.getElem?_take,if_pos r] at eQ;have I:C[off+j]? =some y:=by simpa using eQ
     simp [Array.getD_eq_getD_getElem?,I]
    rw[this];exact H
   ·cases a1
 rw[fo] at key;refine key.bb ?_ u (fun _ _ h=>h);split<;> rfl
theorem kj{κ':bh}(dc:gO κ κ' (s.aa+1))(L:∀i cs,s.own[i]? =some (.cells cs)→∃C:Array Value,(∀j (h:j<C.size),κ'.F ⟨κ.loc s.aa i,j,none⟩=some C[j])∧ej κ' (s.aa+1) cs (C.toList.take cs.length)){v fB:ae}{x:Value}(bJ:dA κ (s.aa+1) (v.ap s.aa) x)(h:gm s v=some fB):dA κ' s.aa fB x:=by
 have own:∀{i off len cap sz:Nat},dA κ (s.aa+1) (.cZ (.g s.aa i) off len cap sz) x→hp s i off len cap sz=some fB→dA κ' s.aa fB x:=fun {i off len cap sz} bJ h=>by
  obtain⟨lE,e,cR,bY,tw,uN⟩:=bJ.jL;unfold Ab.hp at h;split at h
  ·rename_i cs M;simp only at h;split at h
   ·rename_i y;simp only[bm,Bool.not_eq_true'] at y;simp only[bj] at h;subst h;obtain⟨C,px,qG⟩:=L i cs M;rw[e];exact w9 px qG tw (fun h=>by rcases uN with ar|⟨ar,av,_⟩<;> omega) y.1.1 (dW y.1.2) (fun eJ=>by rw[eJ] at y;simp at y) _
   ·cases h
  ·cases h
 have any:∀{sz:Nat} {es:List ae} {l:Loc},ae.a7 es=true→dA κ (s.aa+1) (ae.ap s.aa (.cr sz es (.dt l))) x→dA κ' s.aa (.cr sz es .any) x:=fun {sz es l} A bJ=>by
  have K:=ed.1 A;simp only[ae.ap] at bJ;rcases bJ.ht with⟨_,av,_⟩|⟨a,cap,dr,rfl,cB,dk,I,dD,u,J,B⟩
  ·simp [e2.ap] at av
  ·refine .cr _ _ _ _ _ dr trivial dk I dD (.inl K) (fun j df=>dc.F _ _ (J j df)) (fun j c a1=>(B j c a1).bb ?_ _ dc.F);obtain⟨e,he,H⟩:=List.mem_flatMap.1 (List.mem_of_getElem? a1);exact h2 (K e he) H
 unfold gm at h;split at h
 ·exact own bJ h
 ·split at h
  ·rename_i cR;subst cR;exact own bJ h
  ·split at h
   ·rename_i r;simp only[bj] at h;subst h;obtain⟨lE,e,cR,bY,tw,uN⟩:=dA.jL bJ;rw[e,←dc.loc _ _ cR bY];exact .cZ _ _ _ _ _ _ _ r (fX bY (dc.n _ cR)) tw (uN.imp id fun⟨ar,av,bO,dD⟩=>⟨ar,av,bO,by rw[dc.loc _ _ cR bY];exact dc.lo _ _ _ _ cR bY dD⟩)
   ·cases h
 ·split at h
  ·rename_i r;simp only[bj] at h;subst h;obtain⟨e,cR,bY⟩:=dA.mi bJ;rw[e,←dc.loc _ _ cR bY];exact .ref _ _ _ r (fX bY (dc.n _ cR))
  ·cases h
 ·split at h
  ·rename_i A;simp only[bj] at h;subst h;exact any A bJ
  ·cases h
 ·split at h
  ·rename_i r;simp only[bj] at h;subst h;have bJ:dA κ (s.aa+1) (.cr _ _ (.dt (.g _ _))) x:=bJ;rcases bJ.ht with⟨_,av,_⟩|⟨a,cap,dr,rfl,cB,dk,I,dD,u,J,B⟩
   ·cases av
   ·refine .cr _ _ _ _ _ dr ⟨r,(cB.mono dc).2⟩ dk I dD u (fun j df=>dc.F _ _ (J j df)) (fun j c a1=>?_);obtain⟨e,he,H⟩:=List.mem_flatMap.1 (List.mem_of_getElem? a1);rcases u with u|⟨fG,hx,hR,u⟩
    ·exact(B j c a1).bb (h2 (u e he) H) _ dc.F
    ·cases hR;exact(((B j c a1).mono dc).lower (us (u e he) H)).up r
  ·split at h
   ·rename_i A;simp only[bj] at h;subst h;exact any A bJ
   ·cases h
 ·split at h
  ·rename_i r;simp only[bj] at h;subst h;have bJ:dA κ (s.aa+1) (.map (.g _ _)) x:=bJ;cases bJ;rename_i cR bY;rw[←dc.loc _ _ cR bY];exact .map _ _ r (fX bY (dc.n _ cR))
  ·cases h
 ·split at h
  ·rename_i aQ;simp only[bj] at h;subst h;have bJ:dA κ (s.aa+1) (.fn _ _) x:=bJ;exact bJ.bb (by simpa [ae.bb] using aQ) _ dc.F
  ·split at h
   ·rename_i aQ;simp only[bm,Nat.blt_eq] at aQ;simp only[bj] at h;subst h;have bJ:dA κ (s.aa+1) (.fn _ _) x:=bJ
    have:=((bJ.mono dc).lower (d:=s.aa-1) (by simpa [ae.low] using aQ.2));rw[show s.aa-1+1=s.aa by omega] at this;exact this
   ·cases h
 ·split at h
  ·rename_i aQ;simp only[bj] at h;subst h;rw[jf aQ] at bJ;exact bJ.bb aQ _ dc.F
  ·cases h
theorem q9{α β:Type}{f:α→Option β}:∀{l m:List α} {l' jg:List β},fC f l=some l'→fC f m=some jg→fC f (l++m)=some (l'++jg)
 |[],m,l',jg,h,e=>by simp only[fC,bj] at h;subst h;exact e
 |x::l,m,l',jg,h,e=>by
  simp only[fC] at h;cases a9:f x with
  |none=>rw[a9] at h;cases h
  |some y=>
   rw[a9,f0] at h;cases bK:fC f l with
   |none=>rw[bK] at h;cases h
   |some r=>rw[bK] at h;simp only[ep,bj] at h;subst h;simp only[List.cons_append,fC,a9,f0,q9 bK e,ep]
theorem u6{v fB:ae}(h:gm s v=some fB)(bJ:v.cells=[v]):fB.cells=[fB]:=by
 have ao:∀{i off len cap sz:Nat},hp s i off len cap sz=some fB→fB.cells=[fB]:=fun {i off len cap sz} h=>by
  unfold Ab.hp at h;split at h
  ·simp only at h;split at h
   ·simp only[bj] at h;subst h;rfl
   ·cases h
  ·cases h
 unfold gm at h;split at h
 ·exact ao h
 ·split at h
  ·exact ao h
  ·split at h
   ·simp only[bj] at h;subst h;rfl
   ·cases h
 ·split at h
  ·simp only[bj] at h;subst h;rfl
  ·cases h
 ·split at h
  ·simp only[bj] at h;subst h;rfl
  ·cases h
 ·split at h
  ·simp only[bj] at h;subst h;rfl
  ·split at h
   ·simp only[bj] at h;subst h;rfl
   ·cases h
 ·split at h
  ·simp only[bj] at h;subst h;rfl
  ·cases h
 ·split at h
  ·simp only[bj] at h;subst h;rfl
  ·split at h
   ·simp only[bj] at h;subst h;rfl
   ·cases h
 ·split at h
  ·simp only[bj] at h;subst h;exact bJ
  ·cases h
theorem oS{e hR:ae}(h:np s e=some hR):fC (gm s) e.cells=some hR.cells:=by
 unfold np at h;split at h
 ·rename_i cs;obtain⟨l,ar,av⟩:=Option.map_eq_some_iff.1 h;subst av;exact ar
 ·rename_i dk;have a1:e.cells=[e]:=by
   cases e<;> first|rfl |exact absurd rfl (dk _)
  rw[a1,u6 h a1];simp only[fC,h,f0,ep]
theorem ov:∀{es r:List ae},fC (np s) es=some r→fC (gm s) (es.flatMap ae.cells)=some (r.flatMap ae.cells)
 |[],r,h=>by simp only[fC,bj] at h;subst h;rfl
 |e::es,r,h=>by
  simp only[fC] at h;cases he:np s e with
  |none=>rw[he] at h;cases h
  |some hR=>
   rw[he,f0] at h;cases bK:fC (np s) es with
   |none=>rw[bK] at h;cases h
   |some l=>rw[bK] at h;simp only[ep,bj] at h;subst h;simp only[List.flatMap_cons];exact q9 (oS he) (ov bK)
theorem oT{κ':bh}(dc:gO κ κ' (s.aa+1))(r:∀i cs,s.own[i]? =some (.cells cs)→∃C:Array Value,(∀j (h:j<C.size),κ'.F ⟨κ.loc s.aa i,j,none⟩=some C[j])∧ej κ' (s.aa+1) cs (C.toList.take cs.length)){v fB:ae}{x:Value}(bJ:dA κ (s.aa+1) (v.ap s.aa) x)(h:ev s v=some fB):dA κ' s.aa fB x:=by
 have A:∀{sz:Nat} {es:List ae} {l:Loc},v=.cr sz es (.dt l)→(ae.a7 es=true→gm s v=some (.cr sz es .any))→ld s sz es=some fB→dA κ' s.aa fB x:=fun {sz es l} B eJ h=>by
  unfold ld at h;split at h
  ·rename_i aQ;simp only[bj] at h;subst h;exact kj dc r bJ (eJ aQ)
  ·obtain⟨H,ar,av⟩:=Option.bind_eq_some_iff.1 h;split at av
   ·rename_i aQ;simp only[bj] at av;subst av;subst B;simp only[ae.ap] at bJ;rcases bJ.ht with⟨_,bO,_⟩|⟨a,cap,dr,rfl,cB,dk,I,dD,Y,J,K⟩
    ·simp [e2.ap] at bO
    ·have hm:=ov ar;obtain⟨dM,L⟩:=kQ ar;obtain⟨M,N⟩:=kQ hm;rw[←dM];refine .cr sz H .any a cap dr trivial (by rw[dM];exact dk) (fun e3=>I (fun eJ=>e3 (kF (by rw[dM,eJ];rfl)))) (fun e he=>?_) (.inl fun e he=>ed.1 aQ e he) (fun j df=>dc.F _ _ (J j (by rw[←M];exact df))) (fun j c a1=>?_)
     ·obtain⟨j,df⟩:=List.getElem?_of_mem he;obtain⟨nV,O,u⟩:=L j e df
      have:=oS u;rw[(kQ this).1];exact dD nV (List.mem_of_getElem? O)
     ·obtain⟨U,V,u⟩:=N j c a1
      have:=K j U V;exact kj dc r (by rw[this.k4];exact this) u
   ·cases av
 unfold ev at h;split at h
 ·rename_i sz es i;exact A rfl (fun aQ=>by simp only[gm,aQ,↓reduceIte]) h
 ·rename_i sz es d i;split at h
  ·rename_i y;exact kj dc r bJ (by simp only[gm,y,↓reduceIte];exact h)
  ·rename_i y;exact A rfl (fun aQ=>by simp only[gm,y,aQ,↓reduceIte]) h
 ·exact kj dc r bJ h
theorem xa{κ':bh}(dc:gO κ κ' (s.aa+1))(e:∀i cs,s.own[i]? =some (.cells cs)→∃C:Array Value,(∀j (h:j<C.size),κ'.F ⟨κ.loc s.aa i,j,none⟩=some C[j])∧ej κ' (s.aa+1) cs (C.toList.take cs.length)){v fB:ae}{x:Value}(bJ:dA κ (s.aa+1) (v.ap s.aa) x)(h:freeze s v=some fB):dA κ' s.aa fB x:=by
 unfold freeze at h;split at h
 ·rename_i cs;cases hm:fC (ev s) cs with
  |none=>rw[hm] at h;cases h
  |some l=>
   rw[hm] at h;simp only[ep,bj] at h;subst h;obtain⟨xs,rfl,bK,a9⟩:=dA.mh (cs:=cs) bJ;obtain⟨ar,av⟩:=kQ hm;refine .agg l xs (by rw[bK,ar]) (fun j c y a1 eQ=>?_);obtain⟨r,u,A⟩:=av j c a1
   have:=a9 j r y u eQ;exact oT dc e (by rw[this.k4];exact this) A
 ·exact oT dc e bJ h
def qg(T:kD):sG→ResultVar→Bool
 |.t n,.tmp m=>Nat.beq n m
 |.cell a n,.cell b ty=>Nat.beq a b&&T.load ty n
 |_,_=>false
def lL(T:kD):List sG→List ResultVar→Bool
 |[],[]=>true
 |a::as,b::fb=>qg T a b&&lL T as fb
 |_,_=>false
theorem pS{T:kD}:∀{as:List sG} {fb:List ResultVar},lL T as fb=true→as.length=fb.length∧∀(j:Nat) (a:sG) (b:ResultVar),as[j]? =some a→fb[j]? =some b→qg T a b=true
 |[],[],_=>⟨rfl,fun j a b h=>by simp at h⟩
 |[],_::_,h=>by simp [lL] at h
 |_::_,[],h=>by simp [lL] at h
 |a::as,b::fb,h=>by
  simp only[lL,bm] at h;obtain⟨ar,av⟩:=pS h.2;refine⟨by simp [ar],fun j fN u e r=>?_⟩;cases j with
  |zero=>simp at e r;subst e;subst r;exact h.1
  |succ j=>exact av j fN u (by simpa using e) (by simpa using r)
theorem C4{T:kD}(eO:T.pn P){fL:Nat}{B:Nat}{G:Nat→ae}{ao:eH}{a:Act}(h:fz κ s w ao.get a fL B G){r:sG}{b:ResultVar}(dd:qg T r b=true){v:ae}(bJ:qz ao s r=some v):
  ∃x,(∀f:ResultVar→Sem Value,(∀t,f (.tmp t)=Pure.pure (a.tmps.getD t undef))→(∀t ty,f (.cell t ty)=(do loadVar ty (←asAddr (a.tmps.getD t undef)):Sem Value))→(f b).run P w=.ok x w)∧dA κ (s.aa+1) (v.ap s.aa) x:=by
 cases r with
 |t n=>
  cases b with
  |cell t ty=>simp [qg] at dd
  |tmp m=>
   simp only[qg] at dd
   have:=dj dd;subst this;simp only[qz,bj] at bJ;subst bJ;exact⟨_,fun f ar _=>by rw[ar];simp,h.ao n⟩
 |cell t n=>
  cases b with
  |tmp m=>simp [qg] at dd
  |cell m ty=>
   simp only[qg,bm] at dd
   have:=dj dd.1;subst this;have a9:=h.ao t;simp only[qz] at bJ;split at bJ
   ·rename_i OG off qh;rw[qh] at a9;simp only[ae.ap] at a9;rw[←ag.hJ] at bJ;cases fp:OG.ap s.aa with
    |l i=>cases OG<;> simp [Loc.ap] at fp
    |g d i=>
     rw[fp] at a9 bJ;obtain⟨e,cR,bY⟩:=a9.mi;have key:∀cs,s.get (.g d i)=some (.cells cs)→eR {F:=.not,au:=G,call:=fun _ _ _=>.fail,loop:=fun _ _ _ _ _=>.fail} s .ok n (cs.drop off)=.ok v s→∃x,(∀f:ResultVar→Sem Value,(∀t,f (.tmp t)=Pure.pure (a.tmps.getD t undef))→(∀t ty,f (.cell t ty)=(do loadVar ty (←asAddr (a.tmps.getD t undef)):Sem Value))→(f (.cell t ty)).run P w=.ok x w)∧dA κ (s.aa+1) (v.ap s.aa) x:=fun cs cB bK=>by obtain⟨v1,x,u,H,y⟩:=sj (P:=P) (sg (nU h.iL cB off) (show d+1≤s.aa+1 by omega)) (eO.load dd.2) rfl bK (by simp);simp only[ah.ok.injEq] at u;obtain⟨rfl,_⟩:=u;refine⟨x,fun f _ av=>?_,by rw[y.k4];exact y⟩;rw[av,e];simp [asAddr,H]
     split at bJ
     ·rename_i cs cB;refine key cs cB ?_;simp only[eR,aU.not];cases A:cs.drop off with
      |nil=>
       have:(cs.drop off)[0]? =some v:=by rw[List.getElem?_drop];simpa using bJ
       rw[A] at this;cases this
      |cons c l=>
       have:(cs.drop off)[0]? =some v:=by rw[List.getElem?_drop];simpa using bJ
       rw[A] at this;simp only[List.getElem?_cons_zero,bj] at this;subst this;rfl
     ·rename_i cs m cB;split at bJ
      ·rename_i hle;simp only[bj] at bJ;subst bJ;refine key cs cB ?_
       have:=dW hle;have I:Nat.ble m (cs.drop off).length=true:=by rw[Nat.ble_eq];simp;omega
       simp only[eR,aU.not,I,bX]
      ·cases bJ
     ·cases bJ
   ·cases bJ
end
def u7(T:kD)(e:c0)(fn:Func):Bool:=
 match fn.body with
 |some c=> !(fn.name== "runtime.NumGoroutine")&&Nat.beq e.fL fn.ntmps&&Nat.ble e.aas fn.ntmps&&lL T e.results fn.results.toList&&dn T e.fL false e.body c
 |none=>false
def C5(P:Program)(T:kD)(ra:Nat→Option c0):Prop:=∀f e,ra f=some e→∃fn,P.funcs[f]? =some fn∧u7 T e fn=true
structure VJ (P:Program) (ra:Nat→Option c0) (G:Nat→ae) (X:Nat→List ae→ag→ah):Prop where
 nx:∀f args s,i9 (X f args s)
 ok:∀f args s v s' κ w xs,ra f=none→X f args s=.ok v s'→cY κ s w→j9 κ G→ej κ (s.aa+1) args xs→
  (∃x w',(callFunc f xs.toArray).run P w=.ok (.value x) w'∧mj κ s w v s' x w')∨
  ((callFunc f xs.toArray).run P w=.ok (.enter f xs.toArray) w∧Calls P f xs.toArray w fun e w'=>∃x,e=.returned x∧mj κ s w v s' x w')
structure Fp (ot:List Nat) (w w':World):Prop where
 size:w'.heap.size=w.heap.size
 os:w'.os=w.os
 tape:w'.tape=w.tape
 output:w'.output=w.output
 same:∀b,b ∉ ot→w'.heap[b]? =w.heap[b]?
theorem kR{P:Program}{fn:Func}{tmps:Array Value}{R:Ending→World→Prop}:∀(ot:List Nat) (w:World),ot.Nodup→(∀D,D∈ot→w.heap[D]? =some (.deferred (some [])))→(∀w',Fp ot w w'→∃y,(results fn tmps).run P w'=.ok y w'∧R (.returned y) w')→
  LeavesInM Fence.wide 0 P fn tmps R (ot.map fun D=>{target:=.collected D,args:= #[]}) .returning w
 |[],w,_,_,h=>by obtain⟨y,ar,av⟩:=h w ⟨rfl,rfl,rfl,rfl,fun _ _=>rfl⟩;exact⟨y,ar,av⟩
 |D::ot,w,dk,cR,h=>by
  obtain⟨A,B⟩:=List.nodup_cons.1 dk;have F:=cR D List.mem_cons_self;refine⟨by simp,.inl ⟨D,_,rfl,run_takeDeferred F,kR ot _ B (fun H r=>?_) (fun w' hw=>h w' ?_)⟩⟩
  ·rw[World.putObj_heap_other (fun e=>by subst e;exact A r)];exact cR H (List.mem_cons_of_mem _ r)
  ·refine⟨hw.size.trans World.putObj_size,hw.os,hw.tape,hw.output,fun b u=>?_⟩;rw[hw.same b (fun hm=>u (List.mem_cons_of_mem _ hm)),World.putObj_heap_other (fun e=>by subst e;exact u List.mem_cons_self)]
theorem fz.shut{κ:bh}{s:ag}{w w':World}{g:Nat→ae}{a:Act}{fL B:Nat}{G:Nat→ae}(h:fz κ s w g a fL B G){ot:List Nat}(r:∀D,D∈ot→w.heap[D]? =some (.deferred (some [])))(hw:Fp ot w w'):fz κ s w' g {a with defers:=[]} fL 0 G:=
 ⟨h.iL.heap fun b o ar av=>by rw[hw.same b,ar];intro hm;rw[r b hm] at ar;cases ar;rcases av with⟨C,e,jt,av⟩|⟨fi,clock,av⟩<;> (cases av),h.ao,Marks.nil (Nat.zero_le _),h.size,h.au⟩
theorem ft.shut{κ κ':bh}{s s':ag}{w w' e:World}(h:ft κ s w κ' s' w'){ot:List Nat}(r:∀D,D∈ot→w.heap.size≤D)(hw:Fp ot w' e):ft κ s w κ' s' e:=
 ⟨h.k,h.aa,by rw[hw.size];exact h.size,hw.os.trans h.os,hw.tape.trans h.tape,hw.output.trans h.output,fun b u bK=>by rw[hw.same b (fun hm=>by have:=r b hm;omega)];exact h.kK b u bK,h.live,h.oF⟩
theorem oU{P:Program}{f:FuncId}{fn:Func}{c:Code}{args:Array Value}{w:World}{R:Ending→World→Prop}{κ:bh}{s:ag}{fL:Nat}{G:Nat→ae}{k:p4→eH→ag→ah}{r:ah}(bt:P.funcs[f]? =some fn)(A:fn.body=some c)
  (h:c.wpIn (wM none) 0 P (j4 κ s w fL w.heap.size G k r) {tmps:=args++Array.replicate (fn.ntmps-args.size) undef,defers:=[]} w)
  (B:∀(x:p4) (κ':bh) (s':ag) (eh:eH) (fN:Act) (w':World),ft κ s w κ' s' w'→fz κ' s' w' eh.get fN fL 0 G→k x eh s'=r→(x=.norm∨x=.ret)∧∃y,(results fn fN.tmps).run P w'=.ok y w'∧R (.returned y) w')
  (kA:∀i eh s',k (.exit i) eh s'≠r):Calls P f args w R:=by
 refine(callsIn_wide (n:=0)).1 (callsIn_of_wp_marks bt A trivial (wpIn_mono h ?_))
 rintro e fN w' ⟨x,κ',s',eh,a9,he,aQ,dc⟩
 have key:LeavesInM Fence.wide 0 P fn fN.tmps R fN.defers .returning w':=by
  obtain⟨eJ,ot,ar,av,bO⟩:=aQ.defers;rw[ar];refine kR ot w' av (fun D u=>(bO D u).2) fun F hw=>?_
  exact(B x κ' s' eh {fN with defers:=[]} F (he.shut (fun D u=>(bO D u).1) hw) (aQ.shut (fun D u=>(bO D u).2) hw) dc).2
 cases a9 with
 |norm=>exact key
 |ret=>exact key
 |exit i=>exact absurd dc (kA _ _ _)
section
variable{P:Program}{κ:bh}{s:ag}{w:World}
theorem u9{κ:bh}{D:Nat}{vs:List ae}{xs:List Value}(h:ej κ D vs xs):dA κ D (sH vs) (if h:xs.toArray.size=1 then xs.toArray[0] else .tuple xs.toArray):=by
 match vs,xs,h with
 |[v],[x],h=>exact h.2 0 v x rfl rfl
 |[],xs,h=>have:xs=[]:=kF h.1;subst this;exact .eb [] [] rfl (fun j c x a1=>by simp at a1)
 |v::v2::vs,xs,h=>
  have bK:xs.length=vs.length+2:=by rw[h.1];rfl
  rw[dif_neg (by simp;omega)];exact .eb _ xs h.1 h.2
 |[v],[],h=>exact absurd h.1 (by simp)
 |[v],_::_::_,h=>exact absurd h.1 (by simp)
theorem pT{T:kD}(eO:T.pn P){fL:Nat}{B:Nat}{G:Nat→ae}{ao:eH}{a:Act}(h:fz κ s w ao.get a fL B G){y:c0}{fn:Func}(dd:lL T y.results fn.results.toList=true){vs:List ae}(L:fC (qz ao s) y.results=some vs):
  ∃xs:List Value,(results fn a.tmps).run P w=.ok (if h:xs.toArray.size=1 then xs.toArray[0] else .tuple xs.toArray) w∧ej κ (s.aa+1) (vs.map (ae.ap s.aa)) xs:=by
 obtain⟨H,M⟩:=kQ L;obtain⟨I,N⟩:=pS dd;have J:∀(j:Nat) (b:ResultVar),fn.results.toList[j]? =some b→∃x,(∀f:ResultVar→Sem Value,(∀t,f (.tmp t)=Pure.pure (a.tmps.getD t undef))→(∀t ty,f (.cell t ty)=(do loadVar ty (←asAddr (a.tmps.getD t undef)):Sem Value))→(f b).run P w=.ok x w)∧∀v,vs[j]? =some v→dA κ (s.aa+1) (v.ap s.aa) x:=fun j b e=>by
  have df:=(eA.1 e).1;have O:j<y.results.length:=by rw[I];exact df
  have K:j<vs.length:=by rw[H];exact O
  obtain⟨U,dM,V⟩:=M j vs[j] (eI K);obtain⟨x,Y,Z⟩:=C4 eO h (N j U b dM e) V;refine⟨x,Y,fun v bJ=>?_⟩;rw[eI K] at bJ;simp only[bj] at bJ;subst bJ;exact Z
 have fU:∃xs:List Value,xs.length=fn.results.toList.length∧∀(j:Nat) (b:ResultVar) (x:Value),fn.results.toList[j]? =some b→xs[j]? =some x→(∀f:ResultVar→Sem Value,(∀t,f (.tmp t)=Pure.pure (a.tmps.getD t undef))→(∀t ty,f (.cell t ty)=(do loadVar ty (←asAddr (a.tmps.getD t undef)):Sem Value))→(f b).run P w=.ok x w)∧∀v,vs[j]? =some v→dA κ (s.aa+1) (v.ap s.aa) x:=by
  refine⟨(List.range fn.results.toList.length).map fun j=>if df:j<fn.results.toList.length then Classical.choose (J j _ (eI df)) else undef,by simp,fun j b x e a9=>?_⟩;have df:=(eA.1 e).1;have ab:fn.results.toList[j]=b:=(eA.1 e).2;simp only[iJ,List.getElem?_range df,ep,bj] at a9;rw[dif_pos df] at a9
  have:=Classical.choose_spec (J j _ (eI df));rw[a9,ab] at this;exact this
 obtain⟨xs,A,a9⟩:=fU;refine⟨xs,?_,by rw[A,eo,H,I],fun j c x a1 u=>?_⟩
 ·unfold results;rw[Array.mapM_eq_mapM_toList]
  have:=fun f ar av=>oR (P:=P) (w:=w) f fn.results.toList xs A (fun j r x aQ u=>(a9 j r x aQ u).1 f ar av)
  rw[map_eq_pure_bind,Sem.run_bind,Sem.run_bind,this]
  ·rfl
  ·intro t;rfl
  ·intro t ty;rfl
 ·have df:j<fn.results.toList.length:=by rw[←A];exact(eA.1 u).1
  rw[iJ] at a1;cases F:vs[j]? with
  |none=>rw[F] at a1;cases a1
  |some v=>rw[F] at a1;simp only[ep,bj] at a1;subst a1;exact(a9 j _ x (eI df) u).2 v F
theorem xb{T:kD}(eO:T.pn P){fL:Nat}{B:Nat}{G:Nat→ae}{ao:eH}{a:Act}(h:fz κ s w ao.get a fL B G){r:c0}{fn:Func}(dc:r.bN=false)(dd:lL T r.results fn.results.toList=true){v:ae}{s':ag}(bt:finish .not r ao s=.ok v s'):
  ∃x κ' e own,(results fn a.tmps).run P w=.ok x w∧s.up=own::s'.up∧s'= {own,up:=s'.up,ro:=s.ro}∧e.up=s.up∧e.ro=s.ro∧ft κ s w κ' e w∧cY κ' e w∧dA κ' s.aa v x:=by
 simp only[finish,dc,aU.not,bS,↓reduceIte] at bt;cases u:fC (qz ao s) r.results with
 |none=>rw[u] at bt;cases bt
 |some vs=>
  rw[u] at bt;simp only at bt;cases y:fC (freeze s) vs with
  |none=>rw[y] at bt;cases bt
  |some jy=>
   rw[y] at bt;simp only at bt;cases A:s.up with
   |nil=>rw[A] at bt;cases bt
   |cons own up=>
    rw[A] at bt;simp only[ah.ok.injEq] at bt;obtain⟨rfl,rfl⟩:=bt;obtain⟨I,J⟩:=kQ y;obtain⟨κ',e,K,H,L,M,Z,ab,ac,N⟩:=h.iL.hp s.own.length (aB _);have O:∀i cs,s.own[i]? =some (.cells cs)→∃C:Array Value,(∀j (h:j<C.size),κ'.F ⟨κ.loc s.aa i,j,none⟩=some C[j])∧ej κ' (s.aa+1) cs (C.toList.take cs.length):=fun i cs bY=>N i cs (eA.1 bY).1 bY
    obtain⟨xs,U,a9⟩:=pT eO h dd u;refine⟨_,κ',e,own,U,rfl,rfl,by rw[L,A],M,H,K,?_⟩;refine u9 ⟨by rw[a9.1,eo,I],fun j c x a1 V=>?_⟩;obtain⟨nJ,dM,Y⟩:=J j c a1;exact xa H.k O (a9.2 j _ x (by rw[iJ,dM];rfl) V) Y
theorem yx{T:kD}(eO:T.pn P){fL:Nat}{B:Nat}{G:Nat→ae}{ao:eH}{a:Act}(h:fz κ s w ao.get a fL B G){e:c0}{fn:Func}(dc:e.bN=true)(dd:lL T e.results fn.results.toList=true){v:ae}{s':ag}(bt:finish .not e ao s=.ok v s'):
  ∃x,(results fn a.tmps).run P w=.ok x w∧s'=s∧dA κ (s.aa+1) (v.ap s.aa) x:=by
 simp only[finish,dc,aU.not,↓reduceIte] at bt;cases r:fC (qz ao s) e.results with
 |none=>rw[r] at bt;cases bt
 |some vs=>
  rw[r] at bt;simp only[ah.ok.injEq] at bt;obtain⟨rfl,rfl⟩:=bt;obtain⟨xs,u,a9⟩:=pT eO h dd r;refine⟨_,u,rfl,?_⟩
  have:=u9 a9;rw[this.k4];exact this
variable(hm:P.follows .mixedOrders=true){T:kD}(eO:T.pn P){ra:Nat→Option c0}(xo:C5 P T ra){G:Nat→ae}{X:Nat→List ae→ag→ah}(kA:VJ P ra G X)
include hm eO xo kA
theorem va:∀n m,mM P {F:=.not,au:=G,call:=call .not ra G X n,loop:=fun step bN ao s k=>dP step bN m ao s k}
 |0,m=>⟨⟨m,fun _ _ _ _ _=>rfl⟩,fun f args s v s' h=>(by simp [call] at h),fun f args s v s' κ w xs h=>(by simp [call] at h)⟩
 |n+1,m=>by
  refine⟨⟨m,fun _ _ _ _ _=>rfl⟩,fun f args s=>i9.call kA.nx (n+1) f args s,fun f args s v s' κ w xs h a3 dS r=>?_⟩;simp only at h dS;simp only[call] at h;cases bt:ra f with
  |none=>rw[bt] at h;exact kA.ok f args s v s' κ w xs bt h a3 dS r
  |some e=>
   rw[bt] at h;simp only at h;obtain⟨fn,K,dd⟩:=xo f e bt;unfold u7 at dd;cases u:fn.body with
   |none=>rw[u] at dd;cases dd
   |some c=>
    rw[u] at dd;simp only[bm,Bool.not_eq_true'] at dd;obtain⟨⟨⟨⟨gN,ah⟩,ai⟩,Z⟩,ab⟩:=dd;have aw:e.fL=fn.ntmps:=dj ah;have ax:=dW ai;obtain⟨hlen,h⟩:=cV h (by simp);have hlen:=dj hlen;have aj:¬fn.name= "runtime.NumGoroutine" :=by simpa using gN
    refine .inr ⟨by simp [callFunc,K,aj,u],?_⟩;cases B:e.bN with
    |true=>
     rw[B] at h;simp only[↓reduceIte] at h;obtain⟨ao,hex,L⟩:=n3 (by simp) _ _ _ h;have ju:=va n n;have ak:xs.length=args.length:=r.1;have M:fz κ s w ao.get {tmps:=xs.toArray++Array.replicate (fn.ntmps-xs.toArray.size) undef,defers:=[]} e.fL w.heap.size G:=by
      refine⟨a3,fun t=>?_,Marks.nil (aB _),?_,dS⟩
      ·rw[L t];split
       ·rename_i dU;have N:t<args.length:=by omega
        have dM:args[t]? =some args[t]:=eI N;have A:xs[t]? =some xs[t]:=eI (by omega);have bJ:=r.2 t _ _ dM A;have O:(xs.toArray++Array.replicate (fn.ntmps-xs.toArray.size) undef).getD t undef=xs[t]:=by rw[Array.getD_eq_getD_getElem?,Array.getElem?_append_left (by simp;omega)];simp [A]
        rw[O,Nat.sub_zero,List.getD_eq_getElem?_getD,dM,Option.getD_some,bJ.k4];exact bJ
       ·exact .dead _
      ·simp;omega
     refine oU K u (sY hm eO rfl ju e.body c (rd:=false) (by simp) ab (by simp) M hex) (fun x ac H eh fN w' he aQ dc=>?_) (fun i eh s' dc=>by cases dc);have key:finish .not e eh H=.ok v s'→∃y,(results fn fN.tmps).run P w'=.ok y w'∧∃x,Ending.returned y=.returned x∧mj κ s w v s' x w':=fun dc=>by obtain⟨y,px,qG,CO⟩:=yx eO aQ B Z dc;subst qG;refine⟨y,px,y,rfl,ac,he,aQ.iL,?_⟩;rw[he.aa] at CO;exact CO
     cases x with
     |norm=>exact⟨.inl rfl,key dc⟩
     |ret=>exact⟨.inr rfl,key dc⟩
     |_=>cases dc
    |false=>
     rw[B] at h;simp only[bS,↓reduceIte] at h;obtain⟨ao,hex,L⟩:=n3 (by simp) _ _ _ h;obtain⟨ad,al,U,am,ae⟩:=a3.push;have ju:=va n n;have ak:xs.length=args.length:=r.1;have M:fz ad s.push w ao.get {tmps:=xs.toArray++Array.replicate (fn.ntmps-xs.toArray.size) undef,defers:=[]} e.fL w.heap.size G:=by
      refine⟨al,fun t=>?_,Marks.nil (aB _),?_,dS.mono U⟩
      ·rw[L t];split
       ·rename_i dU;have N:t<args.length:=by omega
        have dM:args[t]? =some args[t]:=eI N;have A:xs[t]? =some xs[t]:=eI (by omega);have bJ:=r.2 t _ _ dM A;have O:(xs.toArray++Array.replicate (fn.ntmps-xs.toArray.size) undef).getD t undef=xs[t]:=by rw[Array.getD_eq_getD_getElem?,Array.getElem?_append_left (by simp;omega)];simp [A]
        rw[O,Nat.sub_zero,List.getD_eq_getElem?_getD,dM,Option.getD_some,bJ.k4];exact(bJ.mono U).up (by rw[ag.iX];omega)
       ·exact .dead _
      ·simp;omega
     refine oU K u (sY hm eO rfl ju e.body c (rd:=false) (by simp) ab (by simp) M hex) (fun x ac H eh fN w' he aQ dc=>?_) (fun i eh s' dc=>by cases dc);have key:finish .not e eh H=.ok v s'→∃y,(results fn fN.tmps).run P w'=.ok y w'∧∃x,Ending.returned y=.returned x∧mj κ s w v s' x w':=fun dc=>by
      obtain⟨y,an,I,own,px,qG,CO,ab4,ab5,ap,ab8,aaz⟩:=xb eO aQ B Z dc;refine⟨y,px,y,rfl,an,?_,?_,?_⟩
      ·
       have bo:=he.trans ap;have J:s'= {own,up:=s'.up,ro:=I.ro}:=by rw[ab5];exact CO
       have af:I.up=own::s'.up:=by rw[ab4,qG]
       have cR:s'.aa=s.aa:=by
        have ar:=bo.aa;rw[ag.iX] at ar;have av:I.aa=s'.aa+1:=by rw[J];simp only[ag.aa,af,bT];omega
        omega
       have V:∀b,Live ad s.push b↔Live κ s b:=fun b=>by
        constructor
        ·rintro ⟨d,i,o,hb,g2⟩
         rw[ag.nt] at hb;exact⟨d,i,o,hb,by rw[←ae d i o hb];exact g2⟩
        ·rintro ⟨d,i,o,hb,g2⟩
         exact⟨d,i,o,by rw[ag.nt];exact hb,by rw[ae d i o hb];exact g2⟩
       refine⟨U.trans (bo.k.low (by rw[ag.iX];omega)),cR,bo.size,bo.os,bo.tape,bo.output,fun b Y bK=>bo.kK b Y (fun aq=>bK ((V b).1 aq)),fun b Y bK=>?_,fun a as=>?_⟩
       ·refine(V b).1 (bo.live b Y ?_);obtain⟨d,i,o,hb,g2⟩:=bK;rw[J] at hb;exact⟨d,i,o,ag.qI af hb,g2⟩
       ·rcases bo.oF a as with q|q|q
        ·rw[am] at q;exact .inl q
        ·exact .inr (.inl q)
        ·exact .inr (.inr ((V _).1 q))
      ·have J:s'= {own,up:=s'.up,ro:=I.ro}:=by rw[ab5];exact CO
       rw[J];exact ab8.pop (by rw[ab4,qG])
      ·have cR:H.aa=s.aa+1:=by rw[he.aa,ag.iX]
       rw[cR] at aaz;rw[aaz.k4];exact aaz
     cases x with
     |norm=>exact⟨.inl rfl,key dc⟩
     |ret=>exact⟨.inr rfl,key dc⟩
     |_=>cases dc
end
end Go.Ab
end
section
namespace Go.Ab
open Classical
def OR(a b:ah):Prop:=a=.fail∨a=b
theorem OR.refl(a:ah):OR a a:=.inr rfl
theorem OR.eq{a b r:ah}(h:OR a b)(e:a=r)(aQ:r≠.fail):b=r:=by
 rcases h with h|h
 ·exact absurd (e.symm.trans h) aQ
 ·exact h ▸ e
def hc(a:Nat→ah)(b:ah):Prop:=(∀n,OR (a n) b)∧(b≠.fail→∃N,∀n,N≤n→a n=b)
theorem hc.const(a:ah):hc (fun _=>a) a:=⟨fun _=>.refl _,fun _=>⟨0,fun _ _=>rfl⟩⟩
theorem hc.of_eq{a:Nat→ah}{b:ah}(h:∀n,a n=b):hc a b:=⟨fun n=>.inr (h n),fun _=>⟨0,fun n _=>h n⟩⟩
theorem hc.fail:hc (fun _=>.fail) .fail:=.const _
theorem hc.bind{a:Nat→ah}{b:ah}(h:hc a b){k kp:Nat→ae→ag→ah}{l A:ae→ag→ah}(dc:∀v s,hc (fun n=>k n v s) (l v s))(fp:∀v s,hc (fun n=>kp n v s) (A v s)):hc (fun n=>ah.bind (a n) (k n) (kp n)) (ah.bind b l A):=by
 refine⟨fun n=>?_,fun r=>?_⟩
 ·rcases h.1 n with e|e
  ·left;simp only[e];rfl
  ·simp only[e];cases b with
   |fail=>exact .refl _
   |ok v s=>exact(dc v s).1 n
   |panic v s=>exact(fp v s).1 n
 ·cases u:b with
  |fail=>rw[u] at r;exact absurd rfl r
  |ok v s=>rw[u] at r h;obtain⟨N,pR⟩:=h.2 (by simp);obtain⟨M,y⟩:=(dc v s).2 r;exact⟨max N M,fun n dk=>by show ah.bind (a n) _ _=_;rw[pR n (by omega)];exact y n (by omega)⟩
  |panic v s=>rw[u] at r h;obtain⟨N,pR⟩:=h.2 (by simp);obtain⟨M,y⟩:=(fp v s).2 r;exact⟨max N M,fun n dk=>by show ah.bind (a n) _ _=_;rw[pR n (by omega)];exact y n (by omega)⟩
def Fq(k:Nat→gl)(l:gl):Prop:=∀x ao s,hc (fun n=>k n x ao s) (l x ao s)
def lh(gP:Nat→mE)(e:mE):Prop:=∀ao s k l,Fq k l→hc (fun n=>gP n ao s (k n)) (e ao s l)
def l0(gP:mE):Prop:=∀ao s k l,(∀x ao s,OR (k x ao s) (l x ao s))→OR (gP ao s k) (gP ao s l)
theorem lh.mono{gP:mE}(h:lh (fun _=>gP) gP):l0 gP:=fun ao s k l dc=>by
 have:=h ao s (fun n=>if n=0 then k else l) l (fun x ao s=>⟨fun n=>by
  simp only;split
  ·exact dc x ao s
  ·exact .refl _,fun _=>⟨1,fun n dk=>by simp [show n≠0 by omega]⟩⟩)
 simpa using this.1 0
def eH.mask:gg→eH→eH
 |.e,_=>.e
 |.n h _ u,.e=>.n (eH.mask h .e) .dead (eH.mask u .e)
 |.n h b u,.n l v r=>.n (eH.mask h l) (bif b then v else .dead) (eH.mask u r)
theorem h6:∀(m:gg) (k:eH→ah) (ao:eH),eH.js m k ao=k (eH.mask m ao)
 |.e,k,ao=>by cases ao<;> rfl
 |.n h b u,k,.e=>by simp only[eH.js,eH.mask,h6 h,h6 u]
 |.n h b u,k,.n l v r=>by simp only[eH.js,eH.mask,h6 h,h6 u]
theorem ja(gP:mE)(bN:gg)(n:Nat)(ao:eH)(s:ag)(k:gl):dP gP bN (n+1) ao s k=gP ao s (fa bN (dP gP bN n) k):=rfl
theorem gE{gP:Nat→mE}{e:mE}(h:lh gP e){k:Nat→gl}{l:gl}(dc:Fq k l)(bN:gg):∀(m:Nat) (ao:eH) (s:ag),hc (fun n=>dP (gP n) bN m ao s (k n)) (dP e bN m ao s l)
 |0,_,_=>.fail
 |m+1,ao,s=>by
  simp only[ja];refine h _ _ _ _ (fun x ao s=>?_);cases x with
  |norm=>simp only[fa,h6];exact gE h dc bN m _ s
  |_=>exact dc _ _ _
theorem rb{gP:mE}(h:l0 gP)(bN:gg)(k:gl):∀(m:Nat) (ao:eH) (s:ag),OR (dP gP bN m ao s k) (dP gP bN (m+1) ao s k)
 |0,_,_=>.inl rfl
 |m+1,ao,s=>by
  rw[ja,ja];refine h _ _ _ _ (fun x ao s=>?_);cases x with
  |norm=>simp only[fa,h6];exact rb h bN k m _ s
  |_=>exact .refl _
theorem jk{gP:mE}(h:l0 gP){bN:gg}{k:gl}{m:Nat}{ao:eH}{s:ag}{r:ah}(aQ:r≠.fail)(e:dP gP bN m ao s k=r):∀jg,m≤jg→dP gP bN jg ao s k=r:=by
 intro jg hm
 induction hm with
 |refl=>exact e
 |step _ u=>exact(rb h bN k _ ao s).eq u aQ
noncomputable def bL(gP:mE)(bN:gg)(ao:eH)(s:ag)(k:gl):ah:=if h:∃n,dP gP bN n ao s k≠.fail then dP gP bN h.choose ao s k else .fail
theorem ml{gP:mE}(h:l0 gP){bN:gg}{k:gl}{m:Nat}{ao:eH}{s:ag}{r:ah}(aQ:r≠.fail)(e:dP gP bN m ao s k=r):bL gP bN ao s k=r:=by have a9:∃n,dP gP bN n ao s k≠.fail:=⟨m,by rw[e];exact aQ⟩;unfold bL;rw[dif_pos a9];have ar:=a9.choose_spec;have av:=jk h ar rfl (max a9.choose m) (by omega);have bO:=jk h aQ e (max a9.choose m) (by omega);exact av.symm.trans bO
theorem li{gP:mE}{bN:gg}{k:gl}{ao:eH}{s:ag}{r:ah}(aQ:r≠.fail)(e:bL gP bN ao s k=r):∃m,dP gP bN m ao s k=r:=by
 unfold bL at e;split at e
 ·exact⟨_,e⟩
 ·exact absurd e.symm aQ
def h7(a:Nat→mE→gg→mE)(b:mE→gg→mE):Prop:=∀(gP:Nat→mE) (e:mE) bN ao s k l,(∀n,l0 (gP n))→l0 e→lh gP e→Fq k l→hc (fun n=>a n (gP n) bN ao s (k n)) (b e bN ao s l)
theorem mP:h7 (fun _=>bL) bL:=fun gP r bN ao s k l ar av bO dD=>by
 refine⟨fun n=>?_,fun h=>?_⟩
 ·by_cases bt:bL (gP n) bN ao s (k n)=.fail
  ·exact .inl bt
  ·obtain⟨m,e⟩:=li bt rfl;exact .inr (ml av bt (((gE bO dD bN m ao s).1 n).eq e bt)).symm
 ·obtain⟨m,e⟩:=li h rfl;obtain⟨N,pR⟩:=(gE bO dD bN m ao s).2 (by rw[e];exact h);exact⟨N,fun n dk=>ml (ar n) h ((pR n dk).trans e)⟩
theorem vb:h7 (fun n gP bN ao s k=>dP gP bN n ao s k) bL:=fun gP r bN ao s k l ar av bO dD=>by
 refine⟨fun n=>?_,fun h=>?_⟩
 ·by_cases bt:dP (gP n) bN n ao s (k n)=.fail
  ·exact .inl bt
  ·exact .inr (ml av bt (((gE bO dD bN n ao s).1 n).eq rfl bt)).symm
 ·obtain⟨m,e⟩:=li h rfl;obtain⟨N,pR⟩:=(gE bO dD bN m ao s).2 (by rw[e];exact h);exact⟨max N m,fun n dk=>jk (ar n) h ((pR n (by omega)).trans e) n (by omega)⟩
theorem xc(m:Nat):h7 (fun i gP bN ao s k=>dP gP bN (if i=0 then m else m+1) ao s k) (fun gP bN ao s k=>dP gP bN (m+1) ao s k):=fun gP h bN ao s k l ar av bO dD=>by
 refine⟨fun n=>?_,fun e=>?_⟩
 ·simp only;split
  ·by_cases bt:dP (gP n) bN m ao s (k n)=.fail
   ·exact .inl bt
   ·exact .inr ((jk av bt (((gE bO dD bN m ao s).1 n).eq rfl bt) (m+1) (by omega)).symm)
  ·exact(gE bO dD bN (m+1) ao s).1 n
 ·obtain⟨N,pR⟩:=(gE bO dD bN (m+1) ao s).2 e;exact⟨max N 1,fun n dk=>by simp only[show n≠0 by omega,↓reduceIte];exact pR n (by omega)⟩
def gz(G:Nat→ae)(c:Nat→List ae→ag→ah)(l:mE→gg→mE):Env:={F:=.not,au:=G,call:=c,loop:=l}
section
variable{G:Nat→ae}{c:Nat→Nat→List ae→ag→ah}{cu:Nat→List ae→ag→ah}{l:Nat→mE→gg→mE}{lu:mE→gg→mE}(a1:∀f args s,hc (fun n=>c n f args s) (cu f args s))
include a1
theorem vc(s:ag)(f:Nat)(args:List ae):hc (fun n=>eu (gz G (c n) (l n)) s .ok .panic f args) (eu (gz G cu lu) s .ok .panic f args):=by
 have e:∀E:Env,eu E s .ok .panic f args=ah.bind (E.call f args s) (fun v s'=>bif Nat.beq s'.aa s.aa then .ok v s' else .fail) .panic:=fun E=>by unfold eu;cases E.call f args s<;> rfl
 simp only[e];exact(a1 f args s).bind (fun _ _=>.const _) (fun _ _=>.const _)
theorem sZ(s:ag)(f:Nat)(args:List ae):hc (fun n=>hs (gz G (c n) (l n)) s .ok f args) (hs (gz G cu lu) s .ok f args):=by
 have e:∀E:Env,hs E s .ok f args=bif ae.a7 args then ah.bind (E.call f args {own:=[],up:=[],ro:=[]}) (fun v _=>bif v.bb then .ok v s else .fail) (fun _ _=>.fail) else .fail:=fun E=>by
  unfold hs;cases ae.a7 args<;> try rfl
  cases E.call f args _<;> rfl
 simp only[e];cases ae.a7 args
 ·exact .fail
 ·exact(a1 f args _).bind (fun _ _=>.const _) (fun _ _=>.const _)
theorem s0(s:ag)(xs:List (Option Nat×ae))(f:Nat)(args:List ae):hc (fun n=>hW (gz G (c n) (l n)) s .ok .panic xs f args) (hW (gz G cu lu) s .ok .panic xs f args):=by
 have e:∀E:Env,hW E s .ok .panic xs f args=ah.bind (E.call f args s) (fun v s'=>bif Nat.beq s'.aa s.aa then(bif xs.all fun x=>nO (eY s x.1 x.2) (eY s' x.1 x.2) then .ok v s' else .fail) else .fail) .panic:=fun E=>by unfold hW eu;cases E.call f args s<;> rfl
 simp only[e];exact(a1 f args s).bind (fun _ _=>.const _) (fun _ _=>.const _)
theorem z0(ao:Nat→ae)(s:ag)(op:f9):hc (fun n=>aL (gz G (c n) (l n)) ao s .ok .panic op) (aL (gz G cu lu) ao s .ok .panic op):=by
 cases op with
 |call f args=>show hc (fun n=>eu (gz G (c n) (l n)) s .ok .panic f (args.map fun x=>(aq G ao x).ap s.aa)) (eu (gz G cu lu) s .ok .panic f (args.map fun x=>(aq G ao x).ap s.aa));exact vc a1 s f _
 |ln ig f args=>show hc (fun n=>hW (gz G (c n) (l n)) s .ok .panic (ig.map fun x=>(x.1,aq G ao x.2)) f (args.map fun x=>(aq G ao x).ap s.aa)) (hW (gz G cu lu) s .ok .panic (ig.map fun x=>(x.1,aq G ao x.2)) f (args.map fun x=>(aq G ao x).ap s.aa));exact s0 a1 s _ f _
 |jQ ig f args=>
  show hc (fun n=>ke (gz G (c n) (l n)) s .ok .panic (ig.map fun x=>(x.1,aq G ao x.2)) (aq G ao f) (args.map fun x=>(aq G ao x).ap s.aa)) (ke (gz G cu lu) s .ok .panic (ig.map fun x=>(x.1,aq G ao x.2)) (aq G ao f) (args.map fun x=>(aq G ao x).ap s.aa));cases aq G ao f with
  |fn g dC=>exact s0 a1 s _ g _
  |_=>exact .fail
 |hn f args=>show hc (fun n=>hs (gz G (c n) (l n)) s .ok f (args.map fun x=>(aq G ao x).ap s.aa)) (hs (gz G cu lu) s .ok f (args.map fun x=>(aq G ao x).ap s.aa));exact sZ a1 s f _
 |eu f args=>
  show hc (fun n=>k2 (gz G (c n) (l n)) s .ok .panic (aq G ao f) (args.map fun x=>(aq G ao x).ap s.aa)) (k2 (gz G cu lu) s .ok .panic (aq G ao f) (args.map fun x=>(aq G ao x).ap s.aa));cases aq G ao f with
  |fn g dC=>exact vc a1 s g _
  |_=>exact .fail
 |ly f args=>
  show hc (fun n=>jJ (gz G (c n) (l n)) s .ok (aq G ao f) (args.map fun x=>(aq G ao x).ap s.aa)) (jJ (gz G cu lu) s .ok (aq G ao f) (args.map fun x=>(aq G ao x).ap s.aa));cases aq G ao f with
  |fn g dC=>exact sZ a1 s g _
  |_=>exact .fail
 |_=>exact .of_eq (fun n=>rfl)
theorem yy(ao:Nat→ae)(s:ag)(op:f9){k kp:Nat→ae→ag→ah}{m mp:ae→ag→ah}(dc:∀v s,hc (fun n=>k n v s) (m v s))(fp:∀v s,hc (fun n=>kp n v s) (mp v s)):
  hc (fun n=>aL (gz G (c n) (l n)) ao s (k n) (kp n) op) (aL (gz G cu lu) ao s m mp op):=by
 have e:∀n,aL (gz G (c n) (l n)) ao s (k n) (kp n) op=ah.bind (aL (gz G (c n) (l n)) ao s .ok .panic op) (k n) (kp n):=fun n=>jh rfl _ _ _ _ _
 rw[jh (E:=gz G cu lu) rfl];simp only[e];exact(z0 a1 ao s op).bind dc fp
theorem l1:∀(d i:Nat) (v:ae) {k:Nat→eH→ah} {m:eH→ah} (_:∀ao,hc (fun n=>k n ao) (m ao)) (ao:eH),hc (fun n=>ao.iS d i v (k n)) (ao.iS d i v m)
 |0,_,_,_,_,_,_=>.fail
 |d+1,i,v,k,m,h,.e=>by
  simp only[eH.iS];cases Nat.beq i 0 with
  |true=>exact h _
  |false=>
   cases Nat.beq (i%2) 1 with
   |true=>exact l1 d _ v (fun l=>h _) _
   |false=>exact l1 d _ v (fun l=>h _) _
 |d+1,i,v,k,m,h,.n a x b=>by
  simp only[eH.iS];cases Nat.beq i 0 with
  |true=>exact h _
  |false=>
   cases Nat.beq (i%2) 1 with
   |true=>exact l1 d _ v (fun l=>h _) _
   |false=>exact l1 d _ v (fun l=>h _) _
theorem sq(dst:Option Nat)(v:ae){k:Nat→eH→ah}{m:eH→ah}(h:∀ao,hc (fun n=>k n ao) (m ao))(ao:eH):hc (fun n=>iU ao dst v (k n)) (iU ao dst v m):=by
 cases dst with
 |none=>exact h ao
 |some i=>exact l1 a1 12 i v h ao
theorem mQ:∀(os:List cQ) (ao:eH) (s:ag) {k:Nat→eH→ag→ah} {m:eH→ag→ah} {kp:Nat→ae→eH→ag→ah} {mp:ae→eH→ag→ah} (_:∀ao s,hc (fun n=>k n ao s) (m ao s)) (_:∀v ao s,hc (fun n=>kp n v ao s) (mp v ao s)),
  hc (fun n=>fs (gz G (c n) (l n)) os ao s (k n) (kp n)) (fs (gz G cu lu) os ao s m mp)
 |[],ao,s,k,m,kp,mp,h,fp=>h ao s
 |o::os,ao,s,k,m,kp,mp,h,fp=>by
  simp only[fs];have key:∀w:Bool,hc (fun n=>bif w then aL (gz G (c n) (l n)) ao.get s (fun v s=>iU ao o.dst v fun ao=>fs (gz G (c n) (l n)) os ao s (k n) (kp n)) (fun v s=>kp n v ao s) o.op else iU ao o.dst (.eb []) fun ao=>fs (gz G (c n) (l n)) os ao s (k n) (kp n))
    (bif w then aL (gz G cu lu) ao.get s (fun v s=>iU ao o.dst v fun ao=>fs (gz G cu lu) os ao s m mp) (fun v s=>mp v ao s) o.op else iU ao o.dst (.eb []) fun ao=>fs (gz G cu lu) os ao s m mp):=fun w=>by
   cases w with
   |true=>exact yy a1 ao.get s o.op (fun v s=>sq a1 o.dst v (fun ao=>mQ os ao s h fp) ao) (fun v s=>fp v ao s)
   |false=>exact sq a1 o.dst _ (fun ao=>mQ os ao s h fp) ao
  unfold l8;split
  ·exact key _
  ·split
   ·exact key _
   ·exact key _
   ·exact .fail
omit a1 in
theorem oV{hA:ag}{dC:List ae}{gP:Nat→ae→ag→(p4→ag→ah)→ah}{r:ae→ag→(p4→ag→ah)→ah}(h:∀(x:ae) (s:ag) (k:Nat→p4→ag→ah) (m:p4→ag→ah),(∀e s,hc (fun n=>k n e s) (m e s))→hc (fun n=>gP n x s (k n)) (r x s m)):
  ∀(xs:List ae) (s:ag) {k:Nat→p4→ag→ah} {m:p4→ag→ah},(∀e s,hc (fun n=>k n e s) (m e s))→hc (fun n=>g4 (gP n) hA dC xs s (k n)) (g4 r hA dC xs s m)
 |[],s,k,m,dc=>dc _ _
 |x::xs,s,k,m,dc=>h x s _ _ fun e s=>by
  cases e with
  |norm=>
   simp only;cases dC.all (fS hA s) with
   |true=>exact oV h xs s dc
   |false=>exact .fail
  |_=>exact dc _ _
variable(bK:h7 l lu)(hm:∀n,h7 (fun _=>l n) (l n))(jj:h7 (fun _=>lu) lu)
include bK hm jj
theorem vd:∀(code:ad),lh (fun n=>exec (gz G (c n) (l n)) code) (exec (gz G cu lu) code)∧(∀n,lh (fun _=>exec (gz G (c n) (l n)) code) (exec (gz G (c n) (l n)) code))∧lh (fun _=>exec (gz G cu lu) code) (exec (gz G cu lu) code):=by
 have y:∀(code:ad) (c:Nat→Nat→List ae→ag→ah) (cu:Nat→List ae→ag→ah) (l:Nat→mE→gg→mE) (lu:mE→gg→mE),(∀f args s,hc (fun n=>c n f args s) (cu f args s))→h7 l lu→(∀n,h7 (fun _=>l n) (l n))→h7 (fun _=>lu) lu→lh (fun n=>exec (gz G (c n) (l n)) code) (exec (gz G cu lu) code):=by
  intro code
  induction code with
  |skip=>intro c cu l lu a1 bK hm jj ao s k m dc;exact dc _ _ _
  |region m2 ops=>
   intro c cu l lu a1 bK hm jj ao s k m dc;cases m2 with
   |none=>exact mQ a1 ops ao s (fun ao s=>dc _ _ _) (fun v ao s=>.fail)
   |some m2=>
    simp only[exec];show hc (fun n=>bif m2.all (qw G ao.get) then _ else _) (bif m2.all (qw G ao.get) then _ else _);cases m2.all (qw G ao.get)
    ·exact .fail
    ·exact mQ a1 ops ao s (fun ao s=>dc _ _ _) (fun v ao s=>.fail)
  |seq a b h r=>
   intro c cu l lu a1 bK hm jj ao s k m dc;simp only[exec];refine h c cu l lu a1 bK hm jj ao s _ _ (fun x ao s=>?_);cases x with
   |norm=>exact r c cu l lu a1 bK hm jj ao s k m dc
   |_=>exact dc _ _ _
  |cond x a b h r=>
   intro c cu l lu a1 bK hm jj ao s k m dc;simp only[exec];show hc (fun n=>match aq G ao.get x with |.bool t=>bif t then exec (gz G (c n) (l n)) a ao s (k n) else exec (gz G (c n) (l n)) b ao s (k n)|_=>.fail) (match aq G ao.get x with |.bool t=>bif t then exec (gz G cu lu) a ao s m else exec (gz G cu lu) b ao s m|_=>.fail);cases aq G ao.get x with
   |bool t=>cases t with
    |true=>exact h c cu l lu a1 bK hm jj ao s k m dc
    |false=>exact r c cu l lu a1 bK hm jj ao s k m dc
   |_=>exact .fail
  |mask jg a e=>intro c cu l lu a1 bK hm jj ao s k m dc;simp only[exec,h6];exact e c cu l lu a1 bK hm jj _ s k m dc
  |block id a e=>
   intro c cu l lu a1 bK hm jj ao s k m dc;simp only[exec];refine e c cu l lu a1 bK hm jj ao s _ _ (fun x ao s=>?_);cases x with
   |exit j=>
    simp only[eg];cases Nat.beq j id
    ·exact dc _ _ _
    ·exact dc _ _ _
   |_=>exact dc _ _ _
  |loop bN a e=>
   intro c cu l lu a1 bK hm jj ao s k m dc;simp only[exec,h6];refine bK _ _ bN _ s k m (fun n=>?_) ?_ (e c cu l lu a1 bK hm jj) dc
   ·exact(e (fun _=>c n) (c n) (fun _=>l n) (l n) (fun _ _ _=>.const _) (hm n) (fun _=>hm n) (hm n)).mono
   ·exact(e (fun _=>cu) cu (fun _=>lu) lu (fun _ _ _=>.const _) jj (fun _=>jj) jj).mono
  |exit id=>intro c cu l lu a1 bK hm jj ao s k m dc;exact dc _ _ _
  |scope a e=>intro c cu l lu a1 bK hm jj ao s k m dc;simp only[exec];exact e c cu l lu a1 bK hm jj ao s k m dc
  |ret=>intro c cu l lu a1 bK hm jj ao s k m dc;exact dc _ _ _
  |range j f g p a b h r=>
   intro c cu l lu a1 bK hm jj ao s k m dc;simp only[exec];show hc (fun n=>nQ j f (aq G ao.get g) _ s _) (nQ j f (aq G ao.get g) _ s _);unfold nQ;cases aq G ao.get g with
   |fn wt dC=>
    simp only;cases Nat.beq f wt with
    |false=>exact .fail
    |true=>
     simp only[bX];cases qy s j dC with
     |none=>exact .fail
     |some xs=>
      refine oV (fun x s lz jg A=>?_) xs s (fun u s=>dc u ao s);refine sq a1 (some p) x (fun eh=>?_) ao;refine h c cu l lu a1 bK hm jj eh s _ _ (fun u ao s=>?_);cases u with
      |norm=>exact r c cu l lu a1 bK hm jj ao s _ _ (fun u ao s=>A u s)
      |_=>exact .fail
   |_=>exact .fail
 intro code;exact⟨y code c cu l lu a1 bK hm jj,fun n=>y code (fun _=>c n) (c n) (fun _=>l n) (l n) (fun _ _ _=>.const _) (hm n) (fun _=>hm n) (hm n),y code (fun _=>cu) cu (fun _=>lu) lu (fun _ _ _=>.const _) jj (fun _=>jj) jj⟩
end
theorem lr(m:Nat):h7 (fun _ gP bN ao s k=>dP gP bN m ao s k) (fun gP bN ao s k=>dP gP bN m ao s k):=fun _ _ bN ao s _ _ _ _ bO dD=>gE bO dD bN m ao s
theorem rc:∀(vs:List ae) (i:Nat) (ao:eH) {k:Nat→eH→ah} {m:eH→ah} (_:∀ao,hc (fun n=>k n ao) (m ao)),hc (fun n=>cw vs i ao (k n)) (cw vs i ao m)
 |[],_,ao,_,_,h=>h ao
 |v::vs,i,ao,k,m,h=>l1 (c:=fun _ _ _ _=>.fail) (cu:=fun _ _ _=>.fail) (fun _ _ _=>.fail) 12 i v (fun ao=>rc vs (i+1) ao h) ao
def body(T:Nat→Option c0)(G:Nat→ae)(X:Nat→List ae→ag→ah)(c:Nat→List ae→ag→ah)(l:mE→gg→mE)(f:Nat)(args:List ae)(s:ag):ah:=
 match T f with
 |none=>X f args s
 |some fn=>
  bif Nat.beq args.length fn.aas then
   cw args 0 .e fun ao=>exec (gz G c l) fn.body ao (if fn.bN then s else {own:=[],up:=s.own::s.up,ro:=s.ro}) (JH .not fn)
  else .fail
theorem xp{T:Nat→Option c0}{G:Nat→ae}{X:Nat→List ae→ag→ah}{c:Nat→Nat→List ae→ag→ah}{cu:Nat→List ae→ag→ah}{l:Nat→mE→gg→mE}{lu:mE→gg→mE}(a1:∀f args s,hc (fun n=>c n f args s) (cu f args s))(bK:h7 l lu)(hm:∀n,h7 (fun _=>l n) (l n))(jj:h7 (fun _=>lu) lu)(f:Nat)(args:List ae)(s:ag):
  hc (fun n=>body T G X (c n) (l n) f args s) (body T G X cu lu f args s):=by
 unfold body;cases T f with
 |none=>exact .const _
 |some fn=>
  simp only;cases Nat.beq args.length fn.aas with
  |false=>exact .fail
  |true=>simp only[bX];refine rc args 0 .e (fun ao=>(vd a1 bK hm jj fn.body).1 ao _ _ _ (fun x ao s=>?_));cases x<;> exact .const _
theorem n4(T:Nat→Option c0)(G:Nat→ae)(X:Nat→List ae→ag→ah)(n f:Nat)(args:List ae)(s:ag):call .not T G X (n+1) f args s=body T G X (call .not T G X n) (fun gP bN ao s k=>dP gP bN n ao s k) f args s:=rfl
section
variable(T:Nat→Option c0)(G:Nat→ae)(X:Nat→List ae→ag→ah)
theorem z1:∀(n f:Nat) (args:List ae) (s:ag),OR (call .not T G X n f args s) (call .not T G X (n+1) f args s)
 |0,f,args,s=>.inl rfl
 |n+1,f,args,s=>by
  have h:=xp (T:=T) (G:=G) (X:=X) (c:=fun i=>call .not T G X (if i=0 then n else n+1)) (cu:=call .not T G X (n+1)) (fun f args s=>⟨fun i=>by
    simp only;split
    ·exact z1 n f args s
    ·exact .refl _,fun _=>⟨1,fun i bY=>by simp [show i≠0 by omega]⟩⟩) (xc n) (fun i=>by by_cases bY:i=0<;> simp only[bY,↓reduceIte]<;> exact lr _) (lr (n+1)) f args s
  have:=h.1 0;simp only[↓reduceIte] at this;rw[n4,n4];exact this
theorem re{n f:Nat}{args:List ae}{s:ag}{r:ah}(aQ:r≠.fail)(e:call .not T G X n f args s=r):∀m,n≤m→call .not T G X m f args s=r:=by
 intro m hm
 induction hm with
 |refl=>exact e
 |step _ h=>exact(z1 T G X _ f args s).eq h aQ
noncomputable def aP(f:Nat)(args:List ae)(s:ag):ah:=if h:∃n,call .not T G X n f args s≠.fail then call .not T G X h.choose f args s else .fail
theorem mm{n f:Nat}{args:List ae}{s:ag}{r:ah}(aQ:r≠.fail)(e:call .not T G X n f args s=r):aP T G X f args s=r:=by have a9:∃n,call .not T G X n f args s≠.fail:=⟨n,by rw[e];exact aQ⟩;unfold aP;rw[dif_pos a9];have ar:=a9.choose_spec;exact(re T G X ar rfl (max a9.choose n) (by omega)).symm.trans (re T G X aQ e (max a9.choose n) (by omega))
theorem oW{f:Nat}{args:List ae}{s:ag}{r:ah}(aQ:r≠.fail)(e:aP T G X f args s=r):∃n,call .not T G X n f args s=r:=by
 unfold aP at e;split at e
 ·exact⟨_,e⟩
 ·exact absurd e.symm aQ
theorem z2(f:Nat)(args:List ae)(s:ag):hc (fun n=>call .not T G X n f args s) (aP T G X f args s):=by
 refine⟨fun n=>?_,fun h=>?_⟩
 ·by_cases bt:call .not T G X n f args s=.fail
  ·exact .inl bt
  ·exact .inr (mm T G X bt rfl).symm
 ·obtain⟨n,e⟩:=oW T G X h rfl;exact⟨n,fun m hm=>re T G X h e m hm⟩
theorem yz(f:Nat)(args:List ae)(s:ag):aP T G X f args s=body T G X (aP T G X) bL f args s:=by
 have h:=xp (T:=T) (G:=G) (X:=X) (z2 T G X) vb (fun n=>lr n) mP f args s;by_cases bt:body T G X (aP T G X) bL f args s=.fail
 ·rw[bt];by_cases a1:aP T G X f args s=.fail
  ·exact a1
  ·obtain⟨n,e⟩:=oW T G X a1 rfl
   have:=re T G X a1 e (n+1) (by omega);rw[n4] at this;exact absurd ((h.1 n).eq this a1) (by rw[bt];exact fun q=>a1 q.symm)
 ·obtain⟨N,pR⟩:=h.2 bt;have e:=(n4 T G X N f args s).trans (pR N (aB _));exact mm T G X bt e
end
theorem yA{G:Nat→ae}{cu:Nat→List ae→ag→ah}(code:ad)(bN:gg)(ao:eH)(s:ag)(k:gl):bL (exec (gz G cu bL) code) bN ao s k=exec (gz G cu bL) code ao s (fa bN (bL (exec (gz G cu bL) code) bN) k):=by
 have n2:=(vd (G:=G) (c:=fun _=>cu) (cu:=cu) (l:=fun _=>bL) (lu:=bL) (fun _ _ _=>.const _) mP (fun _=>mP) mP code).1;have r:=n2.mono;have dc:Fq (fun n=>fa bN (dP (exec (gz G cu bL) code) bN n) k) (fa bN (bL (exec (gz G cu bL) code) bN) k):=fun x ao s=>by
  cases x with
  |norm=>
   simp only[fa,h6];generalize eH.mask bN ao=ao;refine⟨fun n=>?_,fun u=>?_⟩
   ·by_cases bt:dP (exec (gz G cu bL) code) bN n ao s k=.fail
    ·exact .inl bt
    ·exact .inr (ml r bt rfl).symm
   ·obtain⟨n,e⟩:=li u rfl;exact⟨n,fun m hm=>jk r u e m hm⟩
  |_=>exact .const _
 have h:=n2 ao s _ _ dc;generalize y:exec (gz G cu bL) code ao s (fa bN (bL (exec (gz G cu bL) code) bN) k)=R at h ⊢;by_cases bt:R=.fail
 ·rw[bt];by_cases a1:bL (exec (gz G cu bL) code) bN ao s k=.fail
  ·exact a1
  ·obtain⟨n,e⟩:=li a1 rfl
   have:=(ja _ _ _ _ _ _).symm.trans (jk r a1 e (n+1) (by omega));exact absurd ((h.1 n).eq this a1) (by rw[bt];exact fun q=>a1 q.symm)
 ·obtain⟨N,pR⟩:=h.2 bt;exact ml r bt ((ja _ _ _ _ _ _).trans (pR N (aB _)))
end Go.Ab
end
section
namespace Go.Ab
def OS(x:ae)(s:ag)(k:ae→ag→ah):ah:=bif x.ff then k (.bP (x.ap s.aa).cells) s else .fail
def JS(x:ae)(s:ag)(k:ae→ag→ah):ah:=bif x.ff then k (.ref (.l s.own.length) 0) (s.new (.cells (x.ap s.aa).cells)) else .fail
def yB(d:Nat):List ae→List (Nat×Nat×ae)→Option (List ae)
 |cs,[]=>some cs
 |cs,(off,sz,x)::ea=>
  let v:=x.ap d
  bif v.ff&&Nat.beq v.cells.length sz&&Nat.ble (off+sz) cs.length then yB d (dN cs off v.cells) ea else none
def Fs(zero:List ae)(ea:List (Nat×Nat×ae))(s:ag)(k:ae→ag→ah):ah:=
 match (yB s.aa zero ea).map .agg with
 |some v=>k v s
 |none=>.fail
def pA(o:Option ae)(d:Nat):Option Nat:=
 match o with
 |none=>some d
 |some x=>eX x
def hSub(x:ae)(gk bY:Option ae)(s:ag)(k:ae→ag→ah):ah:=
 match x with
 |.str fb=>
  match pA gk 0,pA bY fb.length with
  |some l,some h=>bif Nat.ble l h&&Nat.ble h fb.length then k (.str ((fb.drop l).take (h-l))) s else .fail
  |_,_=>.fail
 |_=>.fail
def mR(z:Nat)(x:ae)(gk bY iE:Option ae)(s:ag)(k:ae→ag→ah):ah:=
 match x with
 |.cr sz es g=>
  match pA gk 0,pA bY es.length with
  |some l,some h=>
   match iE with
   |none=>
    bif Nat.beq z sz&&Nat.ble l h&&Nat.ble h es.length&&pj g l h es then
     k (.cr sz ((es.drop l).take (h-l)) (match g with
      |.nil=>.nil
      |.exact=>if h=es.length then .exact else .any
      |.dt a=>if l=0∧h=es.length then .dt a else .any
      |.any=>.any)) s
    else .fail
   |some x=>
    match eX x,g with
    |_,.nil=>.fail
    |some m,_=>bif Nat.beq z sz&&Nat.ble l h&&Nat.ble h m&&Nat.ble m es.length&&um g es then k (.cr sz ((es.drop l).take (h-l)) (if h=m then .exact else .any)) s else .fail
    |_,_=>.fail
  |_,_=>.fail
 |.cZ a off len cap sz=>
  match pA gk 0,pA bY len,pA iE cap with
  |some l,some h,some m=>bif Nat.beq z sz&&Nat.ble l h&&Nat.ble h m&&Nat.ble m cap&&Nat.ble len cap then k (.cZ a (if m=l then off else off+l*sz) (h-l) (m-l) sz) s else .fail
  |_,_,_=>.fail
 |_=>.fail
def rf(z n:Nat)(x:ae)(gk bY iE:Option ae)(s:ag)(k:ae→ag→ah):ah:=
 match x with
 |.ref a off=>
  match pA gk 0,pA bY n,pA iE n with
  |some l,some h,some m=>bif Nat.ble l h&&Nat.ble h m&&Nat.ble m n then k (.cZ a (if m=l then off else off+l*z) (h-l) (m-l) z) s else .fail
  |_,_,_=>.fail
 |_=>.fail
def ab9(v:ae):Option Loc:=
 match v with
 |.ref a _=>some a
 |.map a=>some a
 |_=>none
def yC(v:ae)(want:Bool)(op:(ae→ag→ah)→ah)(s:ag)(k:ae→ag→ah):ah:=
 match v with
 |.bool b=>bif b==want then op k else k (.eb []) s
 |.eb _=>k (.eb []) s
 |_=>.fail
def VK(v:ae)(a b:ah):ah:=
 match v with
 |.bool t=>bif t then a else b
 |_=>.fail
def kS(s:ag)(v:ae)(n:Option Nat):Option ae:=
 match v with
 |.ref a off=>
  match s.get a,n with
  |some (.cells cs),none=>cs[off]?
  |some (.cells cs),some n=>if Nat.ble (off+n) cs.length then some (.agg ((cs.drop off).take n)) else none
  |_,_=>none
 |_=>none
def rh(bN:Bool)(e:List (Option ae))(s:ag):ah:=
 match fC (fun x=>x) e with
 |some vs=>
  bif bN then .ok (sH (vs.map (ae.ap s.aa))) s
  else
   match fC (freeze s) vs with
   |some vs=>
    match s.up with
    |own::up=>.ok (sH vs) {own,up,ro:=s.ro}
    |[]=>.fail
   |none=>.fail
 |none=>.fail
def ag.aj(s:ag):ag:={own:=[],up:=s.own::s.up,ro:=s.ro}
abbrev be:=ae→ag→ah
structure nB where
 bp:Nat→ae
 dv:mE→gg→mE
 aS:gg→ad→mE
 a4:Bool→List (Option ae)→ag→ah
 iM:ae→ag→be→ah
 bF:ag→be→ae→ae→ae→ah
 fk:ae→ag→be→ah
 xq:ae→ag→be→ah
 hq:List ae→List (Nat×Nat×ae)→ag→be→ah
 a6:ag→be→Nat→List ae→ah
 z3:ag→be→ae→ah
 ay:ag→be→Option Nat→ae→ah
 cC:ag→be→Nat→ae→ae→ah
 s3:ag→be→ae→ah
 ai:ag→be→Option ae→ah
 b4:ag→be→IntKind→ae→ah
 xr:ag→be→ae→ah
 k6:ag→be→ae→ah
 pU:ag→be→ae→ah
 k7:ag→be→List ae→Nat→ae→ae→ah
 ve:ae→Option ae→Option ae→ag→be→ah
 lj:Nat→ae→Option ae→Option ae→Option ae→ag→be→ah
 aI:ag→be→Nat→ae→ah
 z4:ag→be→Nat→Option Nat→ae→ah
 cL:ag→be→Nat→ae→ae→ah
 l2:ag→be→Nat→Nat→ae→ae→ah
 hk:ag→be→ae→ae→ah
 xt:ag→be→Nat→Nat→Option Nat→ae→ae→ah
 bH:ag→be→Nat→ae→ah
 bA:ag→be→Nat→List ae→ah
 ri:ag→be→ae→List ae→ah
 gn:ag→be→Nat→List ae→ah
 xu:ag→be→ae→List ae→ah
 xv:ag→be→Option Nat→ae→Nat→ae→ae→ah
 z5:ag→be→List (Option Nat×ae)→Nat→List ae→ah
 xw:ag→be→List (Option Nat×ae)→ae→List ae→ah
 cU:ag→be→Bool→ae→ah
 f8:ag→be→Nat→Nat→Option Loc→ae→ae→ah
 vf:ag→be→Nat→Nat→Option Loc→ae→ae→ah
 vg:ag→be→Nat→Nat→Option Loc→ae→ae→ah
 oX:ag→be→Nat→List ae→ah
 oY:ag→be→Nat→List ae→ah
 vh:ag→be→Nat→Nat→ae→ae→ah
 l3:Nat→Nat→ae→Option ae→Option ae→Option ae→ag→be→ah
 rj:ag→be→Nat→ae→ae→ah
 yD:ag→be→(ae→ae→Option ae)→List ae→ah
 vi:ag→be→Option Loc→ah
 xx:ag→be→wq→ae→ae→ae→ah
 xy:ag→be→wq→ae→Bool→ae→ae→ah
 af:ae→Bool→(be→ah)→ag→be→ah
 aK:ae→ah→ah→ah
 z6:Nat→Nat→ae→(ae→ag→(p4→ag→ah)→ah)→ag→(p4→ag→ah)→ah
def lM(G:Nat→ae)(ao:Nat→ae):Option bB→Option ae
 |none=>none
 |some x=>some (aq G ao x)
def yE(G:Nat→ae)(ao:Nat→ae):Option bB→Option Loc
 |none=>some (.l 0)
 |some x=>ab9 (aq G ao x)
def partsOf(G:Nat→ae)(ao:Nat→ae):List (Nat×Nat×bB)→List (Nat×Nat×ae)
 |[]=>[]
 |(off,sz,x)::ea=>(off,sz,aq G ao x)::partsOf G ao ea
def qi(P:nB)(ao:Nat→ae)(s:ag)(k:be)(op:f9):ah:=
 match op with
 |.move x=>k (aq P.bp ao x) s
 |.m1 x=>k (nN (aq P.bp ao x)) s
 |.pick c a b=>P.bF s k (aq P.bp ao c) (aq P.bp ao a) (aq P.bp ao b)
 |.alloc zero=>P.iM (.ref (.l s.own.length) 0) (s.new (.cells zero)) k
 |.fq x=>P.fk (aq P.bp ao x) s k
 |.jP x=>P.xq (aq P.bp ao x) s k
 |.build zero parts=>P.hq zero (partsOf P.bp ao parts) s k
 |.buildSlice sz parts=>P.a6 s k sz (parts.map (aq P.bp ao))
 |.oC x=>P.z3 s k (aq P.bp ao x)
 |.load n a=>P.ay s k n (aq P.bp ao a)
 |.store n a v=>P.cC s k n (aq P.bp ao a) ((aq P.bp ao v).ap s.aa)
 |.kZ m y n a v=>P.xv s k m (aq P.bp ao y) n (aq P.bp ao a) ((aq P.bp ao v).ap s.aa)
 |.nilCheck x=>P.s3 s k (aq P.bp ao x)
 |.bin op x y=>P.ai s k (al op (aq P.bp ao x) (aq P.bp ao y))
 |.eq neg e x y=>P.ai s k ((pw e (aq P.bp ao x) (aq P.bp ao y)).map fun b=>.bool (bif neg then !b else b))
 |.un op x=>P.ai s k (kv op (aq P.bp ao x))
 |.k9 d x=>P.b4 s k d (aq P.bp ao x)
 |.nL x=>P.xr s k (aq P.bp ao x)
 |.gI x=>P.k6 s k (aq P.bp ao x)
 |.iT x=>P.pU s k (aq P.bp ao x)
 |.jB t x=>P.iM (.iface t ((aq P.bp ao x).ap s.aa)) s k
 |.kb f dC=>P.iM (.fn f (dC.map fun x=>(aq P.bp ao x).ap s.aa)) s k
 |.makeSlice zero bytes l c=>P.k7 s k zero bytes (aq P.bp ao l) (aq P.bp ao c)
 |.kc x gk bY=>P.ve (aq P.bp ao x) (lM P.bp ao gk) (lM P.bp ao bY) s k
 |.slice z x gk bY iE=>P.lj z (aq P.bp ao x) (lM P.bp ao gk) (lM P.bp ao bY) (lM P.bp ao iE) s k
 |.fieldAddr off a=>P.aI s k off (aq P.bp ao a)
 |.field off n x=>P.z4 s k off n (aq P.bp ao x)
 |.iK sz x i=>P.cL s k sz (aq P.bp ao x) (aq P.bp ao i)
 |.fr sz len x i=>P.l2 s k sz len (aq P.bp ao x) (aq P.bp ao i)
 |.mG x i=>P.hk s k (aq P.bp ao x) (aq P.bp ao i)
 |.nM sz len n x i=>P.xt s k sz len n (aq P.bp ao x) (aq P.bp ao i)
 |.extract x i=>P.bH s k i (aq P.bp ao x)
 |.call f args=>P.bA s k f (args.map fun x=>(aq P.bp ao x).ap s.aa)
 |.eu f args=>P.ri s k (aq P.bp ao f) (args.map fun x=>(aq P.bp ao x).ap s.aa)
 |.hn f args=>P.gn s k f (args.map fun x=>(aq P.bp ao x).ap s.aa)
 |.ly f args=>P.xu s k (aq P.bp ao f) (args.map fun x=>(aq P.bp ao x).ap s.aa)
 |.ln ig f args=>P.z5 s k (ig.map fun x=>(x.1,aq P.bp ao x.2)) f (args.map fun x=>(aq P.bp ao x).ap s.aa)
 |.jQ ig f args=>P.xw s k (ig.map fun x=>(x.1,aq P.bp ao x.2)) (aq P.bp ao f) (args.map fun x=>(aq P.bp ao x).ap s.aa)
 |.len b x=>P.cU s k b (aq P.bp ao x)
 |.append q bytes b x y=>P.f8 s k q bytes (yE P.bp ao b) (aq P.bp ao x) (aq P.bp ao y)
 |.jD q bytes b x y=>P.vg s k q bytes (yE P.bp ao b) (aq P.bp ao x) (aq P.bp ao y)
 |.gB sz parts=>P.oX s k sz (parts.map fun x=>(aq P.bp ao x).ap s.aa)
 |.gA sz parts=>P.oY s k sz (parts.map fun x=>(aq P.bp ao x).ap s.aa)
 |.jE q bytes x y=>P.vh s k q bytes (aq P.bp ao x) (aq P.bp ao y)
 |.jC q bytes b x y=>P.vf s k q bytes (yE P.bp ao b) (aq P.bp ao x) (aq P.bp ao y)
 |.iO z n x gk bY iE=>P.l3 z n (aq P.bp ao x) (lM P.bp ao gk) (lM P.bp ao bY) (lM P.bp ao iE) s k
 |.copy q d x=>P.rj s k q (aq P.bp ao d) (aq P.bp ao x)
 |.min xs=>P.yD s k min2 (xs.map fun x=>(aq P.bp ao x).ap s.aa)
 |.max xs=>P.yD s k max2 (xs.map fun x=>(aq P.bp ao x).ap s.aa)
 |.makeMap b=>P.vi s k (yE P.bp ao b)
 |.mH kx m x v=>P.xx s k kx (aq P.bp ao m) ((aq P.bp ao x).ap s.aa) ((aq P.bp ao v).ap s.aa)
 |.lookup kx zero ok m x=>P.xy s k kx zero ok (aq P.bp ao m) ((aq P.bp ao x).ap s.aa)
 |.uk neg x=>P.ai s k (x2 neg (aq P.bp ao x))
 |.no=>.fail
def mn(P:nB):List cQ→eH→ag→(eH→ag→ah)→ah
 |[],ao,s,fin=>fin ao s
 |o::os,ao,s,fin=>
  match o.guard with
  |none=>qi P ao.get s (fun v s=>iU ao o.dst v fun ao=>mn P os ao s fin) o.op
  |some (t,want)=>P.af (ao.get t) want (fun k=>qi P ao.get s k o.op) s (fun v s=>iU ao o.dst v fun ao=>mn P os ao s fin)
def aV(P:nB):ad→mE
 |.skip,ao,s,k=>k .norm ao s
 |.region none ops,ao,s,k=>mn P ops ao s (fun ao s=>k .norm ao s)
 |.region (some []) ops,ao,s,k=>mn P ops ao s (fun ao s=>k .norm ao s)
 |.region (some (_::_)) _,_,_,_=>.fail
 |.seq a b,ao,s,k=>aV P a ao s (gy (aV P b) k)
 |.mask m a,ao,s,k=>P.aS m a (eH.mask m ao) s k
 |.cond c a b,ao,s,k=>P.aK (aq P.bp ao.get c) (aV P a ao s k) (aV P b ao s k)
 |.block id c,ao,s,k=>aV P c ao s (eg id k)
 |.loop bN c,ao,s,k=>P.dv (aV P c) bN (eH.mask bN ao) s k
 |.exit id,ao,s,k=>k (.exit id) ao s
 |.scope c,ao,s,k=>aV P c ao s k
 |.ret,ao,s,k=>k .ret ao s
 |.range j f g p a b,ao,s,k=>P.z6 j f (aq P.bp ao.get g) (fun x s lz=>iU ao (some p) x fun eh=>aV P a eh s (CL (aV P b) fun e _ s=>lz e s)) s fun e s=>k e ao s
def Ft(ao:eH)(s:ag):sG→Option ae
 |.t n=>some (ao.get n)
 |.cell a n=>kS s (ao.get a) n
def bM(P:nB)(fn:c0):gl:=fun x ao s=>
 match x with
 |.norm=>P.a4 fn.bN (fn.results.map (Ft ao s)) s
 |.ret=>P.a4 fn.bN (fn.results.map (Ft ao s)) s
 |_=>.fail
def jv:ad→Bool
 |.region (some (_::_)) _=>false
 |.seq a b|.cond _ a b=>jv a&&jv b
 |.mask _ a|.block _ a|.loop _ a|.scope a=>jv a
 |.range _ _ _ _ a b=>jv a&&jv b
 |_=>true
noncomputable def mo(G:Nat→ae)(c:Nat→List ae→ag→ah):nB where
 bp:=G
 dv:=bL
 aS:=fun _ a ao s k=>exec (gz G c bL) a ao s k
 a4:=rh
 iM:=fun v s k=>k v s
 bF:=fun s k nK a b=>m4 (gz G c bL) s k nK a b
 fk:=OS
 xq:=JS
 hq:=Fs
 a6:=fun s k sz es=>hI (gz G c bL) s k sz es
 z3:=fun s k v=>mI (gz G c bL) s k v
 ay:=fun s k n v=>dX (gz G c bL) s k n v
 cC:=fun s k n a v=>fh (gz G c bL) s k n a v
 s3:=fun s k v=>iW (gz G c bL) s k v
 ai:=fun s k v=>qu (gz G c bL) s k v
 b4:=fun s k d v=>j0 (gz G c bL) s k d v
 xr:=fun s k v=>l6 s k v
 k6:=fun s k v=>gC (gz G c bL) s k v
 pU:=fun s k v=>hf (gz G c bL) s k v
 k7:=fun s k z b l nK=>m3 (gz G c bL) s k z b l nK
 ve:=hSub
 lj:=mR
 aI:=fun s k off v=>gJ (gz G c bL) s k off v
 z4:=fun s k off n v=>lB (gz G c bL) s k off n v
 cL:=fun s k sz x i=>kz (gz G c bL) s k sz x i
 l2:=fun s k sz len x i=>hH (gz G c bL) s k sz len x i
 hk:=fun s k x i=>h0 (gz G c bL) s k x i
 xt:=fun s k sz len n x i=>kd (gz G c bL) s k sz len n x i
 bH:=fun s k i v=>jZ (gz G c bL) s k i v
 bA:=fun s k f args=>eu (gz G c bL) s k (fun _ _=>.fail) f args
 ri:=fun s k f args=>k2 (gz G c bL) s k (fun _ _=>.fail) f args
 gn:=fun s k f args=>hs (gz G c bL) s k f args
 xu:=fun s k f args=>jJ (gz G c bL) s k f args
 xv:=fun s k m y n a v=>la (gz G c bL) s k m y n a v
 z5:=fun s k ig f args=>hW (gz G c bL) s k (fun _ _=>.fail) ig f args
 xw:=fun s k ig f args=>ke (gz G c bL) s k (fun _ _=>.fail) ig f args
 cU:=fun s k b v=>pC (gz G c bL) s k b v
 f8:=fun s k q bytes b x y=>f7 (gz G c bL) s k q bytes b x y
 vg:=fun s k q bytes b x y=>l7 (gz G c bL) s k q bytes b x y
 oX:=fun s k sz es=>jI (gz G c bL) s k sz es
 oY:=fun s k sz es=>jH (gz G c bL) s k sz es
 vh:=fun s k q bytes x y=>lU (gz G c bL) s k q bytes (x3 s x) y
 vf:=fun s k q bytes b x y=>kH (gz G c bL) s k q bytes b x y
 l3:=fun z n x gk bY iE s k=>rf z n x gk bY iE s k
 rj:=fun s k q d x=>lC (gz G c bL) s k q d x
 yD:=fun s k f xs=>k3 (gz G c bL) s k f xs
 vi:=fun s k b=>lV (gz G c bL) s k b
 xx:=fun s k kx m x v=>lb (gz G c bL) s k kx m x v
 xy:=fun s k kx z ok m x=>lc (gz G c bL) s k kx z ok m x
 af:=yC
 aK:=VK
 z6:=nQ
section
variable(G:Nat→ae)(c:Nat→List ae→ag→ah)
theorem xz(d:Nat)(ao:Nat→ae):∀(ea:List (Nat×Nat×bB)) (cs:List ae),yB d cs (partsOf G ao ea)=fg G d ao cs ea
 |[],cs=>rfl
 |(off,sz,x)::ea,cs=>by simp only[partsOf,yB,fg];rw[xz d ao ea]
theorem yF(ao:Nat→ae)(o:Option bB)(d:Nat):pA (lM G ao o) d=dB G ao o d:=by cases o<;> rfl
theorem s4(ao:Nat→ae)(s:ag)(k:be)(op:f9):qi (mo G c) ao s k op=aL (gz G c bL) ao s k (fun _ _=>.fail) op:=by
 cases op<;> try rfl
 case build zero parts=>
  simp only[qi,aL,mo,Fs,xz,qu];show _=match (fg G s.aa ao zero parts).map .agg with |some v=>k v s|none=>.fail
  cases fg G s.aa ao zero parts<;> rfl
 case kc x gk bY=>simp only[qi,aL,mo,hSub,jG,yF];rfl
 case slice z x gk bY iE=>
  simp only[qi,aL,mo,mR,jR,yF];show _=jR (gz G c bL) ao s k z (aq G ao x) gk bY iE;unfold jR;cases aq G ao x<;> try rfl
  cases iE<;> rfl
 case iO z n x gk bY iE=>simp only[qi,aL,mo,rf,ix,yF];show _=ix (gz G c bL) ao s k z n (aq G ao x) gk bY iE;unfold ix;cases aq G ao x<;> rfl
theorem nb:∀(os:List cQ) (ao:eH) (s:ag) (fin:eH→ag→ah),mn (mo G c) os ao s fin=fs (gz G c bL) os ao s fin (fun _ _ _=>.fail)
 |[],ao,s,fin=>rfl
 |o::os,ao,s,fin=>by
  simp only[mn,fs];have key:(fun(v:ae) (s:ag)=>iU ao o.dst v fun ao=>mn (mo G c) os ao s fin)=fun v s=>iU ao o.dst v fun ao=>fs (gz G c bL) os ao s fin (fun _ _ _=>.fail):=by funext v s;congr 1;funext ao;exact nb os ao s fin
  cases cB:o.guard with
  |none=>simp only[l8,bX];rw[key,s4]
  |some p=>obtain⟨t,want⟩:=p;simp only[l8,key,s4];rw[show(mo G c).af=yC from rfl];unfold yC;cases ao.get t<;> rfl
theorem oZ:∀(code:ad),jv code=true→aV (mo G c) code=exec (gz G c bL) code:=by
 intro code
 induction code with
 |skip=>intro _;rfl
 |region m2 ops=>
  intro h;cases m2 with
  |none=>funext ao s k;exact nb G c ops ao s _
  |some m2=>
   cases m2 with
   |nil=>funext ao s k;simp only[aV,exec,List.all_nil,bX];exact nb G c ops ao s _
   |cons _ _=>simp [jv] at h
 |seq a b r u=>intro h;simp only[jv,bm] at h;funext ao s k;simp only[aV,exec,r h.1,u h.2]
 |mask m a e=>intro h;funext ao s k;simp only[aV,exec,h6];rfl
 |cond x a b r u=>intro h;simp only[jv,bm] at h;funext ao s k;simp only[aV,exec,r h.1,u h.2];rfl
 |block id a e=>intro h;funext ao s k;simp only[aV,exec,e h]
 |loop bN a e=>intro h;funext ao s k;simp only[aV,exec,e h,h6];rfl
 |exit id=>intro _;rfl
 |scope a e=>intro h;funext ao s k;simp only[aV,exec,e h]
 |ret=>intro _;rfl
 |range j f g p a b r u=>intro h;simp only[jv,bm] at h;funext ao s k;simp only[aV,exec,r h.1,u h.2];rfl
theorem xA{α β e:Type}(f:β→Option e)(g:α→β):∀l:List α,fC f (l.map g)=fC (fun x=>f (g x)) l
 |[]=>rfl
 |x::l=>by simp only[gd,fC,xA f g l]
theorem C6(fn:c0):bM (mo G c) fn=JH .not fn:=by
 have key:∀ao s,rh fn.bN (fn.results.map (Ft ao s)) s=finish .not fn ao s:=fun ao s=>by
  unfold rh finish;rw[xA,show(fun x=>Ft ao s x)=qz ao s from by funext x;cases x<;> rfl];cases fC (qz ao s) fn.results with
  |none=>rfl
  |some vs=>cases fn.bN<;> rfl
 funext x ao s;cases x with
 |norm=>exact key ao s
 |ret=>exact key ao s
 |_=>rfl
end
structure nB.pn (Z:nB):Prop where
 m:∀m a ao s k,jv a=true→Z.aS m a ao s k=aV Z a ao s k
 l:∀c bN ao s k,jv c=true→Z.dv (aV Z c) bN ao s k=aV Z c ao s (fa bN (Z.dv (aV Z c) bN) k)
section
variable(T:Nat→Option c0)(G:Nat→ae)(X:Nat→List ae→ag→ah)
noncomputable def a0:nB:=mo G (aP T G X)
theorem VL:(a0 T G X).pn:=by
 refine⟨fun m a ao s k h=>?_,fun c bN ao s k h=>?_⟩
 ·unfold a0;rw[oZ G _ a h];rfl
 ·unfold a0;rw[oZ G _ c h];exact yA c bN ao s k
theorem Iu{f:Nat}{fn:c0}{args:List ae}{s:ag}(eO:T f=some fn)(dk:Nat.beq args.length fn.aas=true)(a1:jv fn.body=true):
  aP T G X f args s=cw args 0 .e fun ao=>aV (a0 T G X) fn.body ao (bif fn.bN then s else s.aj) (bM (a0 T G X) fn):=by
 rw[yz];unfold body;rw[eO];simp only[dk,bX,a0,oZ G _ fn.body a1,C6];congr;funext ao;cases fn.bN<;> rfl
instance:Inhabited (a0 T G X).pn:=⟨VL T G X⟩
theorem cJ{f:Nat}{fn:c0}{args:List ae}{s:ag}(eO:T f=some fn:=by kernel_rfl)(dk:Nat.beq args.length fn.aas=true:=by kernel_rfl)(a1:jv fn.body=true:=by kernel_rfl):aP T G X f args s=cw args 0 .e fun ao=>aV (a0 T G X) fn.body ao (bif fn.bN then s else s.aj) (bM (a0 T G X) fn):=Iu T G X eO dk a1
end
theorem nB.pn.fZ{Z:nB}(h:Z.pn){m:gg}{a:ad}{ao:eH}{s:ag}{k:gl}{R:ah}(e:jv a=true:=by kernel_rfl)(r:aV Z a ao s k=R:=by kernel_rfl):Z.aS m a ao s k=R:=(h.m m a ao s k e).trans r
theorem nB.pn.vj{Z:nB}(h:Z.pn){c:ad}{bN:gg}{ao:eH}{s:ag}{k:gl}{R:ah}(e:jv c=true:=by kernel_rfl)(r:aV Z c ao s (fa bN (Z.dv (aV Z c) bN) k)=R:=by kernel_rfl):Z.dv (aV Z c) bN ao s k=R:=(h.l c bN ao s k e).trans r
end Go.Ab
end
section
namespace Go.Ab
variable{T:Nat→Option c0}{G:Nat→ae}{X:Nat→List ae→ag→ah}{s:ag}{k:be}
theorem hr(n:Option Nat)(v:ae):(a0 T G X).ay s k n v=dX (gz G (aP T G X) bL) s k n v:=rfl
theorem kT(n:Nat)(a v:ae):(a0 T G X).cC s k n a v=fh (gz G (aP T G X) bL) s k n a v:=rfl
theorem cI(v:ae):(a0 T G X).iM v s k=k v s:=rfl
theorem cM(v:ae):(a0 T G X).ai s k (some v)=k v s:=rfl
theorem bU(t:Bool)(a b:ae):(a0 T G X).bF s k (.bool t) a b=k (if t=true then a else b) s:=by cases t<;> rfl
theorem bk(t:Bool)(a b:ah):(a0 T G X).aK (.bool t) a b=if t=true then a else b:=by cases t<;> rfl
theorem vk(t w:Bool)(op:be→ah):(a0 T G X).af (.bool t) w op s k=if t=w then op k else k (.eb []) s:=by cases t<;> cases w<;> rfl
theorem bG(l:List ae)(w:Bool)(op:be→ah):(a0 T G X).af (.eb l) w op s k=k (.eb []) s:=rfl
def nC(v:ae)(op:be→ah)(s:ag)(k:be):ah:=
 match v with
 |.bool b=>bif b then op k else k (.bool false) s
 |_=>.fail
def sr(v:ae)(op:be→ah)(s:ag)(k:be):ah:=
 match v with
 |.bool b=>bif b then k (.bool true) s else op k
 |_=>.fail
theorem b0(t:Bool)(op:be→ah):nC (.bool t) op s k=if t=true then op k else k (.bool false) s:=by cases t<;> rfl
theorem c1(t:Bool)(op:be→ah):sr (.bool t) op s k=if t=true then k (.bool true) s else op k:=by cases t<;> rfl
theorem b7(v:ae)(gN:be→ah):(a0 T G X).af v true (gN) s (fun bQ s1=>(a0 T G X).bF s1 k v bQ (.bool false))=nC v (fun k=>gN k) s k:=by
 cases v<;> try rfl
 rename_i b;cases b<;> rfl
theorem c2(v:ae)(gN:be→ah):(a0 T G X).af v false (gN) s (fun bQ s1=>(a0 T G X).bF s1 k v (.bool true) bQ)=sr v (fun k=>gN k) s k:=by
 cases v<;> try rfl
 rename_i b;cases b<;> rfl
theorem b8(v:ae)(gN:be→ah)(e:ae→ag→be→ah):(a0 T G X).af v true (gN) s (fun bQ s1=>(a0 T G X).af v true (e bQ s1) s1 (fun h s2=>(a0 T G X).bF s2 k v h (.bool false)))=nC v (fun k=>gN (fun bQ s1=>e bQ s1 k)) s k:=by
 cases v<;> try rfl
 rename_i b;cases b<;> rfl
theorem c3(v:ae)(gN:be→ah)(e:ae→ag→be→ah):(a0 T G X).af v false (gN) s (fun bQ s1=>(a0 T G X).af v false (e bQ s1) s1 (fun h s2=>(a0 T G X).bF s2 k v (.bool true) h))=sr v (fun k=>gN (fun bQ s1=>e bQ s1 k)) s k:=by
 cases v<;> try rfl
 rename_i b;cases b<;> rfl
theorem b1(v:ae)(gN:be→ah)(h:ae→ag→be→ah)(r:ae→ag→ae→ag→be→ah):(a0 T G X).af v true (gN) s (fun bQ s1=>(a0 T G X).af v true (h bQ s1) s1 (fun e s2=>(a0 T G X).af v true (r bQ s1 e s2) s2 (fun u y=>(a0 T G X).bF y k v u (.bool false))))=nC v (fun k=>gN (fun bQ s1=>h bQ s1 (fun e s2=>r bQ s1 e s2 k))) s k:=by
 cases v<;> try rfl
 rename_i b;cases b<;> rfl
theorem c4(v:ae)(gN:be→ah)(h:ae→ag→be→ah)(r:ae→ag→ae→ag→be→ah):(a0 T G X).af v false (gN) s (fun bQ s1=>(a0 T G X).af v false (h bQ s1) s1 (fun e s2=>(a0 T G X).af v false (r bQ s1 e s2) s2 (fun u y=>(a0 T G X).bF y k v (.bool true) u)))=sr v (fun k=>gN (fun bQ s1=>h bQ s1 (fun e s2=>r bQ s1 e s2 k))) s k:=by
 cases v<;> try rfl
 rename_i b;cases b<;> rfl
theorem b9(v:ae)(gN:be→ah)(u:ae→ag→be→ah)(y:ae→ag→ae→ag→be→ah)(A:ae→ag→ae→ag→ae→ag→be→ah):(a0 T G X).af v true (gN) s (fun bQ s1=>(a0 T G X).af v true (u bQ s1) s1 (fun e s2=>(a0 T G X).af v true (y bQ s1 e s2) s2 (fun r h=>(a0 T G X).af v true (A bQ s1 e s2 r h) h (fun B F=>(a0 T G X).bF F k v B (.bool false)))))=nC v (fun k=>gN (fun bQ s1=>u bQ s1 (fun e s2=>y bQ s1 e s2 (fun r h=>A bQ s1 e s2 r h k)))) s k:=by
 cases v<;> try rfl
 rename_i b;cases b<;> rfl
theorem c5(v:ae)(gN:be→ah)(u:ae→ag→be→ah)(y:ae→ag→ae→ag→be→ah)(A:ae→ag→ae→ag→ae→ag→be→ah):(a0 T G X).af v false (gN) s (fun bQ s1=>(a0 T G X).af v false (u bQ s1) s1 (fun e s2=>(a0 T G X).af v false (y bQ s1 e s2) s2 (fun r h=>(a0 T G X).af v false (A bQ s1 e s2 r h) h (fun B F=>(a0 T G X).bF F k v (.bool true) B))))=sr v (fun k=>gN (fun bQ s1=>u bQ s1 (fun e s2=>y bQ s1 e s2 (fun r h=>A bQ s1 e s2 r h k)))) s k:=by
 cases v<;> try rfl
 rename_i b;cases b<;> rfl
theorem ca(v:ae)(gN:be→ah)(A:ae→ag→be→ah)(B:ae→ag→ae→ag→be→ah)(F:ae→ag→ae→ag→ae→ag→be→ah)(H:ae→ag→ae→ag→ae→ag→ae→ag→be→ah):(a0 T G X).af v true (gN) s (fun bQ s1=>(a0 T G X).af v true (A bQ s1) s1 (fun e s2=>(a0 T G X).af v true (B bQ s1 e s2) s2 (fun r h=>(a0 T G X).af v true (F bQ s1 e s2 r h) h (fun y u=>(a0 T G X).af v true (H bQ s1 e s2 r h y u) u (fun I J=>(a0 T G X).bF J k v I (.bool false))))))=nC v (fun k=>gN (fun bQ s1=>A bQ s1 (fun e s2=>B bQ s1 e s2 (fun r h=>F bQ s1 e s2 r h (fun y u=>H bQ s1 e s2 r h y u k))))) s k:=by
 cases v<;> try rfl
 rename_i b;cases b<;> rfl
theorem c6(v:ae)(gN:be→ah)(A:ae→ag→be→ah)(B:ae→ag→ae→ag→be→ah)(F:ae→ag→ae→ag→ae→ag→be→ah)(H:ae→ag→ae→ag→ae→ag→ae→ag→be→ah):(a0 T G X).af v false (gN) s (fun bQ s1=>(a0 T G X).af v false (A bQ s1) s1 (fun e s2=>(a0 T G X).af v false (B bQ s1 e s2) s2 (fun r h=>(a0 T G X).af v false (F bQ s1 e s2 r h) h (fun y u=>(a0 T G X).af v false (H bQ s1 e s2 r h y u) u (fun I J=>(a0 T G X).bF J k v (.bool true) I)))))=sr v (fun k=>gN (fun bQ s1=>A bQ s1 (fun e s2=>B bQ s1 e s2 (fun r h=>F bQ s1 e s2 r h (fun y u=>H bQ s1 e s2 r h y u k))))) s k:=by
 cases v<;> try rfl
 rename_i b;cases b<;> rfl
theorem cb(v:ae)(gN:be→ah)(F:ae→ag→be→ah)(H:ae→ag→ae→ag→be→ah)(I:ae→ag→ae→ag→ae→ag→be→ah)(J:ae→ag→ae→ag→ae→ag→ae→ag→be→ah)(K:ae→ag→ae→ag→ae→ag→ae→ag→ae→ag→be→ah):(a0 T G X).af v true (gN) s (fun bQ s1=>(a0 T G X).af v true (F bQ s1) s1 (fun e s2=>(a0 T G X).af v true (H bQ s1 e s2) s2 (fun r h=>(a0 T G X).af v true (I bQ s1 e s2 r h) h (fun y u=>(a0 T G X).af v true (J bQ s1 e s2 r h y u) u (fun B A=>(a0 T G X).af v true (K bQ s1 e s2 r h y u B A) A (fun L M=>(a0 T G X).bF M k v L (.bool false)))))))=nC v (fun k=>gN (fun bQ s1=>F bQ s1 (fun e s2=>H bQ s1 e s2 (fun r h=>I bQ s1 e s2 r h (fun y u=>J bQ s1 e s2 r h y u (fun B A=>K bQ s1 e s2 r h y u B A k)))))) s k:=by
 cases v<;> try rfl
 rename_i b;cases b<;> rfl
theorem c7(v:ae)(gN:be→ah)(F:ae→ag→be→ah)(H:ae→ag→ae→ag→be→ah)(I:ae→ag→ae→ag→ae→ag→be→ah)(J:ae→ag→ae→ag→ae→ag→ae→ag→be→ah)(K:ae→ag→ae→ag→ae→ag→ae→ag→ae→ag→be→ah):(a0 T G X).af v false (gN) s (fun bQ s1=>(a0 T G X).af v false (F bQ s1) s1 (fun e s2=>(a0 T G X).af v false (H bQ s1 e s2) s2 (fun r h=>(a0 T G X).af v false (I bQ s1 e s2 r h) h (fun y u=>(a0 T G X).af v false (J bQ s1 e s2 r h y u) u (fun B A=>(a0 T G X).af v false (K bQ s1 e s2 r h y u B A) A (fun L M=>(a0 T G X).bF M k v (.bool true) L))))))=sr v (fun k=>gN (fun bQ s1=>F bQ s1 (fun e s2=>H bQ s1 e s2 (fun r h=>I bQ s1 e s2 r h (fun y u=>J bQ s1 e s2 r h y u (fun B A=>K bQ s1 e s2 r h y u B A k)))))) s k:=by
 cases v<;> try rfl
 rename_i b;cases b<;> rfl
theorem cc(v:ae)(gN:be→ah)(I:ae→ag→be→ah)(J:ae→ag→ae→ag→be→ah)(K:ae→ag→ae→ag→ae→ag→be→ah)(L:ae→ag→ae→ag→ae→ag→ae→ag→be→ah)(M:ae→ag→ae→ag→ae→ag→ae→ag→ae→ag→be→ah)(N:ae→ag→ae→ag→ae→ag→ae→ag→ae→ag→ae→ag→be→ah):(a0 T G X).af v true (gN) s (fun bQ s1=>(a0 T G X).af v true (I bQ s1) s1 (fun e s2=>(a0 T G X).af v true (J bQ s1 e s2) s2 (fun r h=>(a0 T G X).af v true (K bQ s1 e s2 r h) h (fun y u=>(a0 T G X).af v true (L bQ s1 e s2 r h y u) u (fun B A=>(a0 T G X).af v true (M bQ s1 e s2 r h y u B A) A (fun H F=>(a0 T G X).af v true (N bQ s1 e s2 r h y u B A H F) F (fun O U=>(a0 T G X).bF U k v O (.bool false))))))))=nC v (fun k=>gN (fun bQ s1=>I bQ s1 (fun e s2=>J bQ s1 e s2 (fun r h=>K bQ s1 e s2 r h (fun y u=>L bQ s1 e s2 r h y u (fun B A=>M bQ s1 e s2 r h y u B A (fun H F=>N bQ s1 e s2 r h y u B A H F k))))))) s k:=by
 cases v<;> try rfl
 rename_i b;cases b<;> rfl
theorem c8(v:ae)(gN:be→ah)(I:ae→ag→be→ah)(J:ae→ag→ae→ag→be→ah)(K:ae→ag→ae→ag→ae→ag→be→ah)(L:ae→ag→ae→ag→ae→ag→ae→ag→be→ah)(M:ae→ag→ae→ag→ae→ag→ae→ag→ae→ag→be→ah)(N:ae→ag→ae→ag→ae→ag→ae→ag→ae→ag→ae→ag→be→ah):(a0 T G X).af v false (gN) s (fun bQ s1=>(a0 T G X).af v false (I bQ s1) s1 (fun e s2=>(a0 T G X).af v false (J bQ s1 e s2) s2 (fun r h=>(a0 T G X).af v false (K bQ s1 e s2 r h) h (fun y u=>(a0 T G X).af v false (L bQ s1 e s2 r h y u) u (fun B A=>(a0 T G X).af v false (M bQ s1 e s2 r h y u B A) A (fun H F=>(a0 T G X).af v false (N bQ s1 e s2 r h y u B A H F) F (fun O U=>(a0 T G X).bF U k v (.bool true) O)))))))=sr v (fun k=>gN (fun bQ s1=>I bQ s1 (fun e s2=>J bQ s1 e s2 (fun r h=>K bQ s1 e s2 r h (fun y u=>L bQ s1 e s2 r h y u (fun B A=>M bQ s1 e s2 r h y u B A (fun H F=>N bQ s1 e s2 r h y u B A H F k))))))) s k:=by
 cases v<;> try rfl
 rename_i b;cases b<;> rfl
theorem cd(v:ae)(gN:be→ah)(K:ae→ag→be→ah)(L:ae→ag→ae→ag→be→ah)(M:ae→ag→ae→ag→ae→ag→be→ah)(N:ae→ag→ae→ag→ae→ag→ae→ag→be→ah)(O:ae→ag→ae→ag→ae→ag→ae→ag→ae→ag→be→ah)(U:ae→ag→ae→ag→ae→ag→ae→ag→ae→ag→ae→ag→be→ah)(V:ae→ag→ae→ag→ae→ag→ae→ag→ae→ag→ae→ag→ae→ag→be→ah):(a0 T G X).af v true (gN) s (fun bQ s1=>(a0 T G X).af v true (K bQ s1) s1 (fun e s2=>(a0 T G X).af v true (L bQ s1 e s2) s2 (fun r h=>(a0 T G X).af v true (M bQ s1 e s2 r h) h (fun y u=>(a0 T G X).af v true (N bQ s1 e s2 r h y u) u (fun B A=>(a0 T G X).af v true (O bQ s1 e s2 r h y u B A) A (fun H F=>(a0 T G X).af v true (U bQ s1 e s2 r h y u B A H F) F (fun J I=>(a0 T G X).af v true (V bQ s1 e s2 r h y u B A H F J I) I (fun Y Z=>(a0 T G X).bF Z k v Y (.bool false)))))))))=nC v (fun k=>gN (fun bQ s1=>K bQ s1 (fun e s2=>L bQ s1 e s2 (fun r h=>M bQ s1 e s2 r h (fun y u=>N bQ s1 e s2 r h y u (fun B A=>O bQ s1 e s2 r h y u B A (fun H F=>U bQ s1 e s2 r h y u B A H F (fun J I=>V bQ s1 e s2 r h y u B A H F J I k)))))))) s k:=by
 cases v<;> try rfl
 rename_i b;cases b<;> rfl
theorem c9(v:ae)(gN:be→ah)(K:ae→ag→be→ah)(L:ae→ag→ae→ag→be→ah)(M:ae→ag→ae→ag→ae→ag→be→ah)(N:ae→ag→ae→ag→ae→ag→ae→ag→be→ah)(O:ae→ag→ae→ag→ae→ag→ae→ag→ae→ag→be→ah)(U:ae→ag→ae→ag→ae→ag→ae→ag→ae→ag→ae→ag→be→ah)(V:ae→ag→ae→ag→ae→ag→ae→ag→ae→ag→ae→ag→ae→ag→be→ah):(a0 T G X).af v false (gN) s (fun bQ s1=>(a0 T G X).af v false (K bQ s1) s1 (fun e s2=>(a0 T G X).af v false (L bQ s1 e s2) s2 (fun r h=>(a0 T G X).af v false (M bQ s1 e s2 r h) h (fun y u=>(a0 T G X).af v false (N bQ s1 e s2 r h y u) u (fun B A=>(a0 T G X).af v false (O bQ s1 e s2 r h y u B A) A (fun H F=>(a0 T G X).af v false (U bQ s1 e s2 r h y u B A H F) F (fun J I=>(a0 T G X).af v false (V bQ s1 e s2 r h y u B A H F J I) I (fun Y Z=>(a0 T G X).bF Z k v (.bool true) Y))))))))=sr v (fun k=>gN (fun bQ s1=>K bQ s1 (fun e s2=>L bQ s1 e s2 (fun r h=>M bQ s1 e s2 r h (fun y u=>N bQ s1 e s2 r h y u (fun B A=>O bQ s1 e s2 r h y u B A (fun H F=>U bQ s1 e s2 r h y u B A H F (fun J I=>V bQ s1 e s2 r h y u B A H F J I k)))))))) s k:=by
 cases v<;> try rfl
 rename_i b;cases b<;> rfl
theorem cf(v:ae)(gN:be→ah)(M:ae→ag→be→ah)(N:ae→ag→ae→ag→be→ah)(O:ae→ag→ae→ag→ae→ag→be→ah)(U:ae→ag→ae→ag→ae→ag→ae→ag→be→ah)(V:ae→ag→ae→ag→ae→ag→ae→ag→ae→ag→be→ah)(Y:ae→ag→ae→ag→ae→ag→ae→ag→ae→ag→ae→ag→be→ah)(Z:ae→ag→ae→ag→ae→ag→ae→ag→ae→ag→ae→ag→ae→ag→be→ah)(aa:ae→ag→ae→ag→ae→ag→ae→ag→ae→ag→ae→ag→ae→ag→ae→ag→be→ah):(a0 T G X).af v true (gN) s (fun bQ s1=>(a0 T G X).af v true (M bQ s1) s1 (fun e s2=>(a0 T G X).af v true (N bQ s1 e s2) s2 (fun r h=>(a0 T G X).af v true (O bQ s1 e s2 r h) h (fun y u=>(a0 T G X).af v true (U bQ s1 e s2 r h y u) u (fun B A=>(a0 T G X).af v true (V bQ s1 e s2 r h y u B A) A (fun H F=>(a0 T G X).af v true (Y bQ s1 e s2 r h y u B A H F) F (fun J I=>(a0 T G X).af v true (Z bQ s1 e s2 r h y u B A H F J I) I (fun L K=>(a0 T G X).af v true (aa bQ s1 e s2 r h y u B A H F J I L K) K (fun ab ac=>(a0 T G X).bF ac k v ab (.bool false))))))))))=nC v (fun k=>gN (fun bQ s1=>M bQ s1 (fun e s2=>N bQ s1 e s2 (fun r h=>O bQ s1 e s2 r h (fun y u=>U bQ s1 e s2 r h y u (fun B A=>V bQ s1 e s2 r h y u B A (fun H F=>Y bQ s1 e s2 r h y u B A H F (fun J I=>Z bQ s1 e s2 r h y u B A H F J I (fun L K=>aa bQ s1 e s2 r h y u B A H F J I L K k))))))))) s k:=by
 cases v<;> try rfl
 rename_i b;cases b<;> rfl
theorem da(v:ae)(gN:be→ah)(M:ae→ag→be→ah)(N:ae→ag→ae→ag→be→ah)(O:ae→ag→ae→ag→ae→ag→be→ah)(U:ae→ag→ae→ag→ae→ag→ae→ag→be→ah)(V:ae→ag→ae→ag→ae→ag→ae→ag→ae→ag→be→ah)(Y:ae→ag→ae→ag→ae→ag→ae→ag→ae→ag→ae→ag→be→ah)(Z:ae→ag→ae→ag→ae→ag→ae→ag→ae→ag→ae→ag→ae→ag→be→ah)(aa:ae→ag→ae→ag→ae→ag→ae→ag→ae→ag→ae→ag→ae→ag→ae→ag→be→ah):(a0 T G X).af v false (gN) s (fun bQ s1=>(a0 T G X).af v false (M bQ s1) s1 (fun e s2=>(a0 T G X).af v false (N bQ s1 e s2) s2 (fun r h=>(a0 T G X).af v false (O bQ s1 e s2 r h) h (fun y u=>(a0 T G X).af v false (U bQ s1 e s2 r h y u) u (fun B A=>(a0 T G X).af v false (V bQ s1 e s2 r h y u B A) A (fun H F=>(a0 T G X).af v false (Y bQ s1 e s2 r h y u B A H F) F (fun J I=>(a0 T G X).af v false (Z bQ s1 e s2 r h y u B A H F J I) I (fun L K=>(a0 T G X).af v false (aa bQ s1 e s2 r h y u B A H F J I L K) K (fun ab ac=>(a0 T G X).bF ac k v (.bool true) ab)))))))))=sr v (fun k=>gN (fun bQ s1=>M bQ s1 (fun e s2=>N bQ s1 e s2 (fun r h=>O bQ s1 e s2 r h (fun y u=>U bQ s1 e s2 r h y u (fun B A=>V bQ s1 e s2 r h y u B A (fun H F=>Y bQ s1 e s2 r h y u B A H F (fun J I=>Z bQ s1 e s2 r h y u B A H F J I (fun L K=>aa bQ s1 e s2 r h y u B A H F J I L K k))))))))) s k:=by
 cases v<;> try rfl
 rename_i b;cases b<;> rfl
theorem bu(v:ae)(gN:be→ah)(O:ae→ag→be→ah)(U:ae→ag→ae→ag→be→ah)(V:ae→ag→ae→ag→ae→ag→be→ah)(Y:ae→ag→ae→ag→ae→ag→ae→ag→be→ah)(Z:ae→ag→ae→ag→ae→ag→ae→ag→ae→ag→be→ah)(aa:ae→ag→ae→ag→ae→ag→ae→ag→ae→ag→ae→ag→be→ah)(ab:ae→ag→ae→ag→ae→ag→ae→ag→ae→ag→ae→ag→ae→ag→be→ah)(ac:ae→ag→ae→ag→ae→ag→ae→ag→ae→ag→ae→ag→ae→ag→ae→ag→be→ah)(ad:ae→ag→ae→ag→ae→ag→ae→ag→ae→ag→ae→ag→ae→ag→ae→ag→ae→ag→be→ah):(a0 T G X).af v true (gN) s (fun bQ s1=>(a0 T G X).af v true (O bQ s1) s1 (fun e s2=>(a0 T G X).af v true (U bQ s1 e s2) s2 (fun r h=>(a0 T G X).af v true (V bQ s1 e s2 r h) h (fun y u=>(a0 T G X).af v true (Y bQ s1 e s2 r h y u) u (fun B A=>(a0 T G X).af v true (Z bQ s1 e s2 r h y u B A) A (fun H F=>(a0 T G X).af v true (aa bQ s1 e s2 r h y u B A H F) F (fun J I=>(a0 T G X).af v true (ab bQ s1 e s2 r h y u B A H F J I) I (fun L K=>(a0 T G X).af v true (ac bQ s1 e s2 r h y u B A H F J I L K) K (fun N M=>(a0 T G X).af v true (ad bQ s1 e s2 r h y u B A H F J I L K N M) M (fun ai aj=>(a0 T G X).bF aj k v ai (.bool false)))))))))))=nC v (fun k=>gN (fun bQ s1=>O bQ s1 (fun e s2=>U bQ s1 e s2 (fun r h=>V bQ s1 e s2 r h (fun y u=>Y bQ s1 e s2 r h y u (fun B A=>Z bQ s1 e s2 r h y u B A (fun H F=>aa bQ s1 e s2 r h y u B A H F (fun J I=>ab bQ s1 e s2 r h y u B A H F J I (fun L K=>ac bQ s1 e s2 r h y u B A H F J I L K (fun N M=>ad bQ s1 e s2 r h y u B A H F J I L K N M k)))))))))) s k:=by
 cases v<;> try rfl
 rename_i b;cases b<;> rfl
theorem cg(v:ae)(gN:be→ah)(O:ae→ag→be→ah)(U:ae→ag→ae→ag→be→ah)(V:ae→ag→ae→ag→ae→ag→be→ah)(Y:ae→ag→ae→ag→ae→ag→ae→ag→be→ah)(Z:ae→ag→ae→ag→ae→ag→ae→ag→ae→ag→be→ah)(aa:ae→ag→ae→ag→ae→ag→ae→ag→ae→ag→ae→ag→be→ah)(ab:ae→ag→ae→ag→ae→ag→ae→ag→ae→ag→ae→ag→ae→ag→be→ah)(ac:ae→ag→ae→ag→ae→ag→ae→ag→ae→ag→ae→ag→ae→ag→ae→ag→be→ah)(ad:ae→ag→ae→ag→ae→ag→ae→ag→ae→ag→ae→ag→ae→ag→ae→ag→ae→ag→be→ah):(a0 T G X).af v false (gN) s (fun bQ s1=>(a0 T G X).af v false (O bQ s1) s1 (fun e s2=>(a0 T G X).af v false (U bQ s1 e s2) s2 (fun r h=>(a0 T G X).af v false (V bQ s1 e s2 r h) h (fun y u=>(a0 T G X).af v false (Y bQ s1 e s2 r h y u) u (fun B A=>(a0 T G X).af v false (Z bQ s1 e s2 r h y u B A) A (fun H F=>(a0 T G X).af v false (aa bQ s1 e s2 r h y u B A H F) F (fun J I=>(a0 T G X).af v false (ab bQ s1 e s2 r h y u B A H F J I) I (fun L K=>(a0 T G X).af v false (ac bQ s1 e s2 r h y u B A H F J I L K) K (fun N M=>(a0 T G X).af v false (ad bQ s1 e s2 r h y u B A H F J I L K N M) M (fun ai aj=>(a0 T G X).bF aj k v (.bool true) ai))))))))))=sr v (fun k=>gN (fun bQ s1=>O bQ s1 (fun e s2=>U bQ s1 e s2 (fun r h=>V bQ s1 e s2 r h (fun y u=>Y bQ s1 e s2 r h y u (fun B A=>Z bQ s1 e s2 r h y u B A (fun H F=>aa bQ s1 e s2 r h y u B A H F (fun J I=>ab bQ s1 e s2 r h y u B A H F J I (fun L K=>ac bQ s1 e s2 r h y u B A H F J I L K (fun N M=>ad bQ s1 e s2 r h y u B A H F J I L K N M k)))))))))) s k:=by
 cases v<;> try rfl
 rename_i b;cases b<;> rfl
theorem bw(v:ae)(gN:be→ah)(V:ae→ag→be→ah)(Y:ae→ag→ae→ag→be→ah)(Z:ae→ag→ae→ag→ae→ag→be→ah)(aa:ae→ag→ae→ag→ae→ag→ae→ag→be→ah)(ab:ae→ag→ae→ag→ae→ag→ae→ag→ae→ag→be→ah)(ac:ae→ag→ae→ag→ae→ag→ae→ag→ae→ag→ae→ag→be→ah)(ad:ae→ag→ae→ag→ae→ag→ae→ag→ae→ag→ae→ag→ae→ag→be→ah)(ai:ae→ag→ae→ag→ae→ag→ae→ag→ae→ag→ae→ag→ae→ag→ae→ag→be→ah)(aj:ae→ag→ae→ag→ae→ag→ae→ag→ae→ag→ae→ag→ae→ag→ae→ag→ae→ag→be→ah)(ak:ae→ag→ae→ag→ae→ag→ae→ag→ae→ag→ae→ag→ae→ag→ae→ag→ae→ag→ae→ag→be→ah):(a0 T G X).af v true (gN) s (fun bQ s1=>(a0 T G X).af v true (V bQ s1) s1 (fun e s2=>(a0 T G X).af v true (Y bQ s1 e s2) s2 (fun r h=>(a0 T G X).af v true (Z bQ s1 e s2 r h) h (fun y u=>(a0 T G X).af v true (aa bQ s1 e s2 r h y u) u (fun B A=>(a0 T G X).af v true (ab bQ s1 e s2 r h y u B A) A (fun H F=>(a0 T G X).af v true (ac bQ s1 e s2 r h y u B A H F) F (fun J I=>(a0 T G X).af v true (ad bQ s1 e s2 r h y u B A H F J I) I (fun L K=>(a0 T G X).af v true (ai bQ s1 e s2 r h y u B A H F J I L K) K (fun N M=>(a0 T G X).af v true (aj bQ s1 e s2 r h y u B A H F J I L K N M) M (fun U O=>(a0 T G X).af v true (ak bQ s1 e s2 r h y u B A H F J I L K N M U O) O (fun al am=>(a0 T G X).bF am k v al (.bool false))))))))))))=nC v (fun k=>gN (fun bQ s1=>V bQ s1 (fun e s2=>Y bQ s1 e s2 (fun r h=>Z bQ s1 e s2 r h (fun y u=>aa bQ s1 e s2 r h y u (fun B A=>ab bQ s1 e s2 r h y u B A (fun H F=>ac bQ s1 e s2 r h y u B A H F (fun J I=>ad bQ s1 e s2 r h y u B A H F J I (fun L K=>ai bQ s1 e s2 r h y u B A H F J I L K (fun N M=>aj bQ s1 e s2 r h y u B A H F J I L K N M (fun U O=>ak bQ s1 e s2 r h y u B A H F J I L K N M U O k))))))))))) s k:=by
 cases v<;> try rfl
 rename_i b;cases b<;> rfl
theorem ch(v:ae)(gN:be→ah)(V:ae→ag→be→ah)(Y:ae→ag→ae→ag→be→ah)(Z:ae→ag→ae→ag→ae→ag→be→ah)(aa:ae→ag→ae→ag→ae→ag→ae→ag→be→ah)(ab:ae→ag→ae→ag→ae→ag→ae→ag→ae→ag→be→ah)(ac:ae→ag→ae→ag→ae→ag→ae→ag→ae→ag→ae→ag→be→ah)(ad:ae→ag→ae→ag→ae→ag→ae→ag→ae→ag→ae→ag→ae→ag→be→ah)(ai:ae→ag→ae→ag→ae→ag→ae→ag→ae→ag→ae→ag→ae→ag→ae→ag→be→ah)(aj:ae→ag→ae→ag→ae→ag→ae→ag→ae→ag→ae→ag→ae→ag→ae→ag→ae→ag→be→ah)(ak:ae→ag→ae→ag→ae→ag→ae→ag→ae→ag→ae→ag→ae→ag→ae→ag→ae→ag→ae→ag→be→ah):(a0 T G X).af v false (gN) s (fun bQ s1=>(a0 T G X).af v false (V bQ s1) s1 (fun e s2=>(a0 T G X).af v false (Y bQ s1 e s2) s2 (fun r h=>(a0 T G X).af v false (Z bQ s1 e s2 r h) h (fun y u=>(a0 T G X).af v false (aa bQ s1 e s2 r h y u) u (fun B A=>(a0 T G X).af v false (ab bQ s1 e s2 r h y u B A) A (fun H F=>(a0 T G X).af v false (ac bQ s1 e s2 r h y u B A H F) F (fun J I=>(a0 T G X).af v false (ad bQ s1 e s2 r h y u B A H F J I) I (fun L K=>(a0 T G X).af v false (ai bQ s1 e s2 r h y u B A H F J I L K) K (fun N M=>(a0 T G X).af v false (aj bQ s1 e s2 r h y u B A H F J I L K N M) M (fun U O=>(a0 T G X).af v false (ak bQ s1 e s2 r h y u B A H F J I L K N M U O) O (fun al am=>(a0 T G X).bF am k v (.bool true) al)))))))))))=sr v (fun k=>gN (fun bQ s1=>V bQ s1 (fun e s2=>Y bQ s1 e s2 (fun r h=>Z bQ s1 e s2 r h (fun y u=>aa bQ s1 e s2 r h y u (fun B A=>ab bQ s1 e s2 r h y u B A (fun H F=>ac bQ s1 e s2 r h y u B A H F (fun J I=>ad bQ s1 e s2 r h y u B A H F J I (fun L K=>ai bQ s1 e s2 r h y u B A H F J I L K (fun N M=>aj bQ s1 e s2 r h y u B A H F J I L K N M (fun U O=>ak bQ s1 e s2 r h y u B A H F J I L K N M U O k))))))))))) s k:=by
 cases v<;> try rfl
 rename_i b;cases b<;> rfl
theorem bx(v:ae)(gN:be→ah)(Z:ae→ag→be→ah)(aa:ae→ag→ae→ag→be→ah)(ab:ae→ag→ae→ag→ae→ag→be→ah)(ac:ae→ag→ae→ag→ae→ag→ae→ag→be→ah)(ad:ae→ag→ae→ag→ae→ag→ae→ag→ae→ag→be→ah)(ai:ae→ag→ae→ag→ae→ag→ae→ag→ae→ag→ae→ag→be→ah)(aj:ae→ag→ae→ag→ae→ag→ae→ag→ae→ag→ae→ag→ae→ag→be→ah)(ak:ae→ag→ae→ag→ae→ag→ae→ag→ae→ag→ae→ag→ae→ag→ae→ag→be→ah)(al:ae→ag→ae→ag→ae→ag→ae→ag→ae→ag→ae→ag→ae→ag→ae→ag→ae→ag→be→ah)(am:ae→ag→ae→ag→ae→ag→ae→ag→ae→ag→ae→ag→ae→ag→ae→ag→ae→ag→ae→ag→be→ah)(an:ae→ag→ae→ag→ae→ag→ae→ag→ae→ag→ae→ag→ae→ag→ae→ag→ae→ag→ae→ag→ae→ag→be→ah):(a0 T G X).af v true (gN) s (fun bQ s1=>(a0 T G X).af v true (Z bQ s1) s1 (fun e s2=>(a0 T G X).af v true (aa bQ s1 e s2) s2 (fun r h=>(a0 T G X).af v true (ab bQ s1 e s2 r h) h (fun y u=>(a0 T G X).af v true (ac bQ s1 e s2 r h y u) u (fun B A=>(a0 T G X).af v true (ad bQ s1 e s2 r h y u B A) A (fun H F=>(a0 T G X).af v true (ai bQ s1 e s2 r h y u B A H F) F (fun J I=>(a0 T G X).af v true (aj bQ s1 e s2 r h y u B A H F J I) I (fun L K=>(a0 T G X).af v true (ak bQ s1 e s2 r h y u B A H F J I L K) K (fun N M=>(a0 T G X).af v true (al bQ s1 e s2 r h y u B A H F J I L K N M) M (fun U O=>(a0 T G X).af v true (am bQ s1 e s2 r h y u B A H F J I L K N M U O) O (fun Y V=>(a0 T G X).af v true (an bQ s1 e s2 r h y u B A H F J I L K N M U O Y V) V (fun ao ap=>(a0 T G X).bF ap k v ao (.bool false)))))))))))))=nC v (fun k=>gN (fun bQ s1=>Z bQ s1 (fun e s2=>aa bQ s1 e s2 (fun r h=>ab bQ s1 e s2 r h (fun y u=>ac bQ s1 e s2 r h y u (fun B A=>ad bQ s1 e s2 r h y u B A (fun H F=>ai bQ s1 e s2 r h y u B A H F (fun J I=>aj bQ s1 e s2 r h y u B A H F J I (fun L K=>ak bQ s1 e s2 r h y u B A H F J I L K (fun N M=>al bQ s1 e s2 r h y u B A H F J I L K N M (fun U O=>am bQ s1 e s2 r h y u B A H F J I L K N M U O (fun Y V=>an bQ s1 e s2 r h y u B A H F J I L K N M U O Y V k)))))))))))) s k:=by
 cases v<;> try rfl
 rename_i b;cases b<;> rfl
theorem ci(v:ae)(gN:be→ah)(Z:ae→ag→be→ah)(aa:ae→ag→ae→ag→be→ah)(ab:ae→ag→ae→ag→ae→ag→be→ah)(ac:ae→ag→ae→ag→ae→ag→ae→ag→be→ah)(ad:ae→ag→ae→ag→ae→ag→ae→ag→ae→ag→be→ah)(ai:ae→ag→ae→ag→ae→ag→ae→ag→ae→ag→ae→ag→be→ah)(aj:ae→ag→ae→ag→ae→ag→ae→ag→ae→ag→ae→ag→ae→ag→be→ah)(ak:ae→ag→ae→ag→ae→ag→ae→ag→ae→ag→ae→ag→ae→ag→ae→ag→be→ah)(al:ae→ag→ae→ag→ae→ag→ae→ag→ae→ag→ae→ag→ae→ag→ae→ag→ae→ag→be→ah)(am:ae→ag→ae→ag→ae→ag→ae→ag→ae→ag→ae→ag→ae→ag→ae→ag→ae→ag→ae→ag→be→ah)(an:ae→ag→ae→ag→ae→ag→ae→ag→ae→ag→ae→ag→ae→ag→ae→ag→ae→ag→ae→ag→ae→ag→be→ah):(a0 T G X).af v false (gN) s (fun bQ s1=>(a0 T G X).af v false (Z bQ s1) s1 (fun e s2=>(a0 T G X).af v false (aa bQ s1 e s2) s2 (fun r h=>(a0 T G X).af v false (ab bQ s1 e s2 r h) h (fun y u=>(a0 T G X).af v false (ac bQ s1 e s2 r h y u) u (fun B A=>(a0 T G X).af v false (ad bQ s1 e s2 r h y u B A) A (fun H F=>(a0 T G X).af v false (ai bQ s1 e s2 r h y u B A H F) F (fun J I=>(a0 T G X).af v false (aj bQ s1 e s2 r h y u B A H F J I) I (fun L K=>(a0 T G X).af v false (ak bQ s1 e s2 r h y u B A H F J I L K) K (fun N M=>(a0 T G X).af v false (al bQ s1 e s2 r h y u B A H F J I L K N M) M (fun U O=>(a0 T G X).af v false (am bQ s1 e s2 r h y u B A H F J I L K N M U O) O (fun Y V=>(a0 T G X).af v false (an bQ s1 e s2 r h y u B A H F J I L K N M U O Y V) V (fun ao ap=>(a0 T G X).bF ap k v (.bool true) ao))))))))))))=sr v (fun k=>gN (fun bQ s1=>Z bQ s1 (fun e s2=>aa bQ s1 e s2 (fun r h=>ab bQ s1 e s2 r h (fun y u=>ac bQ s1 e s2 r h y u (fun B A=>ad bQ s1 e s2 r h y u B A (fun H F=>ai bQ s1 e s2 r h y u B A H F (fun J I=>aj bQ s1 e s2 r h y u B A H F J I (fun L K=>ak bQ s1 e s2 r h y u B A H F J I L K (fun N M=>al bQ s1 e s2 r h y u B A H F J I L K N M (fun U O=>am bQ s1 e s2 r h y u B A H F J I L K N M U O (fun Y V=>an bQ s1 e s2 r h y u B A H F J I L K N M U O Y V k)))))))))))) s k:=by
 cases v<;> try rfl
 rename_i b;cases b<;> rfl
section
variable(cs:List ae)(ek:IntKind)(n:Int)(b:Bool)(fb:List Nat)(a:Loc)(o sz:Nat)(es:List ae)(g:e2)(f:Nat)
theorem aA:(a0 T G X).fk (.agg cs) s k=k (.bP cs) s:=rfl
theorem aD:(a0 T G X).fk (.int ek n) s k=k (.bP [.int ek n]) s:=rfl
theorem aw:(a0 T G X).fk (.bool b) s k=k (.bP [.bool b]) s:=rfl
theorem aE:(a0 T G X).fk (.str fb) s k=k (.bP [.str fb]) s:=rfl
theorem aM:(a0 T G X).fk (.cr sz es g) s k=k (.bP [.cr sz es (g.ap s.aa)]) s:=rfl
theorem aN:(a0 T G X).fk (.fn f cs) s k=k (.bP [.fn f cs]) s:=rfl
theorem ax:(a0 T G X).fk (.bP cs) s k=k (.bP [.bP cs]) s:=rfl
theorem aF:(a0 T G X).fk (.ref a o) s k=k (.bP [.ref (a.ap s.aa) o]) s:=rfl
end
theorem aC(sz:Nat)(es:List ae)(g:e2):(a0 T G X).cU s k false (.cr sz es g)=k (.int .i64 es.length) s:=rfl
theorem aT(a:Loc)(off n c sz:Nat):(a0 T G X).cU s k false (.cZ a off n c sz)=k (.int .i64 n) s:=rfl
theorem aW(fb:List Nat):(a0 T G X).cU s k true (.str fb)=k (.int .i64 fb.length) s:=rfl
theorem bc(c:ae)(cs:List ae):(a0 T G X).ay s k none (.bP (c::cs))=k c s:=rfl
theorem bi(n:Nat)(cs:List ae)(h:n≤cs.length):(a0 T G X).ay s k (some n) (.bP cs)=k (.agg (cs.take n)) s:=by show(bif Nat.ble n cs.length then _ else _)=_;rw[show Nat.ble n cs.length=true from eN h];rfl
theorem dI(off:Nat)(cs:List ae):(a0 T G X).aI s k off (.bP cs)=k (.bP (cs.drop off)) s:=rfl
theorem az(off o:Nat)(a:Loc):(a0 T G X).aI s k off (.ref a o)=k (.ref a (o+off)) s:=rfl
theorem g5(ek:IntKind)(n:Nat):eX (.int ek (n:Int))=some n:=by simp [eX]
theorem mq(sz:Nat)(es:List ae)(g:e2)(ek:IntKind)(i:Nat)(e:ae)(h:es[i]? =some e):(a0 T G X).cL s k sz (.cr sz es g) (.int ek (i:Int))=k (.bP e.cells) s:=by show kz (gz G (aP T G X) bL) s k sz (.cr sz es g) (.int ek (i:Int))=_;unfold kz;rw[g5];simp only[show Nat.beq sz sz=true from gf sz,bX,h];rfl
theorem rk(sz:Nat)(es:List ae)(g:e2)(ek:IntKind)(i:Int)(e:ae)(eJ:0≤i)(h:es[i.toNat]? =some e):(a0 T G X).cL s k sz (.cr sz es g) (.int ek i)=k (.bP e.cells) s:=by
 have:=mq (T:=T) (G:=G) (X:=X) (s:=s) (k:=k) sz es g ek i.toNat e h
 rwa [Int.toNat_of_nonneg eJ] at this
theorem yG{f:Nat}{args:List ae}{v:ae}{s':ag}(h:aP T G X f args s=.ok v s')(cR:s'.aa=s.aa):(a0 T G X).bA s k f args=k v s':=by show eu _ _ _ _ _ _=_;unfold eu;show(match aP T G X f args s with |.ok v s'=>_|.panic v s'=>_|.fail=>_)=_;rw[h];simp only[cR,gf,bX]
theorem bd{f:Nat}{args:List ae}{v:ae}(h:aP T G X f args s=.ok v s):(a0 T G X).bA s k f args=k v s:=yG h rfl
theorem bs{f:Nat}{dC args:List ae}:(a0 T G X).ri s k (.fn f dC) args=(a0 T G X).bA s k f (args++dC):=rfl
theorem kk{f:Nat}{args:List ae}{v:ae}{s':ag}(e:ae.a7 args=true)(h:aP T G X f args {own:=[],up:=[],ro:=[]}=.ok v s')(bJ:v.bb=true):(a0 T G X).gn s k f args=k v s:=by show hs _ _ _ _ _=_;unfold hs;rw[e];simp only[bX];show(match aP T G X f args _ with |.ok v _=>_|_=>_)=_;rw[h];simp only[bJ,bX]
theorem gw(i:Nat)(vs:List ae)(v:ae)(h:vs[i]? =some v):(a0 T G X).bH s k i (.eb vs)=k v s:=by show qu _ _ _ _=_;rw[h];rfl
section
variable(ek:IntKind)(a b:Int)
theorem VM:al .add (.int ek a) (.int ek b)=some (.int ek (ek.wrap (a+b))):=by simp [al,gj]
theorem VN:al .sub (.int ek a) (.int ek b)=some (.int ek (ek.wrap (a-b))):=by simp [al,gj]
theorem VO:al .mul (.int ek a) (.int ek b)=some (.int ek (ek.wrap (a*b))):=by simp [al,gj]
theorem VP(h:b≠0):al .quo (.int ek a) (.int ek b)=some (.int ek (ek.wrap (a.tdiv b))):=by simp [al,gj,h]
theorem VQ(h:b≠0):al .rem (.int ek a) (.int ek b)=some (.int ek (a.tmod b)):=by simp [al,gj,h]
theorem VR:al .eql (.int ek a) (.int ek b)=some (.bool (decide (a=b))):=by simp only[al,gj,↓reduceIte];congr 2
theorem VS:al .neq (.int ek a) (.int ek b)=some (.bool (decide (¬a=b))):=by simp only[al,gj,↓reduceIte,bne];congr 2;by_cases h:a=b<;> simp [h]
theorem VT:al .lss (.int ek a) (.int ek b)=some (.bool (decide (a<b))):=by simp [al,gj]
theorem VU:al .leq (.int ek a) (.int ek b)=some (.bool (decide (a≤b))):=by simp [al,gj]
theorem VV:al .gtr (.int ek a) (.int ek b)=some (.bool (decide (b<a))):=by simp [al,gj]
theorem VW:al .geq (.int ek a) (.int ek b)=some (.bool (decide (b≤a))):=by simp [al,gj]
end
section
variable(ek:IntKind)(a b:Int)
theorem fl:(a0 T G X).ai s k (al .add (.int ek a) (.int ek b))=k (.int ek (ek.wrap (a+b))) s:=by rw[VM];rfl
theorem fA:(a0 T G X).ai s k (al .sub (.int ek a) (.int ek b))=k (.int ek (ek.wrap (a-b))) s:=by rw[VN];rfl
theorem fP:(a0 T G X).ai s k (al .mul (.int ek a) (.int ek b))=k (.int ek (ek.wrap (a*b))) s:=by rw[VO];rfl
theorem JT(h:b≠0):(a0 T G X).ai s k (al .quo (.int ek a) (.int ek b))=k (.int ek (ek.wrap (a.tdiv b))) s:=by rw[VP _ _ _ h];rfl
theorem JU(h:b≠0):(a0 T G X).ai s k (al .rem (.int ek a) (.int ek b))=k (.int ek (a.tmod b)) s:=by rw[VQ _ _ _ h];rfl
theorem bl:(a0 T G X).ai s k (al .eql (.int ek a) (.int ek b))=k (.bool (decide (a=b))) s:=by rw[VR];rfl
theorem cF:(a0 T G X).ai s k (al .neq (.int ek a) (.int ek b))=k (.bool (decide (¬a=b))) s:=by rw[VS];rfl
theorem br:(a0 T G X).ai s k (al .lss (.int ek a) (.int ek b))=k (.bool (decide (a<b))) s:=by rw[VT];rfl
theorem cX:(a0 T G X).ai s k (al .leq (.int ek a) (.int ek b))=k (.bool (decide (a≤b))) s:=by rw[VU];rfl
theorem b5:(a0 T G X).ai s k (al .gtr (.int ek a) (.int ek b))=k (.bool (decide (b<a))) s:=by rw[VV];rfl
theorem cA:(a0 T G X).ai s k (al .geq (.int ek a) (.int ek b))=k (.bool (decide (b≤a))) s:=by rw[VW];rfl
theorem cS(t:Bool):(a0 T G X).ai s k (kv .not (.bool t))=k (.bool (!t)) s:=rfl
theorem db:(a0 T G X).ai s k (kv .neg (.int ek a))=k (.int ek (ek.wrap (0-a))) s:=rfl
end
theorem eK(a:Int)(ar: -9223372036854775808≤a)(av:a≤9223372036854775807):IntKind.wrap .i64 a=a:=IntWalk.i64_in a ⟨ar,av⟩
def ae.plain:ae→Bool
 |.int .. |.bool _|.str _|.hE|.hT|.hF|.fe=>true
 |_=>false
theorem xd{s:ag}{v:ae}(h:v.plain=true):freeze s v=some v:=by cases v<;> simp [ae.plain] at h<;> rfl
section
variable{own:List dp}{u:List dp}{dm ro:List (List dp)}
theorem aX(ek:IntKind)(n:Int):(a0 T G X).a4 false [some (.int ek n)] {own,up:=u::dm,ro}=.ok (.int ek n) {own:=u,up:=dm,ro}:=rfl
theorem aO(b:Bool):(a0 T G X).a4 false [some (.bool b)] {own,up:=u::dm,ro}=.ok (.bool b) {own:=u,up:=dm,ro}:=rfl
theorem aY(b:List Nat):(a0 T G X).a4 false [some (.str b)] {own,up:=u::dm,ro}=.ok (.str b) {own:=u,up:=dm,ro}:=rfl
end
theorem aJ(ek:IntKind)(n:Int):(a0 T G X).a4 false [some (.int ek n)] s.aj=.ok (.int ek n) s:=rfl
theorem aH(b:Bool):(a0 T G X).a4 false [some (.bool b)] s.aj=.ok (.bool b) s:=rfl
theorem aZ(b:List Nat):(a0 T G X).a4 false [some (.str b)] s.aj=.ok (.str b) s:=rfl
theorem g6(s:ag)(o:dp):(s.new o).get (.l s.own.length)=some o:=by simp [ag.get,ag.new]
theorem C7(s:ag)(o o':dp):(s.new o).set (.l s.own.length) o'=some (s.new o'):=by simp [ag.set,ag.new]
theorem s5{α:Type}:∀(vs cs:List α),vs.length=cs.length→dN cs 0 vs=vs:=by
 intro vs cs h;apply List.ext_getElem?;intro j;rw[gK _ _ _ (by omega)];split
 ·simp
 ·rw[List.getElem?_eq_none (by omega),List.getElem?_eq_none (by omega)]
theorem cN(n:Nat)(vs cs:List ae)(ar:vs.length=n)(av:cs.length=n)(bO:vs.all ae.eG=true):(a0 T G X).cC (s.new (.cells cs)) k n (.ref (.l s.own.length) 0) (.agg vs)=k .dead (s.new (.cells vs)):=by
 rw[kT];unfold fh;simp only[ae.ff,ae.cells,ar,gf,bC,bX];unfold ii;simp only[g6];have e:dN cs 0 vs=vs:=s5 _ _ (by omega);have dM:Nat.ble (0+vs.length) cs.length=true:=eN (by omega);have h:(s.new (.cells cs)).ho (.l s.own.length) vs=true:=by simp [ag.ho,ag.oD]
 rw[dM,h,bO];simp only[bC,bX,e];show(match (s.new (.cells cs)).set (.l s.own.length) (.cells vs) with |some s=>k .dead s|none=>.fail)=_;rw[C7]
theorem bV(n:Nat)(cs:List ae)(h:n≤cs.length):(a0 T G X).ay (s.new (.cells cs)) k (some n) (.ref (.l s.own.length) 0)=k (.agg (cs.take n)) (s.new (.cells cs)):=by rw[hr];simp only[dX,g6,bW,eR];rw[show Nat.ble n cs.length=true from eN h];rfl
theorem b2(e:ae)(cs:List ae):(a0 T G X).ay (s.new (.cells (e::cs))) k none (.ref (.l s.own.length) 0)=k e (s.new (.cells (e::cs))):=by rw[hr];simp only[dX,g6];rfl
theorem cj(h e:ae)(cs:List ae):(a0 T G X).ay (s.new (.cells (h::e::cs))) k none (.ref (.l s.own.length) 1)=k e (s.new (.cells (h::e::cs))):=by rw[hr];simp only[dX,g6];rfl
theorem ck(h r e:ae)(cs:List ae):(a0 T G X).ay (s.new (.cells (h::r::e::cs))) k none (.ref (.l s.own.length) 2)=k e (s.new (.cells (h::r::e::cs))):=by rw[hr];simp only[dX,g6];rfl
theorem cl(h r u e:ae)(cs:List ae):(a0 T G X).ay (s.new (.cells (h::r::u::e::cs))) k none (.ref (.l s.own.length) 3)=k e (s.new (.cells (h::r::u::e::cs))):=by rw[hr];simp only[dX,g6];rfl
theorem cm(h r u y e:ae)(cs:List ae):(a0 T G X).ay (s.new (.cells (h::r::u::y::e::cs))) k none (.ref (.l s.own.length) 4)=k e (s.new (.cells (h::r::u::y::e::cs))):=by rw[hr];simp only[dX,g6];rfl
theorem cn(h r u y A e:ae)(cs:List ae):(a0 T G X).ay (s.new (.cells (h::r::u::y::A::e::cs))) k none (.ref (.l s.own.length) 5)=k e (s.new (.cells (h::r::u::y::A::e::cs))):=by rw[hr];simp only[dX,g6];rfl
theorem co(e h r u y A xB:ae)(cs:List ae):(a0 T G X).ay (s.new (.cells (e::h::r::u::y::A::xB::cs))) k none (.ref (.l s.own.length) 6)=k xB (s.new (.cells (e::h::r::u::y::A::xB::cs))):=by rw[hr];simp only[dX,g6];rfl
theorem cp(h r u y A B xB e:ae)(cs:List ae):(a0 T G X).ay (s.new (.cells (h::r::u::y::A::B::xB::e::cs))) k none (.ref (.l s.own.length) 7)=k e (s.new (.cells (h::r::u::y::A::B::xB::e::cs))):=by rw[hr];simp only[dX,g6];rfl
theorem cq(e h r u y A xB B Fu:ae)(cs:List ae):(a0 T G X).ay (s.new (.cells (e::h::r::u::y::A::xB::B::Fu::cs))) k none (.ref (.l s.own.length) 8)=k Fu (s.new (.cells (e::h::r::u::y::A::xB::B::Fu::cs))):=by rw[hr];simp only[dX,g6];rfl
structure Child (s S:ag):Prop where
 up:S.up=s.own::s.up
 ro:S.ro=s.ro
theorem Child.aj(s:ag):Child s s.aj:=⟨rfl,rfl⟩
theorem Child.new{s S:ag}(h:Child s S)(o:dp):Child s (S.new o):=⟨h.up,h.ro⟩
theorem kl{s S:ag}(h:Child s S)(v w:ae)(hw:freeze S v=some w):(a0 T G X).a4 false [some v] S=.ok w s:=by obtain⟨ar,av⟩:=h;show rh false [some v] S=_;unfold rh;simp only[fC,f0,ep,cond_false,hw,sH,ar,av]
theorem km{s S:ag}(h:Child s S)(v1 v2 e r:ae)(dM:freeze S v1=some e)(u:freeze S v2=some r):(a0 T G X).a4 false [some v1,some v2] S=.ok (.eb [e,r]) s:=by obtain⟨ar,av⟩:=h;show rh false [some v1,some v2] S=_;unfold rh;simp only[fC,f0,ep,cond_false,dM,u,sH,ar,av]
theorem ih{s S:ag}(h:Child s S)(ek:IntKind)(n:Int):(a0 T G X).a4 false [some (.int ek n)] S=.ok (.int ek n) s:=kl h _ _ rfl
theorem il{s S:ag}(h:Child s S)(b:Bool):(a0 T G X).a4 false [some (.bool b)] S=.ok (.bool b) s:=kl h _ _ rfl
theorem a8(d:Nat)(cs:List ae):ae.ap d (.agg cs)=.agg cs:=rfl
theorem aG(d:Nat)(ek:IntKind)(n:Int):ae.ap d (.int ek n)=.int ek n:=rfl
theorem ba(d:Nat)(b:Bool):ae.ap d (.bool b)=.bool b:=rfl
theorem bz(d:Nat)(b:List Nat):ae.ap d (.str b)=.str b:=rfl
theorem eS(d f:Nat)(cs:List ae):ae.ap d (.fn f cs)=.fn f cs:=rfl
theorem d8(d:Nat)(cs:List ae):ae.ap d (.bP cs)=.bP cs:=rfl
theorem d9(d:Nat):ae.ap d .hE=.hE:=rfl
theorem ds(ek:IntKind)(n:Int):ae.eG (.int ek n)=true:=rfl
theorem dg(b:Bool):ae.eG (.bool b)=true:=rfl
theorem du(b:List Nat):ae.eG (.str b)=true:=rfl
theorem dO(sz:Nat)(es:List ae)(g:e2):ae.eG (.cr sz es g)=true:=rfl
end Go.Ab
end
