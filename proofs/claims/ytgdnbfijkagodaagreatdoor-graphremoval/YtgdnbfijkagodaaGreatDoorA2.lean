/- A part of the proof: no condition. -/
import Derived.Test.YtgdnbfijkagodaaGreatDoorA1
import Derived.Test.YtgdnbfijkagodaaGreatDoorA0
import Derived.OrdersIn
import Derived.TacticsIn
import Derived.Scope
import Derived.KernelRfl
import Derived.IntWalk
set_option linter.unusedSectionVars false
set_option linter.unusedSimpArgs false
set_option linter.unusedVariables false
section
namespace Go.Ab
theorem ig{G g g':Nat→af}{o:Option bN}{d:Nat}(h:∀x,x∈o.toList→au G g x=au G g' x):dL G g o d=dL G g' o d:=by
 cases o with
 |none=>rfl
 |some x=>simp only[dL,h x (by simp)]
theorem ox{G g g':Nat→af}{d:Nat}:∀(er:List (Nat×Nat×bN)) (cs:List af),(∀x,x∈er.map (·.2.2)→au G g x=au G g' x)→fC G d g cs er=fC G d g' cs er
 |[],_,_=>rfl
 |(off,sz,x)::er,cs,h=>by simp only[fC,h x (by simp)];congr 1;exact ox er _ (fun y ez=>h y (by simp only[fc,List.mem_cons];exact .inr ez))
theorem map_congr{G g g':Nat→af}{f:af→af}(xs:List bN)(h:∀x,x∈xs→au G g x=au G g' x):xs.map (fun x=>f (au G g x))=xs.map fun x=>f (au G g' x):=List.map_congr_left fun x a1=>by rw[h x a1]
theorem Cx{E:Env}{g g':Nat→af}{op:gD}(h:∀x,x∈op.Oy→au E.ax g x=au E.ax g' x)(s:ah)(k kp:af→ah→ai):aP E g s k kp op=aP E g' s k kp op:=by
 cases op<;> simp only[gD.Oy,List.mem_cons,rc,or_false,forall_eq_or_imp,forall_eq,List.mem_append] at h<;> simp only[aP]
 case build z er=>rw[ox er z h]
 case buildSlice sz er=>have:er.map (au E.ax g)=er.map (au E.ax g'):=List.map_congr_left h;rw[this]
 case kR f xs=>rw[map_congr xs h]
 case call f xs=>rw[map_congr xs h]
 case hU f xs=>rw[map_congr xs h]
 case min xs=>rw[map_congr xs h]
 case max xs=>rw[map_congr xs h]
 case eN f xs=>rw[h.1,map_congr xs h.2]
 case mm f xs=>rw[h.1,map_congr xs h.2]
 case kS x gz bZ=>
  unfold kh;rw[h.1];cases au E.ax g' x<;> try rfl
  simp only;rw[ig (o:=gz) (fun x a1=>h.2 x (.inl a1)),ig (o:=bZ) (fun x a1=>h.2 x (.inr a1))]
 case slice z x gz bZ jf=>
  unfold ks;rw[h.1];have dn:∀d,dL E.ax g gz d=dL E.ax g' gz d:=fun d=>ig (fun x a1=>h.2 x (.inl (.inl a1)))
  have e:∀d,dL E.ax g bZ d=dL E.ax g' bZ d:=fun d=>ig (fun x a1=>h.2 x (.inl (.inr a1)))
  have r:∀d,dL E.ax g jf d=dL E.ax g' jf d:=fun d=>ig (fun x a1=>h.2 x (.inr a1))
  cases au E.ax g' x<;> try rfl
  ·simp only[dn,e];cases jf with
   |none=>rfl
   |some y=>have:=h.2 y (.inr (by simp));simp only[this]
  ·simp only[dn,e,r]
 case append q b at_ x y=>
  have dn:iA E.ax g at_=iA E.ax g' at_:=by
   cases at_ with
   |none=>rfl
   |some z=>simp only[iA,h z (.inl (by simp))]
  rw[dn,h x (.inr (.inl rfl)),h y (.inr (.inr rfl))]
 case ke q b at_ x y=>
  have dn:iA E.ax g at_=iA E.ax g' at_:=by
   cases at_ with
   |none=>rfl
   |some z=>simp only[iA,h z (.inl (by simp))]
  rw[dn,h x (.inr (.inl rfl)),h y (.inr (.inr rfl))]
 case g0 sz er=>rw[map_congr er h]
 case g1 sz er=>rw[map_congr er h]
 case kf q b x y=>rw[h.1,h.2]
 case kd q b at_ x y=>
  have dn:iA E.ax g at_=iA E.ax g' at_:=by
   cases at_ with
   |none=>rfl
   |some z=>simp only[iA,h z (.inl (by simp))]
  rw[dn,h x (.inr (.inl rfl)),h y (.inr (.inr rfl))]
 case jn z n x gz bZ jf=>
  unfold i7;rw[h.1];have dn:∀d,dL E.ax g gz d=dL E.ax g' gz d:=fun d=>ig (fun x a1=>h.2 x (.inl (.inl a1)))
  have e:∀d,dL E.ax g bZ d=dL E.ax g' bZ d:=fun d=>ig (fun x a1=>h.2 x (.inl (.inr a1)))
  have r:∀d,dL E.ax g jf d=dL E.ax g' jf d:=fun d=>ig (fun x a1=>h.2 x (.inr a1))
  simp only[dn,e,r]
 case l8 iT f xs=>
  have dn:(iT.map fun x=>(x.1,au E.ax g x.2))=iT.map fun x=>(x.1,au E.ax g' x.2):=List.map_congr_left fun x a1=>by rw[h x.2 (.inl (List.mem_map.2 ⟨x,a1,rfl⟩))]
  rw[map_congr xs (fun x a1=>h x (.inr a1)),dn]
 case kr iT f xs=>
  have dn:(iT.map fun x=>(x.1,au E.ax g x.2))=iT.map fun x=>(x.1,au E.ax g' x.2):=List.map_congr_left fun x a1=>by rw[h.2 x.2 (.inl (List.mem_map.2 ⟨x,a1,rfl⟩))]
  rw[h.1,map_congr xs (fun x a1=>h.2 x (.inr a1)),dn]
 case makeMap at_=>
  have dn:iA E.ax g at_=iA E.ax g' at_:=by
   cases at_ with
   |none=>rfl
   |some z=>simp only[iA,h z (by simp)]
  rw[dn]
 all_goals first|rfl |simp only[h]
def cT(g:Nat→af)(d:Option Nat)(v:af):Nat→af:=
 match d with
 |none=>g
 |some n=>fun m=>if m=n then v else g m
def gw(age:Option (Nat×Bool))(g:Nat→af):Option Bool:=
 match age with
 |none=>some true
 |some (t,w)=>
  match g t with
  |.bool b=>some (b==w)
  |.ed _=>some false
  |_=>none
def jW(E:Env)(o:c3)(g:Nat→af)(s:ah):Option (af×ah):=
 match gw o.guard g with
 |none=>none
 |some false=>some (.ed [],s)
 |some true=>
  match aP E g s .ok .panic o.op with
  |.ok v s'=>some (v,s')
  |_=>none
def hs(E:Env):List c3→(Nat→af)→ah→Option ((Nat→af)×ah)
 |[],g,s=>some (g,s)
 |o::os,g,s=>(jW E o g s).bind fun p=>hs E os (cT g o.dst p.1) p.2
def bN.tmp:bN→List Nat
 |.t n=>[n]
 |.at m e _=>[m,e]
 |.Uj e _=>[e]
 |_=>[]
def c3.looks(o:c3):List Nat:=o.op.Oy.flatMap bN.tmp++(o.guard.map (·.1)).toList
def bN.same:bN→bN→Bool
 |.t n,.t m=>Nat.beq n m
 |.g n,.g m=>Nat.beq n m
 |.at _ b o,.Uj e o'=>Nat.beq b e&&Nat.beq o o'
 |_,_=>false
theorem bN.i9{a b:bN}(h:a.same b=true)(G g:Nat→af):au G g a=.dead∨au G g a=au G g b:=by
 cases a<;> cases b<;> simp [bN.same] at h
 ·rw[h];exact .inr rfl
 ·rw[h];exact .inr rfl
 ·rw[h.1,h.2];rename_i t _ _ b off;rcases IU (g t) (g b) off with e|⟨_,e⟩
  ·exact .inl e
  ·exact .inr e
def wB:Option Nat→Option Nat→Bool
 |none,none=>true
 |some a,some b=>Nat.beq a b
 |_,_=>false
theorem zi{a b:Option Nat}(h:wB a b=true):a=b:=by cases a<;> cases b<;> simp [wB] at h<;> simp [h]
def leaves(a b:gD):Bool:=
 match a with
 |.load n x=>
  match b with
  |.l8 iT _ _|.kr iT _ _=>iT.any fun y=>wB n y.1&&x.same y.2
  |.kd ..=>true
  |.lL m y _ _ _=>wB n m&&x.same y
  |_=>false
 |_=>false
def indep(a b:c3):Bool:=
 (match a.dst with
  |some d=> !b.looks.contains d
  |none=>true) &&
 (match b.dst with
  |some d=> !a.looks.contains d
  |none=>true) &&
 (match a.dst,b.dst with
  |some d,some e=> !Nat.beq d e
  |_,_=>true) &&
 (Nat.beq a.op.qG 0||Nat.beq b.op.qG 0||(Nat.beq a.op.qG 1&&Nat.beq b.op.qG 1)||leaves a.op b.op||leaves b.op a.op)
theorem MN{G g:Nat→af}{d:Option Nat}{v:af}{x:bN}(h:∀n,d=some n→n ∉ x.tmp):au G (cT g d v) x=au G g x:=by
 cases d with
 |none=>rfl
 |some n=>
  have e:=h n rfl;cases x<;> try rfl
  ·rename_i t
   have:n≠t:=by simpa [bN.tmp] using e
   simp [au,cT,Ne.symm this]
  ·rename_i t b off
   have:n≠t∧n≠b:=by simpa [bN.tmp,not_or] using e
   simp [au,cT,Ne.symm this.1,Ne.symm this.2]
  ·rename_i b off
   have:n≠b:=by simpa [bN.tmp] using e
   simp [au,cT,Ne.symm this]
theorem Cy{E:Env}{o:c3}{g:Nat→af}{d:Option Nat}{v:af}(h:∀n,d=some n→n ∉ o.looks)(s:ah):jW E o (cT g d v) s=jW E o g s:=by
 have ar:gw o.guard (cT g d v)=gw o.guard g:=by
  unfold gw;cases b2:o.guard with
  |none=>rfl
  |some p=>
   obtain⟨t,w⟩:=p;cases d with
   |none=>rfl
   |some n=>
    have:n≠t:=fun e=>h n rfl (by rw[c3.looks,b2];simp [e])
    simp [cT,Ne.symm this]
 unfold jW;rw[ar,Cx (g':=g) (fun x a1=>MN (fun n cZ r=>h n cZ (by rw[c3.looks];exact List.mem_append_left _ (List.mem_flatMap.2 ⟨x,a1,r⟩))))]
theorem MO{g:Nat→af}{d e:Option Nat}{v u:af}(h:∀n m,d=some n→e=some m→n≠m):cT (cT g d v) e u=cT (cT g e u) d v:=by
 cases d with
 |none=>rfl
 |some n=>
  cases e with
  |none=>rfl
  |some m=>
   have:=h n m rfl rfl;funext t;simp only[cT];by_cases ar:t=m
   ·by_cases aw:t=n
    ·exact absurd (aw.symm.trans ar) this
    ·simp [ar,Ne.symm this]
   ·simp [ar]
section
variable{E:Env}(bB:E.F=.not)
include bB
theorem zj{o:c3}(a0:o.op.qG=0){g:Nat→af}{s s':ah}{v:af}(h:jW E o g s=some (v,s')):s'=s∧∀e:ah,e.aa=s.aa→jW E o g e=some (v,e):=by
 unfold jW at h ⊢;cases hw:gw o.guard g with
 |none=>rw[hw] at h;cases h
 |some b=>
  rw[hw] at h;cases b with
  |false=>simp only[bt,fb] at h;exact⟨h.2.symm,fun e _=>by rw[←h.1]⟩
  |true=>
   simp only at h;obtain⟨x,a1⟩:=wA bB g a0 s.aa;rw[a1 s _ _ rfl] at h;cases x with
   |none=>simp [gG] at h
   |some y=>simp only[gG,bt,fb] at h;refine⟨h.2.symm,fun e cW=>?_⟩;simp only;rw[a1 e _ _ cW];simp [gG,h.1]
theorem oX{o:c3}(a0:o.op.qG=1){g:Nat→af}{s s':ah}{v:af}(h:jW E o g s=some (v,s')):s'=s:=by
 unfold jW at h;cases hw:gw o.guard g with
 |none=>rw[hw] at h;cases h
 |some b=>
  rw[hw] at h;cases b with
  |false=>simp only[bt,fb] at h;exact h.2.symm
  |true=>
   simp only at h;split at h
   ·rename_i f7 r e;simp only[bt,fb] at h;rw[←h.2];exact uq bB g a0 e
   ·cases h
theorem wC{o:c3}{g:Nat→af}{s s':ah}{v:af}(h:jW E o g s=some (v,s')):s'.aa=s.aa:=by
 unfold jW at h;cases hw:gw o.guard g with
 |none=>rw[hw] at h;cases h
 |some b=>
  rw[hw] at h;cases b with
  |false=>simp only[bt,fb] at h;rw[h.2]
  |true=>
   simp only at h;split at h
   ·rename_i f7 r e;simp only[bt,fb] at h;rw[←h.2];exact Cw bB g e
   ·cases h
theorem oY{n:Option Nat}{cs e:List af}{s s':ah}{u:af}{t:ah}(h:cs.take (n.getD 1)=e.take (n.getD 1))(bU:e3 E s .ok n cs=.ok u t):e3 E s' .ok n e=.ok u s':=by
 cases n with
 |none=>
  simp only[Option.getD_none] at h;cases cs with
  |nil=>simp [e3] at bU
  |cons c cs=>
   cases e with
   |nil=>simp at h
   |cons oK e=>simp only[c2,c7,List.cons.injEq,and_true] at h;subst h;simp only[e3,bB,a2.not,ai.ok.injEq] at bU ⊢;exact⟨bU.1,trivial⟩
 |some n=>
  simp only[Option.getD_some] at h;simp only[e3,bB,a2.not] at bU ⊢;cases r:Nat.ble n cs.length with
  |false=>rw[r] at bU;cases bU
  |true=>
   rw[r,bD] at bU;simp only[ai.ok.injEq] at bU;have ar:=d9 r;have aw:n≤e.length:=by have:=congrArg List.length h;simp only[List.length_take] at this;omega
   rw[show Nat.ble n e.length=true from ec aw,bD,←h,bU.1]
theorem qY{n:Option Nat}{v:af}{s s':ah}{l:List af}{u:af}{t:ah}(ar:fg s n v=some l)(aw:fg s' n v=some l)(bU:dZ E s .ok n v=.ok u t):dZ E s' .ok n v=.ok u s':=by
 unfold fg at ar aw;cases v<;> simp only[cellsOf] at ar aw<;> try cases ar
 case bk cs=>exact oY bB rfl bU
 case ref a off=>
  simp only[dZ] at bU ⊢;cases b2:s.get a with
  |none=>rw[b2] at ar;cases ar
  |some o=>
   rw[b2] at ar bU;cases o<;> try cases ar
   rename_i cs;cases e:s'.get a with
   |none=>rw[e] at aw;cases aw
   |some o'=>
    rw[e] at aw;cases o'<;> try cases aw
    rename_i h;simp only[ep,bt] at aw;exact oY bB aw.symm bU
theorem wD{s:ah}{n:Option Nat}{v:af}{k:af→ah→ai}:dZ E s k n v=match cellsOf s v with |some cs=>e3 E s k n cs|none=>.fail:=by cases v<;> simp only[dZ,cellsOf];split<;> rfl
theorem sf{s s':ah}{n:Option Nat}{v u:af}{t:ah}(h:cellsOf s v=cellsOf s' v)(bU:dZ E s .ok n v=.ok u t):dZ E s' .ok n v=.ok u s':=by
 rw[wD bB,h] at bU;rw[wD bB];cases a0:cellsOf s' v with
 |none=>rw[a0] at bU;cases bU
 |some cs=>rw[a0] at bU;exact oY bB rfl bU
theorem sg{s s':ah}(h:∀d i,s'.get (.g d i)=s.get (.g d i)∨((∀cs,s.get (.g d i)≠some (.cells cs))∧∀cs,s'.get (.g d i)≠some (.cells cs)))(cW:s'.aa=s.aa)(v:af):cellsOf s v=cellsOf s' v:=by
 cases v<;> simp only[cellsOf];rename_i a off;have dn:=ah.ic s a;have r:=ah.ic s' a;rw[cW] at r;cases fS:a.ao s.aa with
 |l i=>cases a<;> simp [Loc.ao] at fS
 |g d i=>
  rw[fS] at dn r;rw[←dn,←r];rcases h d i with e|⟨jk,u⟩
  ·rw[e]
  ·cases ar:s.get (.g d i) with
   |none=>
    cases aw:s'.get (.g d i) with
    |none=>rfl
    |some o=>
     cases o<;> try rfl
     exact absurd aw (u _)
   |some o=>
    cases o
    ·exact absurd ar (jk _)
    all_goals
     cases aw:s'.get (.g d i) with
     |none=>rfl
     |some o=>
      cases o<;> try rfl
      exact absurd aw (u _)
theorem wE{q b:Nat}{l:Loc}{sz:Nat}{es:List af}{g:e0}{y:af}{s s':ah}{v:af}(h:hd E s .ok q b l (.bx sz es g) y=.ok v s')(w:af):cellsOf s w=cellsOf s' w:=by
 simp only[hd,bB,a2.not] at h;split at h
 ·cases h
 ·rename_i z new _;have h:=hr bB h;cases new with
  |nil=>simp only[ai.ok.injEq] at h;rw[h.2]
  |cons c cs=>
   have new:∀{o:b4} {l':Loc} {u:ah},(∀cs,o≠.cells cs)→s.gU l o=some (l',u)→cellsOf s w=cellsOf u w:=fun {o l' u} I cZ=>by
    obtain⟨d,i,_,A⟩:=iW.by cZ
    refine sg bB (fun gg hZ=>?_) A.aa w;rw[A.get];split
    ·rename_i B;obtain⟨rfl,rfl⟩:=B;obtain⟨M,ar,aw⟩:=A.here;refine .inr ⟨fun cs a0=>?_,fun cs a0=>I cs (Option.some.inj a0)⟩;rw[ah.m4,ar] at a0;simp only[fp] at a0;rw[←aw,List.getElem?_eq_none (aC _)] at a0;cases a0
    ·exact .inl rfl
   cases g with
   |any=>cases h
   |nil=>
    simp only at h;split at h
    ·rename_i cZ;simp only[ai.ok.injEq] at h;rw[←h.2];exact new (fun cs e=>by cases e) cZ
    ·cases h
   |exact=>
    simp only at h;split at h
    ·rename_i cZ;simp only[ai.ok.injEq] at h;rw[←h.2];exact new (fun cs e=>by cases e) cZ
    ·cases h
   |cP a=>
    simp only at h;split at h
    ·rename_i n J;have h:=hr bB h;split at h
     ·rename_i H;simp only[ai.ok.injEq] at h;rw[←h.2];have F:=H;have r:=J;rw[←ah.lX] at F;rw[←ah.ic] at r;cases fS:a.ao s.aa with
      |l i=>cases a<;> simp [Loc.ao] at fS
      |g d i=>
       rw[fS] at F r;refine sg bB (fun gg hZ=>?_) (ah.kx H) w;rw[ah.vV F r];split
       ·rename_i B;obtain⟨rfl,rfl⟩:=B;refine .inr ⟨fun cs a0=>?_,fun cs a0=>by cases a0⟩;rw[r] at a0;cases a0
       ·exact .inl rfl
     ·cases h
    ·cases h
theorem y2{a b:gD}(h:leaves a b=true){g:Nat→af}{s s':ah}{v:af}(r:aP E g s .ok .panic b=.ok v s'):∃n x,a=.load n x∧(cellsOf s (au E.ax g x)=cellsOf s' (au E.ax g x)∨au E.ax g x=.dead∨∃l,fg s n (au E.ax g x)=some l∧fg s' n (au E.ax g x)=some l):=by
 unfold leaves at h;split at h
 ·rename_i n x;refine⟨n,x,rfl,?_⟩;have key:∀(iT:List (Option Nat×bN)),(iT.any fun y=>wB n y.1&&x.same y.2)=true→(∀y,y∈iT.map (fun x=>(x.1,au E.ax g x.2))→∃l,fg s y.1 y.2=some l∧fg s' y.1 y.2=some l)→au E.ax g x=.dead∨∃l,fg s n (au E.ax g x)=some l∧fg s' n (au E.ax g x)=some l:=fun iT ar aw=>by
   obtain⟨y,ez,A⟩:=List.any_eq_true.1 ar;simp only[bo] at A;rcases bN.i9 A.2 E.ax g with e|e
   ·exact .inl e
   rw[zi A.1,e];exact .inr (aw _ (List.mem_map.2 ⟨y,ez,rfl⟩))
  split at h
  ·rename_i iT f args;simp only[aP,bB,a2.not] at r;exact .inr (key iT h (oW bB r).2)
  ·rename_i iT f args;simp only[aP] at r;unfold kV at r;split at r
   ·simp only[bB,a2.not] at r;exact .inr (key iT h (oW bB r).2)
   ·cases r
  ·rename_i q b at_ x y;simp only[aP] at r;unfold ln at r;split at r
   ·unfold fN at r;split at r
    ·exact .inl (wE bB r _)
    ·cases r
   ·cases r
  ·rename_i m y q a u;simp only[bo] at h;rcases bN.i9 h.2 E.ax g with e|e
   ·exact .inr (.inl e)
   ·rw[zi h.1,e];exact .inr (.inr (ur bB r).2)
  ·cases h
 ·cases h
theorem us{a b:c3}(h:leaves a.op b.op=true){g:Nat→af}{s s':ah}{v:af}(r:jW E b g s=some (v,s')){u:af}:jW E a g s=some (u,s)↔jW E a g s'=some (u,s'):=by
 unfold jW at r;cases hw:gw b.guard g with
 |none=>rw[hw] at r;cases r
 |some w=>
  rw[hw] at r;cases w with
  |false=>simp only[bt,fb] at r;rw[r.2]
  |true=>
   simp only at r;split at r
   ·rename_i f7 H A;simp only[bt,fb] at r;rw[r.2] at A;obtain⟨n,x,B,F⟩:=y2 bB h A;unfold jW;cases I:gw a.guard g with
    |none=>simp
    |some w=>
     cases w with
     |false=>simp
     |true=>
      simp only[B,aP];rcases F with ml|e|⟨l,ar,aw⟩
      ·constructor
       ·intro fz;split at fz
        ·rename_i y;simp only[bt,fb] at fz;rw[sf bB ml y,fz.1]
        ·cases fz
       ·intro fz;split at fz
        ·rename_i y;simp only[bt,fb] at fz;rw[sf bB ml.symm y,fz.1]
        ·cases fz
      ·rw[e];simp [dZ]
      constructor
      ·intro fz;split at fz
       ·rename_i y;simp only[bt,fb] at fz;rw[qY bB ar aw y,fz.1]
       ·cases fz
      ·intro fz;split at fz
       ·rename_i y;simp only[bt,fb] at fz;rw[qY bB aw ar y,fz.1]
       ·cases fz
   ·cases r
theorem uu{a b:gD}(h:leaves a b=true):a.qG=1:=by
 unfold leaves at h;split at h
 ·rfl
 ·cases h
theorem MP{a b:c3}(bZ:indep a b=true){rest:List c3}{g:Nat→af}{s:ah}{r:(Nat→af)×ah}(h:hs E (a::b::rest) g s=some r):hs E (b::a::rest) g s=some r:=by
 simp only[indep,bo,Bool.or_eq_true] at bZ;obtain⟨⟨⟨ar,aw⟩,bS⟩,dB⟩:=bZ;have d1:∀n,a.dst=some n→n ∉ b.looks:=fun n cZ=>by rw[cZ] at ar;simpa using ar
 have d2:∀n,b.dst=some n→n ∉ a.looks:=fun n cZ=>by rw[cZ] at aw;simpa using aw
 have d3:∀n m,a.dst=some n→b.dst=some m→n≠m:=fun n m cZ hm e=>by rw[cZ,hm,e] at bS;simp at bS
 simp only[hs] at h ⊢;cases y:jW E a g s with
 |none=>rw[y] at h;cases h
 |some p=>
  obtain⟨B,s1⟩:=p;rw[y] at h;simp only[fp] at h;cases u:jW E b (cT g a.dst B) s1 with
  |none=>rw[u] at h;cases h
  |some q=>
   obtain⟨H,s2⟩:=q;rw[u] at h;simp only[fp] at h;rw[Cy d1] at u;have key:∃S,jW E b g s=some (H,S)∧jW E a g S=some (B,s2):=by
    by_cases a0:a.op.qG=0
    ·refine⟨s2,?_⟩;obtain⟨dn,A⟩:=zj bB a0 y;subst dn;exact⟨u,A s2 (wC bB u)⟩
    ·by_cases F:b.op.qG=0
     ·refine⟨s,?_⟩;obtain⟨dn,A⟩:=zj bB F u;subst dn;exact⟨A s (wC bB y).symm,y⟩
     ·rcases dB with(((dB|dB)|dB)|dB)|dB
      ·exact absurd (dq dB) a0
      ·exact absurd (dq dB) F
      ·have dn:=oX bB (dq dB.1) y;subst dn;have A:=oX bB (dq dB.2) u;subst A;exact⟨_,u,y⟩
      ·have dn:=oX bB (uu bB dB) y;subst dn;exact⟨s2,u,(us bB dB u).1 y⟩
      ·have A:=oX bB (uu bB dB) u;subst A;exact⟨s,(us bB dB y).2 u,y⟩
   obtain⟨S,I,J⟩:=key;rw[I];simp only[fp];rw[Cy d2,J];simp only[fp];rw[←MO d3];exact h
theorem wF{o:c3}:∀(pre:List c3) {post:List c3} {g:Nat→af} {s:ah} {r:(Nat→af)×ah},(∀a,a∈pre→indep a o=true)→hs E (pre++o::post) g s=some r→hs E (o::(pre++post)) g s=some r
 |[],_,_,_,_,_,h=>h
 |a::pre,post,g,s,r,bZ,h=>by
  refine MP bB (bZ a List.mem_cons_self) ?_;simp only[List.cons_append,hs] at h ⊢;cases e:jW E a g s with
  |none=>rw[e] at h;cases h
  |some p=>rw[e] at h;simp only[fp] at h ⊢;exact wF pre (fun x a1=>bZ x (List.mem_cons_of_mem _ a1)) h
end
theorem kK:∀(d n:Nat) (v:af) (k:e2→ai) (ap:e2) (r:ai),e2.ju d n v k ap=r→r≠.fail→∃eF,k eF=r∧∀m,eF.get m=if m=n then v else ap.get m
 |0,n,v,k,ap,r,h,bA=>absurd h.symm bA
 |d+1,n,v,k,ap,r,h,bA=>by
  have H:∀m,Nat.beq (m%2) 1=true→∃q,m=2*q+1:=fun m h=>⟨m/2,by have:=dq h;omega⟩
  have even:∀m,Nat.beq (m%2) 1=false→Nat.beq m 0=false→∃q,m=2*q+2:=fun m h I=>⟨(m-2)/2,by
   have ar:m%2≠1:=fun e=>by rw[e] at h;simp at h
   have aw:m≠0:=fun e=>by rw[e] at I;simp at I
   omega⟩
  have u:∀(l:e2) (x:af) (r:e2) (q:Nat),(e2.n l x r).get (2*q+1)=l.get q:=fun l x r q=>by
   have ar:Nat.beq (2*q+1) 0=false:=by rfl
   have aw:Nat.beq ((2*q+1)%2) 1=true:=by rw[show(2*q+1)%2=1 by omega];rfl
   simp only[e2.get,ar,aw,cond_false,bD];congr 1;omega
  have y:∀(l:e2) (x:af) (r:e2) (q:Nat),(e2.n l x r).get (2*q+2)=r.get q:=fun l x r q=>by
   have ar:Nat.beq (2*q+2) 0=false:=by rfl
   have aw:Nat.beq ((2*q+2)%2) 1=false:=by rw[show(2*q+2)%2=0 by omega];rfl
   simp only[e2.get,ar,aw,cond_false];congr 1;omega
  have B:∀(l:e2) (x:af) (r:e2),(e2.n l x r).get 0=x:=fun l x r=>rfl
  have F:∀m,m=0∨(∃q,m=2*q+1)∨∃q,m=2*q+2:=fun m=>by
   by_cases eO:m=0
   ·exact .inl eO
   ·by_cases ar:m%2=1
    ·exact .inr (.inl ⟨m/2,by omega⟩)
    ·exact .inr (.inr ⟨(m-2)/2,by omega⟩)
  cases ap with
  |e=>
   simp only[e2.ju] at h;cases eO:Nat.beq n 0 with
   |true=>
    rw[eO,bD] at h
    have:=dq eO;subst this;refine⟨_,h,fun m=>?_⟩;rcases F m with rfl |⟨q,rfl⟩|⟨q,rfl⟩
    ·simp [B]
    ·rw[u];simp [e2.get]
    ·rw[y];simp [e2.get]
   |false=>
    rw[eO,cond_false] at h;cases ar:Nat.beq (n%2) 1 with
    |true=>
     rw[ar,bD] at h;obtain⟨p,rfl⟩:=H n ar;obtain⟨l',e,bU⟩:=kK d _ v _ _ r h bA;refine⟨_,e,fun m=>?_⟩;rcases F m with rfl |⟨q,rfl⟩|⟨q,rfl⟩
     ·simp [B,e2.get]
     ·rw[u,bU q];have dn:(2*p+1-1)/2=p:=by omega
      have A:2*q+1=2*p+1↔q=p:=by omega
      simp only[dn,A];simp [e2.get]
     ·rw[y,if_neg (by omega)];simp [e2.get]
    |false=>
     rw[ar,cond_false] at h;obtain⟨p,rfl⟩:=even n ar eO;obtain⟨l',e,bU⟩:=kK d _ v _ _ r h bA;refine⟨_,e,fun m=>?_⟩;rcases F m with rfl |⟨q,rfl⟩|⟨q,rfl⟩
     ·simp [B,e2.get]
     ·rw[u,if_neg (by omega)];simp [e2.get]
     ·rw[y,bU q];have dn:(2*p+2-1)/2=p:=by omega
      have A:2*q+2=2*p+2↔q=p:=by omega
      simp only[dn,A];simp [e2.get]
  |n l x J=>
   simp only[e2.ju] at h;cases eO:Nat.beq n 0 with
   |true=>
    rw[eO,bD] at h
    have:=dq eO;subst this;refine⟨_,h,fun m=>?_⟩;rcases F m with rfl |⟨q,rfl⟩|⟨q,rfl⟩
    ·simp [B]
    ·rw[u,u];simp
    ·rw[y,y];simp
   |false=>
    rw[eO,cond_false] at h;cases ar:Nat.beq (n%2) 1 with
    |true=>
     rw[ar,bD] at h;obtain⟨p,rfl⟩:=H n ar;obtain⟨l',e,bU⟩:=kK d _ v _ _ r h bA;refine⟨_,e,fun m=>?_⟩;rcases F m with rfl |⟨q,rfl⟩|⟨q,rfl⟩
     ·simp [B]
     ·rw[u,u,bU q];have dn:(2*p+1-1)/2=p:=by omega
      have A:2*q+1=2*p+1↔q=p:=by omega
      simp only[dn,A]
     ·rw[y,y,if_neg (by omega)]
    |false=>
     rw[ar,cond_false] at h;obtain⟨p,rfl⟩:=even n ar eO;obtain⟨l',e,bU⟩:=kK d _ v _ _ r h bA;refine⟨_,e,fun m=>?_⟩;rcases F m with rfl |⟨q,rfl⟩|⟨q,rfl⟩
     ·simp [B]
     ·rw[u,u,if_neg (by omega)]
     ·rw[y,y,bU q];have dn:(2*p+2-1)/2=p:=by omega
      have A:2*q+2=2*p+2↔q=p:=by omega
      simp only[dn,A]
def oc(gk:Nat):Option Nat→Option Nat→Bool
 |none,none=>true
 |some a,some b=>Nat.beq a b&&Nat.blt a gk
 |_,_=>false
def pP(ops:Array Oper):Option (Nat×Bool)→Option (Nat×Bool)→Bool
 |none,none=>true
 |some (t,w),some (j,w')=>
  match (ops[j]?).bind (·.dst) with
  |some d=>Nat.beq d t&&w==w'
  |none=>false
 |_,_=>false
def oZ(T:lj)(gk:Nat)(ops:Array Oper)(e:c3)(o:Oper):Bool:=oc gk e.dst o.dst&&pP ops e.guard o.guard&&eU T e.op o.op
def Marks(B:Nat)(w:World)(iE:List Deferred):Prop:=B≤w.heap.size∧∃pq:List Nat,iE=pq.map (fun D=>{target:=.collected D,args:= #[]})∧pq.Nodup∧∀D,D∈pq→B≤D∧w.heap[D]? =some (.deferred (some []))
theorem Marks.nil{B:Nat}{w:World}(h:B≤w.heap.size):Marks B w []:=⟨h,[],rfl,List.nodup_nil,fun D h=>by cases h⟩
theorem db.mP{κ:bq}{s:ah}{w:World}(ba:db κ s w){b:Nat}(h:Live κ s b):(∃C e jA,w.heap[b]? =some (.cells C e jA))∨∃fD clock,w.heap[b]? =some (.map fD clock):=by
 obtain⟨d,i,o,ar,aw⟩:=h;have r:=ba.obj d i o ar;cases o with
 |cells cs=>obtain⟨⟨C,e,jA,bS,_⟩,_⟩:=r;simp only[bp,bt] at aw;exact .inl ⟨C,e,jA,aw ▸ bS⟩
 |tok n=>obtain⟨u,cap,sz,bS,_,⟨C,e,jA,dB,_⟩,_⟩:=r;simp only[bp,bS,ep,bt] at aw;exact .inl ⟨C,e,jA,aw ▸ dB⟩
 |gone=>cases aw
 |map es=>obtain⟨fD,clock,bS,_⟩:=r;simp only[bp,bt] at aw;exact .inr ⟨fD,clock,aw ▸ bS⟩
theorem Marks.ext{κ κ':bq}{s s':ah}{w w':World}{iE:List Deferred}{B:Nat}(h:Marks B w iE)(ba:db κ s w)(he:fP κ s w κ' s' w'):Marks B w' iE:=by
 obtain⟨eO,pq,ar,aw,bS⟩:=h;refine⟨Nat.le_trans eO he.size,pq,ar,aw,fun D u=>⟨(bS D u).1,?_⟩⟩;have dB:=(bS D u).2;rw[he.lq D (Array.getElem?_eq_some_iff.1 dB).1 fun bU=>?_]
 ·exact dB
 ·rcases ba.mP bU with⟨C,e,jA,r⟩|⟨fD,clock,r⟩<;> rw[dB] at r<;> cases r
structure fZ (κ:bq) (s:ah) (w:World) (g:Nat→af) (a:Act) (gk:Nat) (B:Nat) (G:Nat→af):Prop where
 jl:db κ s w
 ap:yk κ s g a
 defers:Marks B w a.defers
 size:a.tmps.size=gk
 ax:kQ κ G
theorem pQ{ap:e2}{d:Option Nat}{v:af}{k:e2→ai}{r:ai}(aV:jx ap d v k=r)(bA:r≠.fail):∃eF,k eF=r∧eF.get=cT ap.get d v:=by
 cases d with
 |none=>exact⟨ap,aV,rfl⟩
 |some n=>obtain⟨eF,ar,aw⟩:=kK 12 n v k ap r aV bA;exact⟨eF,ar,funext aw⟩
theorem wG{g:Option (Nat×Bool)}{ap:e2}{k:Bool→ai}{r:ai}(aV:m0 g ap k=r)(bA:r≠.fail):∃b,gw g ap.get=some b∧k b=r:=by
 cases g with
 |none=>exact⟨true,rfl,aV⟩
 |some p=>obtain⟨t,w⟩:=p;simp only[m0] at aV;simp only[gw];cases bX:ap.get t<;> rw[bX] at aV<;> simp only at aV<;> first|exact absurd aV.symm bA|exact⟨_,rfl,aV⟩
theorem Oz{E:Env}(cZ:∀f args s v s',E.call f args s≠.panic v s'){g:Nat→af}{s:ah}{k kp e:af→ah→ai}(op:gD):aP E g s k kp op=aP E g s k e op:=by
 have a0:∀f args,eN E s k kp f args=eN E s k e f args:=fun f args=>by
  unfold eN;cases h:E.call f args s with
  |panic v s'=>exact absurd h (cZ _ _ _ _ _)
  |_=>rfl
 have lr:∀(k:af→ah→ai) f args,eN E s k kp f args=eN E s k e f args:=fun k f args=>by
  unfold eN;cases h:E.call f args s with
  |panic v s'=>exact absurd h (cZ _ _ _ _ _)
  |_=>rfl
 cases op<;> simp only[aP]
 case call=>simp only[a0]
 case eN=>unfold lM;simp only[a0]
 case l8=>simp only[iu];congr;funext args;exact lr _ _ _
 case kr=>unfold kV iu;congr;funext f dM;congr;funext args;exact lr _ _ _
theorem y3{E:Env}(bB:E.F=.not)(cZ:∀f args s v s',E.call f args s≠.panic v s'){g:Nat→af}{s s':ah}{v:af}(op:gD):aP E g s .ok .panic op≠.panic v s':=fun h=>by have ar:=jV bB g s .ok .panic op;have aw:=jV bB g s .ok (fun _ _=>.fail) op;rw[h] at aw;rw[←Oz cZ (kp:=.panic) op,h] at aw;cases aw
theorem mB{E:Env}(bB:E.F=.not)(cZ:∀f args s v s',E.call f args s≠.panic v s'){fin:e2→ah→ai}{H:af→e2→ah→ai}{r:ai}(bA:r≠.fail):∀(B:List c3) {ap:e2} {s:ah},fO E B ap s fin H=r→∃eF s',hs E B ap.get s=some (eF.get,s')∧fin eF s'=r
 |[],ap,s,h=>⟨ap,s,rfl,h⟩
 |o::os,ap,s,h=>by
  simp only[fO] at h;obtain⟨b,ar,aw⟩:=wG h bA;cases b with
  |false=>simp only[cond_false] at aw;obtain⟨eF,bS,dB⟩:=pQ aw bA;obtain⟨u,s',y,A⟩:=mB bB cZ bA os bS;exact⟨u,s',by simp only[hs,jW,ar,fp,←dB,y],A⟩
  |true=>
   simp only[bD] at aw;rw[jV bB] at aw;cases e:aP E ap.get s .ok .panic o.op with
   |fail=>rw[e] at aw;exact absurd aw.symm bA
   |panic v s'=>exact absurd e (y3 bB cZ o.op)
   |ok v s'=>rw[e] at aw;simp only[ai.bind] at aw;obtain⟨eF,bS,dB⟩:=pQ aw bA;obtain⟨u,I,y,A⟩:=mB bB cZ bA os bS;exact⟨u,I,by simp only[hs,jW,ar,e,fp,←dB,y],A⟩
section
variable{P:Program}{κ:bq}{s:ah}{w:World}{g:Nat→af}{a:Act}{gk:Nat}{B:Nat}{G:Nat→af}
theorem fZ.put(h:fZ κ s w g a gk B G){κ':bq}{s':ah}{w':World}(he:fP κ s w κ' s' w')(ba:db κ' s' w'){v:af}{x:Value}(a1:dK κ' (s.aa+1) (v.ao s.aa) x){d gg:Option Nat}(cW:oc gk d gg=true):fZ κ' s' w' (cT g d v) (a.put gg x) gk B G:=by
 have cd:=h.ap.ext he;cases d with
 |none=>
  cases gg with
  |none=>exact⟨ba,cd,h.defers.ext h.jl he,h.size,h.ax.mono he.k⟩
  |some b=>simp [oc] at cW
 |some n=>
  cases gg with
  |none=>simp [oc] at cW
  |some b=>
   simp only[oc,bo] at cW;have e:=dq cW.1;subst e;have cZ:n<a.tmps.size:=by rw[h.size];have:=cW.2;rw[Nat.blt_eq] at this;exact this
   refine⟨ba,fun t=>?_,h.defers.ext h.jl he,?_,h.ax.mono he.k⟩
   ·simp only[cT];by_cases eo:t=n
    ·subst eo;rw[if_pos rfl,he.aa];simp only[Act.put,Array.getD_eq_getD_getElem?,Array.getElem?_setIfInBounds_self_of_lt cZ,Option.getD_some];exact a1
    ·rw[if_neg eo]
     have:=cd t;simp only[Act.put,Array.getD_eq_getD_getElem?,Array.getElem?_setIfInBounds_ne (Ne.symm eo)] at this ⊢;exact this
   ·simp [Act.put,h.size]
theorem fZ.skip(h:fZ κ s w g a gk B G){d gg:Option Nat}(cW:oc gk d gg=true):fZ κ s w (cT g d (.ed [])) (a.put gg undef) gk B G:=
 h.put (.refl _ _ _) h.jl (v:=.ed []) (x:=undef) (.ed [] [] rfl (fun j c x a0=>by simp at a0)) cW
theorem fZ.wanted(h:fZ κ s w g a gk B G){ops:Array Oper}{age:Option (Nat×Bool)}{o:Oper}(b2:pP ops age o.guard=true){b:Bool}(u:gw age g=some b):Region.wanted o (yielded ops a.tmps)=b:=by
 unfold Region.wanted;cases age with
 |none=>
  cases A:o.guard with
  |none=>simpa [gw] using u
  |some p=>rw[A] at b2;simp [pP] at b2
 |some p=>
  obtain⟨t,want⟩:=p;cases A:o.guard with
  |none=>rw[A] at b2;simp [pP] at b2
  |some q=>
   obtain⟨j,H⟩:=q;rw[A] at b2;simp only[pP] at b2;split at b2
   ·rename_i d cW;simp only[bo,beq_iff_eq] at b2;have e:=dq b2.1;subst e;obtain rfl:=b2.2;have a1:=h.ap d;simp only[gw] at u;simp only[yielded,cW,fp];cases bX:g d<;> rw[bX] at u a1<;> simp only[bt,reduceCtorEq] at u
    ·rename_i F;have r:=dK.ho (b:=F) a1
     have:a.tmps[d]? =some (.bool F):=by
      rw[Array.getD_eq_getD_getElem?] at r;cases fz:a.tmps[d]? with
      |none=>rw[fz] at r;cases r
      |some y=>rw[fz] at r;simp only[Option.getD_some] at r;rw[r]
     rw[this];simpa using u
    ·rename_i vs;obtain⟨xs,r,_⟩:=dK.v3 (cs:=vs) a1
     have:∀b,a.tmps[d]?≠some (.bool b):=fun b fz=>by rw[Array.getD_eq_getD_getElem?,fz] at r;cases r
     split
     ·rename_i F fz;exact absurd fz (this F)
     ·simpa using u
   ·cases b2
theorem Cz{T:lj}{x:gD}{op:Op}(h:eU T x op=true)(a1:x≠.no):∀c,op≠.defer c:=by
 rintro c rfl
 cases x<;> first|exact a1 rfl |simp [eU] at h
theorem CA{ro:Option Nat}{m:Nat}{P:Program}{f:FuncId}{args:Array Value}{w:World}{R:Ending→World→Prop}(h:Calls P f args w R):CallsIn (yI ro) m P f args w R:=callsIn_wide.2 h
variable{ro:Option Nat}{B:Nat}{T:lj}(e1:T.qv P){E:Env}(bB:E.F=.not)(g5:nK P E)
include e1 bB g5
theorem pR(h:fZ κ s w g a gk B E.ax){ops:Array Oper}{u:c3}{i:Nat}{o:Oper}(bZ:ops[i]? =some o)(c0:oZ T gk ops u o=true){v:af}{s':ah}(aV:jW E u g s=some (v,s'))
  {K:Act→World→Prop}{Q:Exit→Act→World→Prop}(y:∀κ' w' f6,fP κ s w κ' s' w'→fZ κ' s' w' (cT g u.dst v) f6 gk B E.ax→K f6 w'):wpOpIn (yI ro) 0 P ops Q i K a w:=by
 unfold wpOpIn;simp only[bZ];simp only[oZ,bo] at c0;unfold jW at aV;cases hw:gw u.guard g with
 |none=>rw[hw] at aV;cases aV
 |some b=>
  rw[hw] at aV;rw[h.wanted c0.1.2 hw];cases b with
  |false=>simp only[bt,fb] at aV;obtain⟨rfl,rfl⟩:=aV;simp only[b5,↓reduceIte];exact⟨fun _ _=>trivial,y κ w _ (.refl _ _ _) (h.skip c0.1.1)⟩
  |true=>
   simp only at aV;simp only[↓reduceIte];cases r:aP E g s .ok .panic u.op with
   |fail=>rw[r] at aV;cases aV
   |panic v s'=>rw[r] at aV;cases aV
   |ok f7 H=>
    rw[r] at aV;simp only[bt,fb] at aV;obtain⟨rfl,rfl⟩:=aV;obtain⟨v1,s1,cK,cW⟩:=Cr (ty:=o.type) e1 h.jl bB g5 h.ap h.ax (by simp) c0.2 r;simp only[ai.ok.injEq] at cK;obtain⟨rfl,rfl⟩:=cK;have F:∀(R:Result Next),(∀dst pos after guard,(execOp a.eval ⟨dst,o.op,o.type,pos,after,guard⟩).run P w=R)→(Oper.semAt ro a.eval o).run P w=R:=fun R h=>by
     rw[show Oper.semAt ro a.eval o=execOp a.eval o from by
      cases ro with
      |none=>rfl
      |some l=>exact Oper.semAt_some l _ o (Cz c0.2 fun cZ=>by rw[cZ] at r;cases r)]
     exact h o.dst o.pos o.after o.guard
    unfold Oper.wpIn;refine⟨fun _ _=>trivial,?_⟩;rcases cW with⟨x,κ',w',a1|⟨a1,rfl⟩,he,A,bX⟩|⟨f,xs,a1,a0⟩
    ·rw[F _ a1,Oper.uponIn_value];exact y κ' w' _ he (h.put he A bX c0.1.1)
    ·rw[F _ a1,Oper.uponIn_skip];exact y κ' w' _ he (h.put he A bX c0.1.1)
    ·rw[F _ a1,Oper.uponIn_enter];refine⟨fun a1=>(by cases a1),(CA a0).mono fun e w' ⟨x,hex,κ',he,A,bX⟩=>?_⟩;subst hex;exact y κ' w' _ he (h.put he A bX c0.1.1)
theorem rq{ops:Array Oper}{Q:Exit→Act→World→Prop}{g':Nat→af}{s':ah}:∀(l:List Nat) (r:List c3) {κ:bq} {s:ah} {w:World} {g:Nat→af} {a:Act},l.length=r.length→
  (∀(j i:Nat) (e:c3),l[j]? =some i→r[j]? =some e→∃o,ops[i]? =some o∧oZ T gk ops e o=true)→fZ κ s w g a gk B E.ax→hs E r g s=some (g',s')→
  (∀κ' w' f6,fP κ s w κ' s' w'→fZ κ' s' w' g' f6 gk B E.ax→Q .normal f6 w')→wpOpsIn (yI ro) 0 P ops Q l a w
 |[],[],κ,s,w,g,a,_,_,h,aV,u=>by simp only[hs,bt,fb] at aV;obtain⟨rfl,rfl⟩:=aV;exact u κ w a (.refl _ _ _) h
 |[],_::_,_,_,_,_,_,bU,_,_,_,_=>by simp at bU
 |_::_,[],_,_,_,_,_,bU,_,_,_,_=>by simp at bU
 |i::l,e::r,κ,s,w,g,a,bU,c0,h,aV,u=>by
  obtain⟨o,bZ,y⟩:=c0 0 i e rfl rfl;rw[wpOpsIn_cons];simp only[hs] at aV;cases he:jW E e g s with
  |none=>rw[he] at aV;cases aV
  |some p=>
   rw[he] at aV;refine pR e1 bB g5 h bZ y he fun κ' w' f6 A F=>?_
   exact rq l r (by simpa using bU) (fun j i e ar aw=>c0 (j+1) i e (by simpa using ar) (by simpa using aw)) F aV
    fun H I J M N=>u H I J (A.trans M) N
end
def o0(o:Oper):List Nat:=(o.after.toList.filter (Region.binds .any)).map (·.on)
def nM(acc:List Nat):List Nat→Nat
 |[]=>0
 |e::es=>nM acc es ||| ((1 <<< e) ||| acc.getD e 0)
def rr:List Nat→List Oper→List Nat
 |acc,[]=>acc
 |acc,o::os=>rr (acc++[nM acc (o0 o)]) os
def AD(bits:Nat)(b:c3):Nat→List c3→Bool
 |_,[]=>true
 |m,a::as=>(bits.testBit m||indep a b)&&AD bits b (m+1) as
def sh:List c3→List Nat→List c3→Bool
 |_,_,[]=>true
 |pre,m::Ck,b::fo=>AD m b 0 pre&&sh (pre++[b]) Ck fo
 |_,[],_::_=>false
def AE:Nat→List Oper→Bool
 |_,[]=>true
 |i,o::os=>(o0 o).all (fun e=>Nat.blt e i)&&AE (i+1) os
def jG(T:lj)(gk:Nat)(ops:Array Oper):List c3→List Oper→Bool
 |[],[]=>true
 |a::as,o::os=>oZ T gk ops a o&&jG T gk ops as os
 |_,_=>false
def si(T:lj)(gk:Nat)(ops:Array Oper)(e:List c3):Bool:=jG T gk ops e ops.toList&&AE 0 ops.toList&&sh [] (rr [] ops.toList) e
theorem iG{T:lj}{gk:Nat}{ops:Array Oper}:∀{as:List c3} {os:List Oper},jG T gk ops as os=true→as.length=os.length∧∀(i:Nat) (a:c3) (o:Oper),as[i]? =some a→os[i]? =some o→oZ T gk ops a o=true
 |[],[],_=>⟨rfl,fun i a o h=>by simp at h⟩
 |[],_::_,h=>by simp [jG] at h
 |_::_,[],h=>by simp [jG] at h
 |a::as,o::os,h=>by
  simp only[jG,bo] at h;obtain⟨ar,aw⟩:=iG h.2;refine⟨by simp [ar],fun i f6 o' e r=>?_⟩;cases i with
  |zero=>simp at e r;subst e;subst r;exact h.1
  |succ i=>exact aw i f6 o' (by simpa using e) (by simpa using r)
theorem sj:∀{i:Nat} {os:List Oper},AE i os=true→∀(j:Nat) (o:Oper),os[j]? =some o→∀e,e∈o0 o→e<i+j
 |i,[],_,j,o,h=>by simp at h
 |i,o'::os,h,j,o,r=>by
  simp only[AE,bo,List.all_eq_true] at h;cases j with
  |zero=>
   simp at r;subst r;intro e he
   have:=h.1 e he;rw[Nat.blt_eq] at this;omega
  |succ j=>
   intro e he
   have:=sj h.2 j o (by simpa using r) e he;omega
theorem sk{bits:Nat}{b:c3}:∀{m:Nat} {as:List c3},AD bits b m as=true→∀(j:Nat) (a:c3),as[j]? =some a→bits.testBit (m+j)=true∨indep a b=true
 |m,[],_,j,a,h=>by simp at h
 |m,f6::as,h,j,a,e=>by
  simp only[AD,bo,Bool.or_eq_true] at h;cases j with
  |zero=>simp at e;subst e;exact h.1
  |succ j=>have:=sk h.2 j a (by simpa using e);rw[show m+(j+1)=m+1+j by omega];exact this
theorem qZ:∀{pre:List c3} {Ck:List Nat} {rest:List c3},sh pre Ck rest=true→∀(i m:Nat) (a b:c3),pre.length≤i→m<i→(pre++rest)[m]? =some a→(pre++rest)[i]? =some b→(Ck.getD (i-pre.length) 0).testBit m=true∨indep a b=true
 |pre,Ck,[],_,i,m,a,b,bZ,hm,u,r=>by
  rw[n1] at r
  have:=(dy.1 r).1;omega
 |pre,[],y::fo,h,i,m,a,b,bZ,hm,u,r=>by simp [sh] at h
 |pre,jU::Ck,y::fo,h,i,m,a,b,bZ,hm,u,r=>by
  simp only[sh,bo] at h;by_cases he:i=pre.length
  ·subst he;rw[Nat.sub_self];have A:b=y:=by simpa using r.symm
   subst A
   have:=sk h.1 m a (by rw[fB hm] at u;exact u);simpa using this
  ·have:=qZ (pre:=pre++[y]) h.2 i m a b (by simp;omega) hm (by simpa using u) (by simpa using r);have e:i-pre.length=(i-(pre++[y]).length)+1:=by simp;omega
   rw[e];simpa using this
theorem pr(acc:List Nat)(m:Nat):∀(es:List Nat),(nM acc es).testBit m=true→∃e,e∈es∧(m=e∨(acc.getD e 0).testBit m=true)
 |[],h=>by simp [nM] at h
 |e::es,h=>by
  simp only[nM,Nat.testBit_or,Bool.or_eq_true] at h;rcases h with h|h|h
  ·obtain⟨im,ar,aw⟩:=pr acc m es h;exact⟨im,List.mem_cons_of_mem _ ar,aw⟩
  ·refine⟨e,List.mem_cons_self,.inl ?_⟩;rw[Nat.one_shiftLeft,Nat.testBit_two_pow] at h;simpa using (of_decide_eq_true h).symm
  ·exact⟨e,List.mem_cons_self,.inr h⟩
def OA(M:List Nat)(os:List Oper):Prop:=M.length=os.length∧∀i m,(M.getD i 0).testBit m=true→∃o e,os[i]? =some o∧e∈o0 o∧(m=e∨(M.getD e 0).testBit m=true)
theorem sl:∀(os:List Oper) (acc:List Nat) (pre:List Oper),OA acc pre→OA (rr acc os) (pre++os)
 |[],acc,pre,h=>by simpa [rr] using h
 |o::os,acc,pre,h=>by
  have:=sl os (acc++[nM acc (o0 o)]) (pre++[o]) ?_
  ·simpa [rr] using this
  refine⟨by simp [h.1],fun i m hm=>?_⟩;have up:∀e,(acc.getD e 0).testBit m=true→((acc++[nM acc (o0 o)]).getD e 0).testBit m=true:=fun e he=>by
   have r:e<acc.length:=by
    rcases Nat.lt_or_ge e acc.length with q|q
    ·exact q
    ·rw[List.getD_eq_getElem?_getD,List.getElem?_eq_none q] at he;simp at he
   rw[List.getD_eq_getElem?_getD,fB r,←List.getD_eq_getElem?_getD];exact he
  rcases Nat.lt_trichotomy i acc.length with q|q|q
  ·rw[List.getD_eq_getElem?_getD,fB q,←List.getD_eq_getElem?_getD] at hm;obtain⟨o',e,ar,aw,bS⟩:=h.2 i m hm;refine⟨o',e,?_,aw,bS.imp id (up e)⟩;rw[fB (by rw[←h.1];exact q)];exact ar
  ·subst q;have u:(nM acc (o0 o)).testBit m=true:=by simpa using hm
   obtain⟨e,ar,aw⟩:=pr acc m _ u;refine⟨o,e,?_,ar,aw.imp id (up e)⟩;rw[h.1];simp
  ·rw[List.getD_eq_getElem?_getD,List.getElem?_eq_none (by simp;omega)] at hm;simp at hm
section
variable{P:Program}{gk:Nat}{B:Nat}{ro:Option Nat}{T:lj}(e1:T.qv P){E:Env}(bB:E.F=.not)(g5:nK P E)
include e1 bB g5
theorem F1{ops:Array Oper}{r:List c3}(c0:si T gk ops r=true){Q:Exit→Act→World→Prop}{g':Nat→af}{s':ah}:∀(fuel:Nat) (L:List Nat) (listed:Array Bool) {κ:bq} {s:ah} {w:World} {g:Nat→af} {a:Act},
  L.length=fuel→L.Pairwise (· < ·)→listed.size=ops.size→(∀i,i∈L↔i<ops.size∧listed.getD i true=false)→
  (∀i m,listed.getD i false=true→((rr [] ops.toList).getD i 0).testBit m=true→listed.getD m false=true)→fZ κ s w g a gk B E.ax→hs E (L.map (r.getD · default)) g s=some (g',s')→
  (∀κ' w' f6,fP κ s w κ' s' w'→fZ κ' s' w' g' f6 gk B E.ax→Q .normal f6 w')→wpAnyIn (yI ro) 0 P .any ops Q fuel listed a w:=by
 simp only[si,bo] at c0;obtain⟨⟨ab,ac⟩,ad⟩:=c0;obtain⟨hlen,ae⟩:=iG ab;have ag:=sj ac;have ai:=qZ ad;have aj:=sl ops.toList [] [] ⟨rfl,fun i m h=>by simp at h⟩;have ak:∀(o:Oper) (e:Edge),e∈o.after→Region.binds .any e=true→e.on∈o0 o:=fun o e he J=>List.mem_map.2 ⟨e,List.mem_filter.2 ⟨by simpa using he,J⟩,rfl⟩
 have al:∀(o:Oper) (n:Nat),n∈o0 o→∃e,e∈o.after∧Region.binds .any e=true∧e.on=n:=fun o n cZ=>by obtain⟨e,he,am⟩:=List.mem_map.1 cZ;obtain⟨ar,aw⟩:=List.mem_filter.1 he;exact⟨e,by simpa using ar,aw,am⟩
 have V:∀(listed:Array Bool) (i:Nat),i<listed.size→listed.getD i true=listed.getD i false:=fun listed i h=>by simp [Array.getD_eq_getD_getElem?,h]
 intro fuel
 induction fuel with
 |zero=>
  intro L listed κ s w g a H fS fi kI M h aV N
  have:L=[]:=jj H;subst this;refine⟨?_,?_⟩
  ·cases O:Region.ready .any ops listed with
   |nil=>rfl
   |cons i l=>
    have bZ:i∈Region.ready .any ops listed:=by rw[O];exact List.mem_cons_self
    obtain⟨ar,o,aw,_⟩:=mem_ready.1 bZ
    have:=(kI i).2 ⟨(Array.getElem?_eq_some_iff.1 aw).1,ar⟩;cases this
  ·simp only[List.map_nil,hs,bt,fb] at aV;obtain⟨rfl,rfl⟩:=aV;exact N κ w a (.refl _ _ _) h
 |succ fuel an=>
  intro L listed κ s w g a H fS fi kI M h aV N;refine⟨fun O=>?_,fun i bZ=>?_⟩
  ·cases L with
   |nil=>simp at H
   |cons i0 l=>
    obtain⟨ar,aw⟩:=(kI i0).1 List.mem_cons_self
    have:i0∈Region.ready .any ops listed:=by
     refine mem_ready.2 ⟨aw,ops[i0],Array.getElem?_eq_getElem ar,fun e he J=>?_⟩;have ao:=ag i0 ops[i0] (by simp [ar]) e.on (ak _ _ he J);rw[bh] at ao;rw[←V listed e.on (by omega)];cases fz:listed.getD e.on true with
     |true=>rfl
     |false=>
      have:=(kI e.on).2 ⟨by omega,fz⟩;rcases List.mem_cons.1 this with q|q
      ·omega
      ·have:=List.rel_of_pairwise_cons fS q;omega
    rw[O] at this;cases this
  ·obtain⟨ar,o,aw,bS⟩:=mem_ready.1 bZ;have I:i<ops.size:=(Array.getElem?_eq_some_iff.1 aw).1;have ap:=(kI i).2 ⟨I,ar⟩;have Y:∀m,((rr [] ops.toList).getD i 0).testBit m=true→listed.getD m false=true:=fun m hm=>by
    obtain⟨o',e,aq,au,A⟩:=aj.2 i m hm
    have:o'=o:=by
     have Z:ops[i]? =some o':=by simpa using aq
     rw[aw] at Z;exact(Option.some.inj Z).symm
    subst this;obtain⟨im,px,rk,Cd⟩:=al _ _ au;have bU:=bS im px rk;rw[Cd] at bU;rcases A with A|A
    ·rw[A];exact bU
    ·exact M e m bU A
   obtain⟨pre,post,rfl⟩:=List.append_of_mem ap;have F:=List.pairwise_append.1 fS;have aa:∀m,m∈pre→m<i:=fun m hm=>F.2.2 m hm i List.mem_cons_self
   have av:∀m,m∈post→i<m:=fun m hm=>List.rel_of_pairwise_cons F.2.1 hm
   have U:∀m,m<ops.size→r[m]? =some (r.getD m default):=fun m hm=>by
    have:m<r.length:=by rw[hlen];simpa using hm
    simp [List.getD_eq_getElem?_getD,this]
   have ay:∀x,x∈pre.map (r.getD · default)→indep x (r.getD i default)=true:=fun x a1=>by
    obtain⟨m,hm,rfl⟩:=List.mem_map.1 a1;have az:=aa m hm;obtain⟨aA,jX⟩:=(kI m).1 (List.mem_append_left _ hm);rcases ai i m _ _ (Nat.zero_le _) az (U m aA) (U i I) with q|q
    ·have:=Y m (by simpa using q);rw[V listed m (by omega),this] at jX;cases jX
    ·exact q
   rw[List.map_append,fc] at aV;have iP:=wF bB _ ay aV;rw[←List.map_append] at iP;simp only[hs] at iP;cases he:jW E (r.getD i default) g s with
   |none=>rw[he] at iP;cases iP
   |some p=>
    obtain⟨v,s1⟩:=p;rw[he] at iP;simp only[fp] at iP;refine pR e1 bB g5 h aw (ae i _ o (U i I) (by simpa using aw)) he fun κ' w' f6 aB aC=>?_
    refine an (pre++post) _ (by simp at H ⊢;omega) (List.pairwise_append.2 ⟨F.1,F.2.1.of_cons,fun x a1 y ez=>F.2.2 x a1 y (List.mem_cons_of_mem _ ez)⟩) (by simp [fi]) (fun j=>?_) (fun j m cL hm=>?_) aC iP
     (fun aD aE aF aG aH=>N aD aE aF (aB.trans aG) aH)
    ·by_cases u:j=i
     ·subst u;constructor
      ·intro hm;rcases List.mem_append.1 hm with q|q
       ·exact absurd (aa j q) (Nat.lt_irrefl _)
       ·exact absurd (av j q) (Nat.lt_irrefl _)
      ·intro hm
       have:=hm.2;simp [Array.getD_eq_getD_getElem?,fi,I] at this
     ·rw[getD_set_ne true (Ne.symm u),←kI j];simp only[List.mem_append,List.mem_cons];constructor
      ·rintro (q|q)
       ·exact .inl q
       ·exact .inr (.inr q)
      ·rintro (q|q|q)
       ·exact .inl q
       ·exact absurd q u
       ·exact .inr q
    ·by_cases u:j=i
     ·subst u;exact getD_set_true (Y m hm)
     ·rw[getD_set_ne false (Ne.symm u)] at cL;exact getD_set_true (M j m cL hm)
theorem y4{κ:bq}{s:ah}{w:World}{ap:e2}{a:Act}{ops:Array Oper}{e:List c3}(c0:jG T gk ops e ops.toList=true)(h:fZ κ s w ap.get a gk B E.ax){fin:e2→ah→ai}{A:af→e2→ah→ai}{r:ai}(bA:r≠.fail)(aV:fO E e ap s fin A=r){Q:Exit→Act→World→Prop}
  (F:∀κ' s' w' eF f6,fP κ s w κ' s' w'→fZ κ' s' w' eF.get f6 gk B E.ax→fin eF s'=r→Q .normal f6 w')(id:Nat):(Code.region id ops false).wpIn (yI ro) 0 P Q a w:=by
 obtain⟨eF,s',ar,aw⟩:=mB bB g5.ov bA e aV;obtain⟨hlen,H⟩:=iG c0;refine wpIn_region (rq e1 bB g5 (List.range ops.size) e (by rw[hlen];simp) (fun j i I cL J=>?_) h ar (fun κ' w' f6 he M=>F κ' s' w' eF f6 he M aw));obtain⟨N,u⟩:=dy.1 cL;rw[List.getElem_range] at u;subst u;have y:j<ops.size:=by simpa using N
 exact⟨ops[j],Array.getElem?_eq_getElem y,H j I _ J (by simp [y])⟩
theorem fZ.drawn{κ:bq}{s:ah}{w:World}{g:Nat→af}{a:Act}(h:fZ κ s w g a gk B E.ax):fZ κ s {w with drawn:=w.drawn+1} g a gk B E.ax∧fP κ s w κ s {w with drawn:=w.drawn+1}:=
 ⟨⟨h.jl.world (.refl _ _) rfl rfl (fun a v e=>h.jl.jb a v e) (fun _ _=>⟨rfl,fun _=>rfl⟩),h.ap,h.defers,h.size,h.ax⟩,
  ⟨.refl _ _,rfl,aC _,rfl,rfl,rfl,fun _ _ _=>rfl,fun _ _ h=>h,fun _ h=>.inl h⟩⟩
theorem CB{κ:bq}{s:ah}{w:World}{ap:e2}{a:Act}{ops:Array Oper}{e:List c3}(hm:P.follows .mixedOrders=true)(c0:si T gk ops e=true)(h:fZ κ s w ap.get a gk B E.ax){fin:e2→ah→ai}{y:af→e2→ah→ai}{r:ai}(bA:r≠.fail)(aV:fO E e ap s fin y=r){Q:Exit→Act→World→Prop}
  (A:∀κ' s' w' eF f6,fP κ s w κ' s' w'→fZ κ' s' w' eF.get f6 gk B E.ax→fin eF s'=r→Q .normal f6 w')(id:Nat):(Code.region id ops true).wpIn (yI ro) 0 P Q a w:=by
 obtain⟨eF,s',ar,aw⟩:=mB bB g5.ov bA e aV;have hlen:=(iG (by simp only[si,bo] at c0;exact c0.1.1)).1;obtain⟨cW,F⟩:=h.drawn e1 bB g5;refine wpIn_region_any hm (F1 e1 bB g5 c0 ops.size (List.range ops.size) _ (by simp) List.pairwise_lt_range (by simp) (fun i=>?_) (fun i m bZ=>?_) cW ?_ (fun κ' w' f6 he H=>A κ' s' w' eF f6 (F.trans he) H aw))
 ·rw[List.mem_range];constructor
  ·intro bZ;exact⟨bZ,by simp [Array.getD_eq_getD_getElem?,bZ]⟩
  ·exact fun bZ=>bZ.1
 ·by_cases u:i<ops.size
  ·simp [Array.getD_eq_getD_getElem?,u] at bZ
  ·simp [Array.getD_eq_getD_getElem?,u] at bZ
 ·have:(List.range ops.size).map (e.getD · default)=e:=by
   apply List.ext_getElem
   ·rw[hlen];simp
   ·intro i J I;simp [List.getD_eq_getElem?_getD,I]
  rw[this];exact ar
end
inductive agl:pw→Exit→Prop
 |norm:agl .norm .normal
 |exit (i:Nat):agl (.exit i) (.exit i)
 |ret:agl .ret .ret
def kL(κ:bq)(s:ah)(w:World)(gk:Nat)(B:Nat)(G:Nat→af)(k:pw→e2→ah→ai)(r:ai):Exit→Act→World→Prop:=fun e f6 w'=>∃x κ' s' eF,agl x e∧fP κ s w κ' s' w'∧fZ κ' s' w' eF.get f6 gk B G∧k x eF s'=r
theorem kL.trans{κ κ':bq}{s s':ah}{w w':World}{gk:Nat}{B:Nat}{G:Nat→af}{k:pw→e2→ah→ai}{r:ai}(he:fP κ s w κ' s' w'){e:Exit}{a:Act}{u:World}(h:kL κ' s' w' gk B G k r e a u):kL κ s w gk B G k r e a u:=by obtain⟨x,y,A,eF,ar,aw,bS,dB⟩:=h;exact⟨x,y,A,eF,ar,he.trans aw,bS,dB⟩
theorem hP.ext{l:Nat}{κ κ':bq}{s s':ah}{w w':World}(h:hP l κ s w κ' s' w')(bU:w'.heap[l]? =w.heap[l]?):fP κ s w κ' s' w':=
 ⟨h.k,h.aa,h.size,h.os,h.tape,h.output,fun b r cZ=>by
  by_cases e:b=l
  ·rw[e,bU]
  ·exact h.lq b r e cZ,h.live,h.pH⟩
theorem hP.sm{l:Nat}{κ κ':bq}{s s':ah}{w w':World}(h:hP l κ s w κ' s' w')(bU:w.heap.size≤l):fP κ s w κ' s' w':=
 ⟨h.k,h.aa,h.size,h.os,h.tape,h.output,fun b e cZ=>h.lq b e (by omega) cZ,h.live,h.pH⟩
theorem hP.put{κ:bq}{s:ah}{w:World}(l:Nat)(o:Obj):hP l κ s w κ s (w.putObj l o):=
 ⟨.refl _ _,rfl,Nat.le_of_eq World.putObj_size.symm,rfl,rfl,rfl,fun b _ cZ _=>World.putObj_heap_other cZ,fun _ _ h=>h,fun _ h=>.inl h⟩
theorem db.heap{κ:bq}{s:ah}{w w':World}(ba:db κ s w)(h:∀(r:Nat) (o:Obj),w.heap[r]? =some o→((∃C e jA,o=.cells C e jA)∨∃fD clock,o=.map fD clock)→w'.heap[r]? =some o):db κ s w':=by
 refine ba.world (.refl _ _) rfl rfl (fun a v e=>?_) (fun b u=>⟨?_,fun _=>rfl⟩)
 ·obtain⟨ar,aw⟩:=ba.jb a v e;refine⟨ar,?_⟩;unfold World.cell? at aw ⊢;split at aw
  ·rename_i c im jA a0;rw[h _ _ a0 (.inl ⟨_,_,_,rfl⟩)];exact aw
  ·cases aw
 ·rcases ba.mP u with⟨C,e,jA,ar⟩|⟨fD,clock,ar⟩
  ·rw[ar,h _ _ ar (.inl ⟨_,_,_,rfl⟩)]
  ·rw[ar,h _ _ ar (.inr ⟨_,_,rfl⟩)]
theorem db.put{κ:bq}{s:ah}{w:World}(ba:db κ s w){l:Nat}{r:Loop}(bU:w.heap[l]? =some (.loop r))(o:Obj):db κ s (w.putObj l o):=
 ba.heap fun b o' ar aw=>by
  rw[World.putObj_heap_other,ar]
  rintro rfl
  rw[bU] at ar;cases ar;rcases aw with⟨C,e,jA,aw⟩|⟨fD,clock,aw⟩<;> cases aw
theorem db.oy{κ:bq}{s:ah}{w:World}(ba:db κ s w){l:Nat}{r:Loop}(bU:w.heap[l]? =some (.loop r)):¬Live κ s l:=fun h=>by rcases ba.mP h with⟨C,e,jA,u⟩|⟨fD,clock,u⟩<;> rw[bU] at u<;> cases u
theorem db.zk{κ:bq}{s:ah}{w:World}(ba:db κ s w){l:Nat}{r:Option (List Deferred)}(bU:w.heap[l]? =some (.deferred r)):¬Live κ s l:=fun h=>by rcases ba.mP h with⟨C,e,jA,u⟩|⟨fD,clock,u⟩<;> rw[bU] at u<;> cases u
theorem World.lz(w:World)(o:Obj)(k:Nat)(h:k<w.heap.size):(w.alloc o).heap[k]? =w.heap[k]?:=by show(w.heap.push o)[k]? =_;rw[Array.getElem?_push,if_neg (by omega)]
theorem db.alloc{κ:bq}{s:ah}{w:World}(ba:db κ s w)(o:Obj):db κ s (w.alloc o):=
 ba.heap fun b o' ar _=>by rw[World.lz w o b (Array.getElem?_eq_some_iff.1 ar).1,ar]
theorem fP.alloc(κ:bq)(s:ah)(w:World)(o:Obj):fP κ s w κ s (w.alloc o):=
 ⟨.refl _ _,rfl,by rw[World.size_alloc];omega,rfl,rfl,rfl,fun b e _=>World.lz w o b e,fun _ _ h=>h,fun _ h=>.inl h⟩
section
variable{P:Program}{gk:Nat}{B:Nat}{E:Env}
def OB(p gk:Nat)(er:Array Tmp):Bool:=match er.toList with
 |[q]=>Nat.beq p q&&Nat.blt p gk
 |_=>false
def OC(P:Program)(gk:Nat)(E:Env)(ro:Option Nat)(c:ad)(code:Code):Prop:=∀{κ:bq} {s:ah} {w:World} {ap:e2} {a:Act} {B:Nat} {k:pw→e2→ah→ai} {r:ai},r≠.fail→fZ κ s w ap.get a gk B E.ax→exec E c ap s k=r→code.wpIn (yI ro) 0 P (kL κ s w gk B E.ax k r) a w
theorem mf{step:af→ah→(pw→ah→ai)→ai}{hN:ah}{dM:List af}{x:af}{xs:List af}{s:ah}{k:pw→ah→ai}:fY step hN dM (x::xs) s k=step x s fun e s=>match e with
  |.norm=>bif dM.all (fu hN s) then fY step hN dM xs s k else .fail
  |e=>k e s:=rfl
theorem AF{j f p:Nat}{g:bN}{x y:ad}{g':Operand}{er:Array Tmp}{au av:Code}(aH:Co P f j)(b2:cQ g g'=true)(O:OB p gk er=true)(a1:∀l,OC P gk E (some l) x au)(ez:∀l,OC P gk E (some l) y av)
  {κ:bq}{s:ah}{w:World}{ap:e2}{a:Act}{k:pw→e2→ah→ai}{r:ai}(bA:r≠.fail)(h:fZ κ s w ap.get a gk B E.ax)(aV:exec E (.range j f g p x y) ap s k=r):
  (Code.rangeFunc g' er au av).wpIn (yI none) 0 P (kL κ s w gk B E.ax k r) a w:=by
 simp only[exec] at aV;have aT:=bF h.ap h.ax b2;unfold ms at aV;split at aV
 ·rename_i yp dM bb;rw[bb] at aT;cases U:Nat.beq f yp with
  |false=>rw[U] at aV;exact absurd aV.symm bA
  |true=>
  rw[U] at aV;simp only[bD] at aV;have bc:=dq U;subst bc;split at aV
  ·rename_i xs gv;obtain⟨dz,bd,be⟩:=dK.vo (cs:=dM) aT;obtain⟨bf,bB⟩:er= #[p]∧p<gk:=by
    unfold OB at O;split at O
    ·rename_i q fz;simp only[bo] at O;have ar:=dq O.1;have aw:=O.2;rw[Nat.blt_eq] at aw;subst ar;exact⟨by rw[←Array.toArray_toList (xs:=er),fz],aw⟩
    ·cases O
   subst bf;obtain⟨⟨aU,bg,aW,bh⟩,aH⟩:=aH;refine wpIn_rangeFunc ?_;intro fn bC;obtain⟨rec,H⟩:∃rec:LoopState→Option Code→Loop,rec=fun gE V=>{state:=gE,pending:=V,fn,tmps:=a.tmps,params:= #[p],assign:=au,body:=av,defers:=w.heap.size}:=⟨_,rfl⟩
   obtain⟨A,ae⟩:∃A,(w.alloc (.deferred (some []))).alloc (.loop (rec .ready none))=A:=⟨_,rfl⟩;obtain⟨l,bU⟩:∃l,l=w.heap.size+1:=⟨_,rfl⟩;have I:A.heap[l]? =some (.loop (rec .ready none)):=by rw[←ae,bU];have:=World.alloc_heap_new (w.alloc (.deferred (some []))) (.loop (rec .ready none));rwa [World.size_alloc] at this
   have aI:A.heap[w.heap.size]? =some (.deferred (some [])):=by rw[←ae];exact(World.lz _ _ _ (by simp)).trans (World.alloc_heap_new w _)
   have ay:fP κ s w κ s A:=by rw[←ae];exact(fP.alloc _ _ _ _).trans (fP.alloc _ _ _ _)
   have ag:db κ s A:=by rw[←ae];exact(h.jl.alloc _).alloc _
   refine⟨w.heap.size+1,[{target:=.collected w.heap.size,args:= #[]}],A,{target:=.fn (.func f) dz.toArray,args:= #[.func (.yield (w.heap.size+1)) #[] #[]]},A,f,
    #[.func (.yield (w.heap.size+1)) #[] #[]]++dz.toArray,A,?_,?_,fun _ _=>trivial,?_,fun bi=>(by cases bi),?_⟩
   ·rw[←ae,H];exact run_enterLoop_outer _ _ _ _ _
   ·simp only[resolve,bd];simp [go_sem]
   ·have bj:¬aU.name= "runtime.NumGoroutine" :=by simpa using bh
    cases U:aU.body with
    |none=>rw[U] at aW;cases aW
    |some c=>simp [invoke,go_sem,callFunc,bg,bj,U]
   ·rw[←bU];obtain⟨step,aX⟩:∃step:af→ah→(pw→ah→ai)→ai,step=fun kT s l9=>jx ap (some p) kT fun eF=>exec E x eF s (FJ (exec E y) fun u _ s=>l9 u s):=⟨_,rfl⟩
    obtain⟨eG,aY⟩:∃eG:pw→ah→ai,eG=fun u s=>k u ap s:=⟨_,rfl⟩
    rw[←aX,←aY] at aV;refine(aH dM xs κ s A dz l gv ag be (Array.getElem?_eq_some_iff.1 I).1 (ag.oy I) (fun o aj=>by rw[I] at aj;cases aj;rfl)
     (fun i s'=>fY step s dM (xs.drop i) s' eG=r) (fun s' o=>∃(u:pw) (c:Code),eG u s'=r∧o=some (.loop (rec .done (some c)))∧((∃i,u=.exit i∧c=.exit i)∨(u=.ret∧c=.ret))) aV ?_).mono ?_
    ·
     intro i aZ pL κ' s' w' bZ he J ak bE bX;have bk:xs.drop i=aZ::xs.drop (i+1):=by obtain⟨ar,aw⟩:=dy.1 bZ;rw[iy ar,aw]
     rw[bk,mf] at ak;obtain⟨az,aA⟩:∃az:pw→ah→ai,az=fun u aJ=>match u with
      |.norm=>bif dM.all (fu s aJ) then fY step s dM (xs.drop (i+1)) aJ eG else .fail
      |u=>eG u aJ:=⟨_,rfl⟩
     have al:step aZ s' az=r:=by rw[aA];exact ak
     rw[aX] at al;simp only at al;obtain⟨eF,bl,bm⟩:=pQ al bA;have F:w'.heap[l]? =some (.loop (rec .ready none)):=by rw[he.lq l (Array.getElem?_eq_some_iff.1 I).1 (ag.oy I)];exact I
     have a2:=run_yield (P:=P) (args:= #[pL]) F (by rw[H];rfl);rw[H] at a2;refine⟨fn,_,au,av,a2,roundIn_of_wpIn trivial ?_⟩;have fi:a.tmps.size=gk:=h.size;have bn:fZ κ' s' w' eF.get {tmps:=((#[p]:Array Tmp).zip #[pL]).foldl (fun tmps x=>tmps.setIfInBounds x.1 x.2) a.tmps,defers:=[]} gk w'.heap.size E.ax:=by
      refine⟨J,fun t=>?_,Marks.nil (aC _),by simp [fi],h.ax.mono (ay.trans he).k⟩;rw[bm];simp only[cT];have fS:p<a.tmps.size:=by omega
      by_cases eo:t=p
      ·subst eo;rw[if_pos rfl,bX.lO];simp only[List.zip_toArray,List.zip_cons_cons,List.zip_nil_right,List.foldl_toArray',List.foldl_cons,List.foldl_nil,Array.getD_eq_getD_getElem?,Array.getElem?_setIfInBounds_self_of_lt fS,Option.getD_some];exact bX
      ·rw[if_neg eo]
       have:=(h.ap.ext (ay.trans he)) t;simp only[List.zip_toArray,List.zip_cons_cons,List.zip_nil_right,List.foldl_toArray',List.foldl_cons,List.foldl_nil,Array.getD_eq_getD_getElem?,Array.getElem?_setIfInBounds_ne (Ne.symm eo)] at this ⊢;exact this
     refine wpIn_mono (a1 l bA bn bl) ?_
     rintro e a3 aK ⟨u,aB,s1,a4,aL,a5,am,aM⟩
     cases aL with
     |exit i=>exact absurd aM.symm bA
     |ret=>exact absurd aM.symm bA
     |norm=>
      have aD:aK.heap[l]? =some (.loop (rec .ready none)):=by rw[a5.lq l (Array.getElem?_eq_some_iff.1 F).1 (J.oy F)];exact F
      obtain⟨M,Y⟩:∃M,aK.putObj l (.loop {rec .ready none with state:=.busy})=M:=⟨_,rfl⟩;refine⟨M,by rw[←Y];exact run_beginRound aD (by rw[H]),?_⟩;have bp:hP l aB s1 aK aB s1 M:=by rw[←Y];exact .put _ _
      have aN:M.heap[l]? =some (.loop {rec .ready none with state:=.busy}):=by rw[←Y];exact World.putObj_heap_same (Array.getElem?_eq_some_iff.1 aD).1
      have a6:db aB s1 M:=by rw[←Y];exact am.jl.put aD _
      have br:Marks w'.heap.size M a3.defers:=by
       obtain⟨aE,pq,an,aF,Z⟩:=am.defers;refine⟨by rw[←Y,World.putObj_size];exact aE,pq,an,aF,fun D N=>⟨(Z D N).1,?_⟩⟩;rw[←Y,World.putObj_heap_other,(Z D N).2]
       rintro rfl
       have:=(Z D N).2;rw[aD] at this;cases this
      have bs:fZ aB s1 M a4.get a3 gk w'.heap.size E.ax:=⟨a6,am.ap,br,am.size,am.ax⟩;have bt:exec E y a4 s1 (fun u _ s=>az u s)=r:=aM;refine wpIn_mono (ez l bA bs bt) ?_
      rintro e bG ao ⟨u,aG,s2,bH,aL,a7,aO,aa⟩
      have aq:ao.heap[l]? =some (.loop {rec .ready none with state:=.busy}):=by rw[a7.lq l (Array.getElem?_eq_some_iff.1 aN).1 (a6.oy aN)];exact aN
      have aP:hP l κ' s' w' aG s2 ao:=(a5.x.trans bp).trans a7.x;have fin:∀ab:Option Code,(Instr.endRound l ab).run P ao=.ok (.bool ab.isNone) (ao.putObj l (.loop (rec (if ab.isNone then .ready else .done) ab))):=fun ab=>by have:=run_endRound (P:=P) ab aq;rw[H] at this ⊢;exact this
      have aQ:∀o,(ao.putObj l o).heap[l]? =some o:=fun o=>World.putObj_heap_same (Array.getElem?_eq_some_iff.1 aq).1
      cases aL with
      |norm=>
       refine⟨_,_,fin none,.inl ⟨rfl,aG,s2,(aP.trans (.put l _)).ext ?_,aO.jl.put aq _,?_⟩⟩
       ·rw[aQ,F];rfl
       ·rw[aA] at aa;obtain⟨ar,aw⟩:=c9 aa bA;exact⟨aw,ar⟩
      |exit i=>refine⟨_,_,fin (some (.exit i)),.inr ⟨rfl,aG,s2,aP.trans (.put l _),aO.jl.put aq _,.exit i,.exit i,?_,aQ _,.inl ⟨i,rfl,rfl⟩⟩⟩;rw[aA] at aa;exact aa
      |ret=>refine⟨_,_,fin (some .ret),.inr ⟨rfl,aG,s2,aP.trans (.put l _),aO.jl.put aq _,.ret,.ret,?_,aQ _,.inr ⟨rfl,rfl⟩⟩⟩;rw[aA] at aa;exact aa
    ·
     have out:∀(κ':bq) (s':ah) (w':World) (gE:LoopState) (V:Option Code),hP l κ s A κ' s' w'→db κ' s' w'→w'.heap[l]? =some (.loop (rec gE V))→∀u:pw,eG u s'=r→
       ∃ac,ac=w'.putObj l (.loop {rec gE V with state:=.exhausted})∧∀e,agl u e→kL κ s w gk B E.ax k r e {a with defers:={target:=.collected w.heap.size,args:= #[]}::a.defers} ac:=fun κ' s' w' gE V lg J F u cK=>by
      refine⟨_,rfl,fun e bu=>⟨u,κ',s',ap,bu,?_,?_,by rw[aY] at cK;exact cK⟩⟩
      ·exact((ay.x.trans lg).trans (.put l _)).sm (by omega)
      ·have aR:fP κ s w κ' s' (w'.putObj l (.loop {rec gE V with state:=.exhausted})):=((ay.x.trans lg).trans (.put l _)).sm (by omega);refine⟨J.put F _,h.ap.ext aR,?_,h.size,h.ax.mono aR.k⟩;obtain⟨aE,pq,an,aF,Z⟩:=h.defers.ext h.jl aR;refine⟨aE,w.heap.size::pq,by simp only[fc,an],List.nodup_cons.2 ⟨fun hm=>?_,aF⟩,fun D N=>?_⟩
       ·obtain⟨bv,a8,a9,bw,ba⟩:=h.defers;have bx:a8=pq:=by
         have:=a9.symm.trans an;clear aE an aF Z bv a9 bw ba hm
         induction a8 generalizing pq with
         |nil=>cases pq with
          |nil=>rfl
          |cons _ _=>cases this
         |cons d iE bz=>cases pq with
          |nil=>cases this
          |cons gg bI=>simp only[fc,List.cons.injEq,Deferred.mk.injEq,Target.collected.injEq,and_true] at this;rw[this.1,bz _ this.2]
        have:=(ba _ (bx ▸ hm)).2
        have:=(Array.getElem?_eq_some_iff.1 this).1;omega
       ·rcases List.mem_cons.1 N with rfl |N
        ·refine⟨h.defers.1,?_⟩;rw[World.putObj_heap_other (by omega),lg.lq _ (Array.getElem?_eq_some_iff.1 aI).1 (by omega) (ag.zk aI)];exact aI
        ·exact Z D N
     rintro e w' ⟨⟨v,rfl⟩,(⟨κ',s',he,J,ak⟩|⟨κ',s',lg,J,u,c,cK,aj,a0⟩)⟩
     ·have F:w'.heap[l]? =some (.loop (rec .ready none)):=by rw[he.lq l (Array.getElem?_eq_some_iff.1 I).1 (ag.oy I)];exact I
      have al:eG .norm s'=r:=by rw[List.drop_length] at ak;exact ak
      obtain⟨ac,aS,dB⟩:=out κ' s' w' .ready none he.x J F .norm al;refine⟨none,ac,?_,dB _ .norm⟩
      have:=run_endLoop (P:=P) F (by rw[H];simp);rw[this,aS,H]
     ·obtain⟨ac,aS,dB⟩:=out κ' s' w' .done (some c) lg J aj u cK;refine⟨some c,ac,?_,?_⟩
      ·have:=run_endLoop (P:=P) aj (by rw[H];simp);rw[this,aS,H]
      ·rcases a0 with⟨i,rfl,rfl⟩|⟨rfl,rfl⟩
       ·exact wpIn_exit (dB _ (.exit i))
       ·exact wpIn_ret (dB _ .ret)
  ·exact absurd aV.symm bA
 ·exact absurd aV.symm bA
end
def dv(T:lj)(gk:Nat)(rd:Bool):ad→Code→Bool
 |.skip,.skip=>true
 |.skip,.label _=>true
 |.region none e,.region _ ops false=>jG T gk ops e ops.toList
 |.region (some []) e,.region _ ops true=>si T gk ops e
 |.seq a b,.seq x y=>dv T gk rd a x&&dv T gk rd b y
 |.mask _ a,c=>dv T gk rd a c
 |.cond c a b,.cond oK x y=>cQ c oK&&dv T gk rd a x&&dv T gk rd b y
 |.block i a,.block j x=>Nat.beq i j&&dv T gk rd a x
 |.loop _ a,.loop x=>dv T gk rd a x
 |.exit i,.exit j=>Nat.beq i j
 |.scope a,.scope x=> !rd&&dv T gk rd a x
 |.ret,.ret=>true
 |.range j f g p a b,.rangeFunc g' er x y=> !rd&&T.FT f j&&cQ g g'&&OB p gk er&&dv T gk true a x&&dv T gk true b y
 |_,_=>false
theorem ih:∀(m:gd) (k:e2→ai) (ap:e2),∃eF,e2.j6 m k ap=k eF∧∀t,eF.get t=ap.get t∨eF.get t=.dead
 |.e,k,ap=>⟨.e,by cases ap<;> rfl,fun t=>.inr rfl⟩
 |.n A b u,k,.e=>by
  obtain⟨l',dn,ar⟩:=ih A (fun l=>e2.j6 u (fun r=>k (.n l .dead r)) .e) .e;obtain⟨y,B,aw⟩:=ih u (fun r=>k (.n l' .dead r)) .e;refine⟨.n l' .dead y,by simp only[e2.j6];rw[dn];exact B,fun t=>.inr ?_⟩;have F:∀t,l'.get t=.dead:=fun t=>(ar t).elim (fun h=>h) id
  have H:∀t,y.get t=.dead:=fun t=>(aw t).elim (fun h=>h) id
  simp only[e2.get,F,H];cases Nat.beq t 0<;> cases Nat.beq (t%2) 1<;> rfl
 |.n A b u,k,.n l v r=>by
  obtain⟨l',dn,ar⟩:=ih A (fun l=>e2.j6 u (fun r=>k (.n l (bif b then v else .dead) r)) r) l;obtain⟨y,B,aw⟩:=ih u (fun r=>k (.n l' (bif b then v else .dead) r)) r;refine⟨.n l' (bif b then v else .dead) y,by simp only[e2.j6];rw[dn];exact B,fun t=>?_⟩;simp only[e2.get];cases Nat.beq t 0 with
  |true=>cases b<;> simp
  |false=>
   simp only[cond_false];cases Nat.beq (t%2) 1 with
   |true=>exact ar _
   |false=>exact aw _
theorem rs{m:gd}{k:e2→ai}{ap:e2}{r:ai}(h:e2.j6 m k ap=r):∃eF,k eF=r∧∀t,eF.get t=ap.get t∨eF.get t=.dead:=by obtain⟨eF,e,b2⟩:=ih m k ap;exact⟨eF,e.symm.trans h,b2⟩
theorem pS{F:Fence}{B:Nat}{P:Program}{c:Code}{Q:Exit→Act→World→Prop}(J:Nat→Act→World→Prop)(round:∀n a w,J n a w→c.wpIn F B P (Exit.then (fun f6 w'=>∃m,m<n∧J m f6 w') Q) a w){n:Nat}{a:Act}{w:World}(h:J n a w):(Code.loop c).wpIn F B P Q a w:=by
 intro b k cs H A aV;have key:∀n a w,J n a w→∃e f6 w',Q e f6 w'∧ArrivesIn (Machine.fenced P F) P (lone (b.atR a (.code c:: .inLoop c::k)) cs w) b k cs e f6 w':=by
  intro n
  induction n using Nat.strongRecOn with
  |_ n I=>
   intro a w M;obtain⟨e,u,y,fz,r⟩:=round n a w M b (.inLoop c::k) cs H A aV;cases e with
   |normal=>obtain⟨m,N,O⟩:=fz;obtain⟨U,V,Y,Z,aa⟩:=I m N u y O;exact⟨U,V,Y,Z,.of_steps (StepsIn.trans r (.one (fenced_calm A aV rfl) stepR_inLoop)) aa⟩
   |exit id=>exact⟨_,u,y,fz,.pass (x:=.inLoop c) rfl (fun _ _=>.inl (by simp)) r⟩
   |goto l=>exact⟨_,u,y,fz,.pass (x:=.inLoop c) rfl (fun _ _=>.inl (by simp)) r⟩
   |ret=>exact⟨_,u,y,fz,.pass (x:=.inLoop c) rfl (fun _ _=>.inl (by simp)) r⟩
   |panic abc=>exact⟨_,u,y,fz,.pass (x:=.inLoop c) rfl (fun _ _=>.inl (by simp)) r⟩
   |outgrown=>exact⟨_,u,y,fz,.pass (x:=.inLoop c) rfl (fun _ _=>.inl (by simp)) r⟩
 obtain⟨e,f6,w',fz,r⟩:=key n a w h;exact⟨e,f6,w',fz,.of_steps (.one (fenced_calm A aV rfl) stepR_loop) r⟩
section
variable{P:Program}(hm:P.follows .mixedOrders=true){gk:Nat}{T:lj}(e1:T.qv P){E:Env}(bB:E.F=.not)(g5:nK P E)
include hm e1 bB g5
theorem uv:∀(c:ad) (code:Code) {rd:Bool} {ro:Option Nat},(ro=none↔rd=false)→dv T gk rd c code=true→∀{κ:bq} {s:ah} {w:World} {ap:e2} {a:Act} {B:Nat} {k:pw→e2→ah→ai} {r:ai},r≠.fail→fZ κ s w ap.get a gk B E.ax→exec E c ap s k=r→code.wpIn (yI ro) 0 P (kL κ s w gk B E.ax k r) a w:=by
 intro c
 induction c with
 |skip=>
  intro code rd ro A c0 κ s w ap a B k r bA h aV;cases code<;> simp only[dv,b5] at c0
  ·exact wpIn_skip ⟨.norm,κ,s,ap,.norm,.refl _ _ _,h,aV⟩
  ·exact wpIn_label ⟨.norm,κ,s,ap,.norm,.refl _ _ _,h,aV⟩
 |region n3 av=>
  intro code rd ro A c0 κ s w ap a B k r bA h aV;cases code with
  |region id ops d=>
   cases n3 with
   |none=>
    cases d with
    |true=>simp [dv] at c0
    |false=>simp only[dv] at c0;simp only[exec] at aV;exact y4 e1 bB g5 c0 h bA aV (fun κ' s' w' eF f6 he u cK=>⟨.norm,κ',s',eF,.norm,he,u,cK⟩) id
   |some n3=>
    cases n3 with
    |cons x l=>simp [dv] at c0
    |nil=>
     cases d with
     |false=>simp [dv] at c0
     |true=>simp only[dv] at c0;simp only[exec,List.all_nil,bD] at aV;exact CB e1 bB g5 hm c0 h bA aV (fun κ' s' w' eF f6 he u cK=>⟨.norm,κ',s',eF,.norm,he,u,cK⟩) id
  |_=>cases n3<;> simp [dv] at c0
 |seq x y I J=>
  intro code rd ro A c0 κ s w ap a B k r bA h aV;cases code<;> simp only[dv,b5,bo] at c0;simp only[exec] at aV;refine wpIn_seq (wpIn_mono (I _ A c0.1 bA h aV) fun e f6 w' fS=>?_);obtain⟨z,κ',s',eF,gA,he,u,cK⟩:=fS;cases gA with
  |norm=>exact wpIn_mono (J _ A c0.2 bA u cK) fun e ac ae fS=>fS.trans he
  |exit i=>exact⟨.exit i,κ',s',eF,.exit i,he,u,cK⟩
  |ret=>exact⟨.ret,κ',s',eF,.ret,he,u,cK⟩
 |mask m x F=>
  intro code rd ro A c0 κ s w ap a B k r bA h aV;have af:dv T gk rd x code=true:=by simpa only[dv] using c0
  simp only[exec] at aV;obtain⟨H,bU,M⟩:=rs aV;have ag:fZ κ s w H.get a gk B E.ax:=⟨h.jl,fun t=>by
   rcases M t with q|q
   ·rw[q];exact h.ap t
   ·rw[q];exact .dead _,h.defers,h.size,h.ax⟩
  exact F code A af bA ag bU
 |cond c x y I J=>
  intro code rd ro A c0 κ s w ap a B k r bA h aV;cases code<;> simp only[dv,b5,bo] at c0;simp only[exec] at aV;have a0:=bF h.ap h.ax c0.1.1;cases bX:au E.ax ap.get c<;> rw[bX] at aV a0<;> simp only at aV<;> first|exact absurd aV.symm bA|skip
  rename_i b;cases b with
  |true=>exact wpIn_cond_true (dK.ho (b:=true) a0) (I _ A c0.1.2 bA h aV)
  |false=>exact wpIn_cond_false (dK.ho (b:=false) a0) (J _ A c0.2 bA h aV)
 |block id c F=>
  intro code rd ro A c0 κ s w ap a B k r bA h aV;cases code<;> simp only[dv,b5,bo] at c0;have e:=dq c0.1;subst e;simp only[exec] at aV;refine wpIn_block (wpIn_mono (F _ A c0.2 bA h aV) fun e f6 w' fS=>?_);obtain⟨z,κ',s',eF,gA,he,u,cK⟩:=fS;cases gA with
  |norm=>exact⟨.norm,κ',s',eF,.norm,he,u,cK⟩
  |exit i=>
   simp only[Exit.inBlock];simp only[dN] at cK;split
   ·rename_i bZ;rw[bZ,e7,bD] at cK;exact⟨.norm,κ',s',eF,.norm,he,u,cK⟩
   ·rename_i bZ;rw[show Nat.beq i id=false from by cases aj:Nat.beq i id with
     |false=>rfl
     |true=>exact absurd (dq aj) bZ,cond_false] at cK
    exact⟨.exit i,κ',s',eF,.exit i,he,u,cK⟩
  |ret=>exact⟨.ret,κ',s',eF,.ret,he,u,cK⟩
 |loop b3 c F=>
  intro code rd ro A c0 κ s w ap a B k r bA h aV;cases code<;> simp only[dv,b5] at c0;simp only[exec] at aV;have masked:∀{κ':bq} {s':ah} {w':World} {eF H:e2} {f6:Act},fZ κ' s' w' eF.get f6 gk B E.ax→(∀t,H.get t=eF.get t∨H.get t=.dead)→fZ κ' s' w' H.get f6 gk B E.ax:=fun u M=>⟨u.jl,fun t=>by
   rcases M t with q|q
   ·rw[q];exact u.ap t
   ·rw[q];exact .dead _,u.defers,u.size,u.ax⟩
  obtain⟨ak,aa,al⟩:=rs aV;obtain⟨N,nz⟩:=g5.loop;rw[nz] at aa;refine pS (fun n f6 w'=>∃κ' s' eF,fP κ s w κ' s' w'∧fZ κ' s' w' eF.get f6 gk B E.ax∧dX (exec E c) b3 n eF s' k=r) (fun n f6 w' am=>?_) ⟨κ,s,ak,.refl _ _ _,masked h al,aa⟩;obtain⟨κ',s',eF,he,u,bU⟩:=am;cases n with
  |zero=>exact absurd bU.symm bA
  |succ n=>
   simp only[dX] at bU;refine wpIn_mono (F _ A c0 bA u bU) fun e ac ae fS=>?_
   obtain⟨z,O,U,ab,gA,V,Y,cK⟩:=fS;cases gA with
   |norm=>simp only[eI] at cK;obtain⟨H,an,ao⟩:=rs cK;exact⟨n,Nat.lt_succ_self n,O,U,H,he.trans V,masked Y ao,an⟩
   |exit i=>exact⟨.exit i,O,U,ab,.exit i,he.trans V,Y,cK⟩
   |ret=>exact⟨.ret,O,U,ab,.ret,he.trans V,Y,cK⟩
 |exit id=>intro code rd ro A c0 κ s w ap a B k r bA h aV;cases code<;> simp only[dv,b5] at c0;have e:=dq c0;subst e;exact wpIn_exit ⟨.exit id,κ,s,ap,.exit id,.refl _ _ _,h,aV⟩
 |scope c F=>
  intro code rd ro A c0 κ s w ap a B k r bA h aV;cases code<;> simp only[dv,b5,bo,Bool.not_eq_true'] at c0;obtain⟨Z,c0⟩:=c0;obtain rfl:=A.2 Z;simp only[exec] at aV;refine wpIn_wide.2 (wp_scope_straight (wpIn_wide.1 (wpIn_mono (F _ A c0 bA h aV) fun e f6 w' fS=>?_)));obtain⟨z,κ',s',eF,gA,he,u,cK⟩:=fS;cases gA with
  |norm=>exact⟨.norm,κ',s',eF,.norm,he,u,cK⟩
  |exit i=>exact⟨.exit i,κ',s',eF,.exit i,he,u,cK⟩
  |ret=>exact⟨.ret,κ',s',eF,.ret,he,u,cK⟩
 |range j f g p x y I J=>intro code rd ro A c0 κ s w ap a B k r bA h aV;cases code<;> simp only[dv,b5,bo,Bool.not_eq_true'] at c0;obtain⟨⟨⟨⟨⟨Z,ar⟩,aw⟩,bS⟩,dB⟩,aq⟩:=c0;obtain rfl:=A.2 Z;exact AF (e1.FT _ _ ar) aw bS (fun l=>I _ (by simp) dB) (fun l=>J _ (by simp) aq) bA h aV
 |ret=>intro code rd ro A c0 κ s w ap a B k r bA h aV;cases code<;> simp only[dv,b5] at c0;exact wpIn_ret ⟨.ret,κ,s,ap,.ret,.refl _ _ _,h,aV⟩
end
def jH(r:ai):Prop:=∀v s,r≠.panic v s
theorem jH.bind{r:ai}{k kp:af→ah→ai}(ar:∀v s,jH (k v s))(aw:∀v s,jH (kp v s)):jH (ai.bind r k kp):=by
 cases r with
 |fail=>intro v s h;cases h
 |ok v s=>exact ar v s
 |panic v s=>exact aw v s
theorem jH.fail:jH .fail:=fun _ _ h=>by cases h
theorem jH.ju:∀(d n:Nat) (v:af) (k:e2→ai) (ap:e2),(∀ap,jH (k ap))→jH (e2.ju d n v k ap)
 |0,n,v,k,ap,h=>jH.fail
 |d+1,n,v,k,.e,h=>by
  simp only[e2.ju];cases Nat.beq n 0
  ·cases Nat.beq (n%2) 1
   ·exact jH.ju d _ v _ _ (fun _=>h _)
   ·exact jH.ju d _ v _ _ (fun _=>h _)
  ·exact h _
 |d+1,n,v,k,.n l x r,h=>by
  simp only[e2.ju];cases Nat.beq n 0
  ·cases Nat.beq (n%2) 1
   ·exact jH.ju d _ v _ _ (fun _=>h _)
   ·exact jH.ju d _ v _ _ (fun _=>h _)
  ·exact h _
theorem jH.jx{ap:e2}{d:Option Nat}{v:af}{k:e2→ai}(h:∀ap,jH (k ap)):jH (jx ap d v k):=by
 cases d with
 |none=>exact h ap
 |some n=>exact jH.ju 12 n v k ap h
theorem jH.fO{E:Env}(bB:E.F=.not):∀(r:List c3) {ap:e2} {s:ah} {fin:e2→ah→ai} {e:af→e2→ah→ai},(∀ap s,jH (fin ap s))→(∀v ap s,jH (e v ap s))→jH (fO E r ap s fin e)
 |[],_,_,_,_,h,_=>h _ _
 |o::os,ap,s,fin,e,h,fS=>by
  simp only[Ab.fO];have key:∀w:Bool,jH (bif w then aP E ap.get s (fun v s=>Ab.jx ap o.dst v fun ap=>Ab.fO E os ap s fin e) (fun v s=>e v ap s) o.op else Ab.jx ap o.dst (.ed []) fun ap=>Ab.fO E os ap s fin e):=fun w=>by
   cases w with
   |false=>exact jH.jx (fun ap=>jH.fO bB os h fS)
   |true=>simp only[bD];rw[jV bB];exact jH.bind (fun v s=>jH.jx (fun ap=>jH.fO bB os h fS)) (fun v s=>fS _ _ _)
  unfold m0;split
  ·exact key _
  ·split
   ·exact key _
   ·exact key _
   ·exact jH.fail
theorem jH.fY{step:af→ah→(pw→ah→ai)→ai}{hN:ah}{dM:List af}(h:∀x s k,(∀e s,jH (k e s))→jH (step x s k)):∀(xs:List af) {s:ah} {k:pw→ah→ai},(∀e s,jH (k e s))→jH (Ab.fY step hN dM xs s k)
 |[],_,_,cK=>cK _ _
 |x::xs,s,k,cK=>h x s _ fun e s=>by
  cases e with
  |norm=>
   simp only;cases dM.all (fu hN s) with
   |true=>exact jH.fY h xs cK
   |false=>exact jH.fail
  |_=>exact cK _ _
theorem jH.exec{E:Env}(bB:E.F=.not)(A:∃n,∀step b3 ap s k,E.loop step b3 ap s k=dX step b3 n ap s k):∀(c:ad) {ap:e2} {s:ah} {k:pw→e2→ah→ai},(∀x ap s,jH (k x ap s))→jH (exec E c ap s k):=by
 intro c
 induction c with
 |skip=>exact fun h=>h _ _ _
 |region n3 ops=>
  intro ap s k h;cases n3 with
  |none=>exact jH.fO bB ops (fun _ _=>h _ _ _) (fun _ _ _=>jH.fail)
  |some n3=>
   simp only[Ab.exec];cases n3.all (rN E.ax ap.get)
   ·exact jH.fail
   ·exact jH.fO bB ops (fun _ _=>h _ _ _) (fun _ _ _=>jH.fail)
 |seq a b u y=>
  intro ap s k h;simp only[Ab.exec];refine u fun x ap s=>?_
  cases x with
  |norm=>exact y h
  |_=>exact h _ _ _
 |mask m a r=>intro ap s k h;simp only[Ab.exec];obtain⟨eF,e,_⟩:=ih m (fun ap=>Ab.exec E a ap s k) ap;rw[e];exact r h
 |cond c a b u y=>
  intro ap s k h;simp only[Ab.exec];split
  ·rename_i t _;cases t
   ·exact y h
   ·exact u h
  ·exact jH.fail
 |block id c r=>
  intro ap s k h;simp only[Ab.exec];refine r fun x ap s=>?_
  cases x with
  |exit j=>simp only[dN];cases Nat.beq j id<;> exact h _ _ _
  |_=>exact h _ _ _
 |loop b3 c r=>
  intro ap s k h;simp only[Ab.exec];obtain⟨n,cZ⟩:=A;obtain⟨eF,e,a1⟩:=ih b3 (fun ap=>E.loop (Ab.exec E c) b3 ap s k) ap;rw[e];simp only[cZ];clear cZ e a1
  induction n generalizing eF s with
  |zero=>exact jH.fail
  |succ n B=>
   simp only[dX];refine r fun x ap s=>?_
   cases x with
   |norm=>simp only[eI];obtain⟨eF,e,_⟩:=ih b3 (fun ap=>dX (Ab.exec E c) b3 n ap s k) ap;rw[e];exact B (s:=s) (eF:=eF)
   |_=>exact h _ _ _
 |exit id=>exact fun h=>h _ _ _
 |scope c r=>intro ap s k h;simp only[Ab.exec];exact r h
 |ret=>exact fun h=>h _ _ _
 |range j f g p a b u y=>
  intro ap s k h;simp only[Ab.exec];unfold ms;split
  ·cases Nat.beq _ _ with
   |false=>exact jH.fail
   |true=>
    simp only[bD];split
    ·exact jH.fY (fun x s l9 cK=>jH.jx fun ap=>u fun x ap s=>by
      cases x with
      |norm=>exact y (fun _ _ _=>cK _ _)
      |_=>exact jH.fail) _ (fun _ _=>h _ _ _)
    ·exact jH.fail
  ·exact jH.fail
theorem jH.bG:∀(vs:List af) (i:Nat) (ap:e2) (k:e2→ai),(∀ap,jH (k ap))→jH (bG vs i ap k)
 |[],_,ap,_,h=>h ap
 |v::vs,i,ap,k,h=>jH.ju 12 i v _ ap (fun ap=>jH.bG vs (i+1) ap k h)
theorem jH.finish{fn:c8}{ap:e2}{s:ah}:jH (finish .not fn ap s):=by
 intro v s' h;simp only[Ab.finish,a2.not] at h;split at h
 ·split at h
  ·cases h
  ·split at h
   ·split at h<;> cases h
   ·cases h
 ·cases h
theorem jH.call{T:Nat→Option c8}{G:Nat→af}{X:Nat→List af→ah→ai}(lg:∀f args s,jH (X f args s)):∀(n f:Nat) (args:List af) (s:ah),jH (call .not T G X n f args s)
 |0,_,_,_=>jH.fail
 |n+1,f,args,s=>by
  simp only[Ab.call];split
  ·exact lg _ _ _
  ·cases Nat.beq _ _
   ·exact jH.fail
   ·refine jH.bG _ _ _ _ fun ap=>jH.exec rfl ⟨_,fun _ _ _ _ _=>rfl⟩ _ fun x ap s=>?_
    cases x with
    |norm=>exact jH.finish
    |ret=>exact jH.finish
    |_=>exact jH.fail
theorem o1{k:e2→ai}{r:ai}(bA:r≠.fail):∀(vs:List af) (i:Nat) (ap:e2),bG vs i ap k=r→∃eF,k eF=r∧∀t,eF.get t=if i≤t∧t<i+vs.length then vs.getD (t-i) .dead else ap.get t
 |[],i,ap,h=>⟨ap,h,fun t=>by rw[if_neg (by rw[ca];omega)]⟩
 |v::vs,i,ap,h=>by
  obtain⟨A,ar,aw⟩:=kK 12 i v _ ap r h bA;obtain⟨eF,bS,dB⟩:=o1 bA vs (i+1) A ar;refine⟨eF,bS,fun t=>?_⟩;rw[dB t];by_cases eo:t=i
  ·subst eo;rw[if_neg (by omega),aw,if_pos rfl,if_pos (by simp)];simp
  ·by_cases a0:i+1≤t∧t<i+1+vs.length
   ·rw[if_pos a0,if_pos (by simp;omega),show t-i=(t-(i+1))+1 by omega];simp
   ·rw[if_neg a0,aw,if_neg eo,if_neg (by simp;omega)]
theorem lA{α β:Type}{f:α→Option β}:∀{xs:List α} {e:List β},e5 f xs=some e→e.length=xs.length∧∀(j:Nat) (y:β),e[j]? =some y→∃x,xs[j]? =some x∧f x=some y
 |[],e,h=>by simp only[e5,bt] at h;subst h;exact⟨rfl,fun j y cL=>by simp at cL⟩
 |x::xs,e,h=>by
  simp only[e5] at h;cases a1:f x with
  |none=>rw[a1] at h;cases h
  |some y=>
   rw[a1] at h;simp only[fp] at h;cases hm:e5 f xs with
   |none=>rw[hm] at h;cases h
   |some l=>
    rw[hm] at h;simp only[ep,bt] at h;subst h;obtain⟨ar,aw⟩:=lA hm;refine⟨by simp [ar],fun j z cL=>?_⟩;cases j with
    |zero=>simp at cL;subst cL;exact⟨x,rfl,a1⟩
    |succ j=>simpa using aw j z (by simpa using cL)
theorem pT{P:Program}{w:World}{α β:Type}(f:α→Sem β):∀(e:List α) (xs:List β),xs.length=e.length→(∀(j:Nat) (r:α) (x:β),e[j]? =some r→xs[j]? =some x→(f r).run P w=.ok x w)→(e.mapM f).run P w=.ok xs w
 |[],[],_,_=>by simp
 |[],_::_,h,_=>by simp at h
 |_::_,[],h,_=>by simp at h
 |r::e,x::xs,h,cL=>by have ar:=cL 0 r x rfl rfl;have aw:=pT f e xs (by simpa using h) (fun j r x aV a1=>cL (j+1) r x (by simpa using aV) (by simpa using a1));simp [List.mapM_cons,ar,aw]
section
variable{P:Program}{κ:bq}{s:ah}{w:World}
theorem db.gp(ba:db κ s w):∀n,n≤s.own.length→∃κ' s',db κ' s' w∧fP κ s w κ' s' w∧s'.up=s.up∧s'.ro=s.ro∧s'.own.length=s.own.length∧(∀i,n≤i→s'.own[i]? =s.own[i]?)∧κ'.loc=κ.loc∧
  ∀i cs,i<n→s.own[i]? =some (.cells cs)→∃C:Array Value,(∀j (h:j<C.size),κ'.F ⟨κ.loc s.aa i,j,none⟩=some C[j])∧eH κ' (s.aa+1) cs (C.toList.take cs.length)
 |0,_=>⟨κ,s,ba,.refl _ _ _,rfl,rfl,rfl,fun _ _=>rfl,rfl,fun i cs h=>absurd h (Nat.not_lt_zero i)⟩
 |n+1,cZ=>by
  obtain⟨κ',s',ar,aw,bS,dB,I,y,A,J⟩:=ba.gp n (by omega);have cW:s'.aa=s.aa:=aw.aa;by_cases a0:∃cs,s.own[n]? =some (.cells cs)
  ·obtain⟨cs,M⟩:=a0;have b2:s'.get (.g s'.aa n)=some (.cells cs):=by
    simp only[ah.get,↓reduceIte];rw[y n (aC _),M]
   obtain⟨C,e,jA,U,B,N,ls⟩:=ar.vW (s':={s' with own:=s'.own.set n .gone}) b2 (by simp [ah.set]);refine⟨_,_,N,aw.trans ls,bS,dB,by simp [I],fun i bZ=>?_,A,fun i u bZ r=>?_⟩
   ·simp only;rw[ix (by omega),y i (by omega)]
   ·by_cases H:i=n
    ·subst H;rw[M] at r;simp only[bt,b4.cells.injEq] at r;subst r;refine⟨C,fun j cL=>?_,?_⟩
     ·rw[←A,←cW];exact oS (Nat.zero_le _) cL
     ·rw[cW] at B;exact⟨B.1,fun j c x a0 a1=>(B.2 j c x a0 a1).mono (ls.k.low (by omega))⟩
    ·obtain⟨O,px,rk⟩:=J i u (by omega) r;exact⟨O,fun j cL=>ls.k.F _ _ (px j cL),rk.1,fun j c x a0 a1=>(rk.2 j c x a0 a1).mono (ls.k.low (by omega))⟩
  ·refine⟨κ',s',ar,aw,bS,dB,I,fun i bZ=>y i (by omega),A,fun i u bZ r=>?_⟩;by_cases H:i=n
   ·subst H;exact absurd ⟨u,r⟩ a0
   ·exact J i u (by omega) r
theorem y5{D off len cap sz b:Nat}{cs:List af}{C:Array Value}(iC:∀j (h:j<C.size),κ.F ⟨b,j,none⟩=some C[j])(bX:eH κ D cs (C.toList.take cs.length)){mv:Nat}(u6:len≤mv)(py:len=cap→mv=cap)(ar:af.aX (chunk sz len (cs.drop off))=true)(aw:off+len*sz≤cs.length)(gA:sz≠0)(u:Nat):
  dK κ u (.bx sz (chunk sz len (cs.drop off)) (if len=cap then .exact else .any)) (.slice (some ⟨b,off,none⟩) len mv):=by
 obtain⟨A,B⟩:=kY sz gA len (cs.drop off) (by simp;omega);have bU:cs.length≤C.size:=by have:=bX.1;simp at this;omega
 have key:dK κ D (.bx sz (chunk sz len (cs.drop off)) (if len=cap then e0.exact else e0.any)) (.slice (some ⟨b,off,none⟩) (chunk sz len (cs.drop off)).length mv):=by
  refine .bx sz _ _ _ _ (fun j=>C.getD (off+j) undef) ?_ (by rw[fK];exact u6) (fun _=>rfl) B (.inl fun e he=>eA.1 ar e he) (fun j cL=>?_) (fun j c a0=>?_)
  ·by_cases h:len=cap
   ·simp [h,ja,fK,py h]
   ·simp [h,ja]
  ·rw[A] at cL;simp at cL;have r:off+j<C.size:=by omega
   rw[gu rfl];show κ.F ⟨b,off+j,none⟩=_;rw[iC _ r];simp [Array.getD,r]
  ·rw[A,List.getElem?_take] at a0;split at a0
   ·rw[List.getElem?_drop] at a0;obtain⟨y,ez,H⟩:=bX.get a0;have r:off+j<cs.length:=(dy.1 a0).1
    have:C.getD (off+j) undef=y:=by
     rw[List.getElem?_take,if_pos r] at ez;have I:C[off+j]? =some y:=by simpa using ez
     simp [Array.getD_eq_getD_getElem?,I]
    rw[this];exact H
   ·cases a0
 rw[fK] at key;refine key.bb ?_ u (fun _ _ h=>h);split<;> rfl
theorem k2{κ':bq}(cK:hk κ κ' (s.aa+1))(N:∀i cs,s.own[i]? =some (.cells cs)→∃C:Array Value,(∀j (h:j<C.size),κ'.F ⟨κ.loc s.aa i,j,none⟩=some C[j])∧eH κ' (s.aa+1) cs (C.toList.take cs.length)){v f7:af}{x:Value}(bX:dK κ (s.aa+1) (v.ao s.aa) x)(h:fv s v=some f7):dK κ' s.aa f7 x:=by
 have own:∀{i off len cap sz:Nat},dK κ (s.aa+1) (.cH (.g s.aa i) off len cap sz) x→gp s i off len cap sz=some f7→dK κ' s.aa f7 x:=fun {i off len cap sz} bX h=>by
  obtain⟨mv,e,cW,bZ,u6,wk⟩:=bX.km;unfold Ab.gp at h;split at h
  ·rename_i cs O;simp only at h;split at h
   ·rename_i y;simp only[bo,Bool.not_eq_true'] at y;simp only[bt] at h;subst h;obtain⟨C,px,rk⟩:=N i cs O;rw[e];exact y5 px rk u6 (fun h=>by rcases wk with ar|⟨ar,aw,_⟩<;> omega) y.1.1 (d9 y.1.2) (fun eO=>by rw[eO] at y;simp at y) _
   ·cases h
  ·cases h
 have any:∀{sz:Nat} {es:List af} {l:Loc},af.aX es=true→dK κ (s.aa+1) (af.ao s.aa (.bx sz es (.cP l))) x→dK κ' s.aa (.bx sz es .any) x:=fun {sz es l} A bX=>by
  have M:=eA.1 A;simp only[af.ao] at bX;rcases bX.hY with⟨_,aw,_⟩|⟨a,cap,dz,rfl,b2,cZ,I,dB,u,J,B⟩
  ·simp [e0.ao] at aw
  ·refine .bx _ _ _ _ _ dz trivial cZ I dB (.inl M) (fun j cL=>cK.F _ _ (J j cL)) (fun j c a0=>(B j c a0).bb ?_ _ cK.F);obtain⟨e,he,H⟩:=List.mem_flatMap.1 (List.mem_of_getElem? a0);exact iD (M e he) H
 unfold fv at h;split at h
 ·exact own bX h
 ·split at h
  ·rename_i cW;subst cW;exact own bX h
  ·split at h
   ·rename_i r;simp only[bt] at h;subst h;obtain⟨mv,e,cW,bZ,u6,wk⟩:=dK.km bX;rw[e,←cK.loc _ _ cW bZ];exact .cH _ _ _ _ _ _ _ r (gy bZ (cK.n _ cW)) u6 (wk.imp id fun⟨ar,aw,bS,dB⟩=>⟨ar,aw,bS,by rw[cK.loc _ _ cW bZ];exact cK.mb _ _ _ _ cW bZ dB⟩)
   ·cases h
 ·split at h
  ·rename_i r;simp only[bt] at h;subst h;obtain⟨e,cW,bZ⟩:=dK.na bX;rw[e,←cK.loc _ _ cW bZ];exact .ref _ _ _ r (gy bZ (cK.n _ cW))
  ·cases h
 ·split at h
  ·rename_i A;simp only[bt] at h;subst h;exact any A bX
  ·cases h
 ·split at h
  ·rename_i r;simp only[bt] at h;subst h;have bX:dK κ (s.aa+1) (.bx _ _ (.cP (.g _ _))) x:=bX;rcases bX.hY with⟨_,aw,_⟩|⟨a,cap,dz,rfl,b2,cZ,I,dB,u,J,B⟩
   ·cases aw
   ·refine .bx _ _ _ _ _ dz ⟨r,(b2.mono cK).2⟩ cZ I dB u (fun j cL=>cK.F _ _ (J j cL)) (fun j c a0=>?_);obtain⟨e,he,H⟩:=List.mem_flatMap.1 (List.mem_of_getElem? a0);rcases u with u|⟨gg,hZ,im,u⟩
    ·exact(B j c a0).bb (iD (u e he) H) _ cK.F
    ·cases im;exact(((B j c a0).mono cK).lower (vT (u e he) H)).up r
  ·split at h
   ·rename_i A;simp only[bt] at h;subst h;exact any A bX
   ·cases h
 ·split at h
  ·rename_i r;simp only[bt] at h;subst h;have bX:dK κ (s.aa+1) (.map (.g _ _)) x:=bX;cases bX;rename_i cW bZ;rw[←cK.loc _ _ cW bZ];exact .map _ _ r (gy bZ (cK.n _ cW))
  ·cases h
 ·split at h
  ·rename_i aV;simp only[bt] at h;subst h;have bX:dK κ (s.aa+1) (.fn _ _) x:=bX;exact bX.bb (by simpa [af.bb] using aV) _ cK.F
  ·split at h
   ·rename_i aV;simp only[bo,Nat.blt_eq] at aV;simp only[bt] at h;subst h;have bX:dK κ (s.aa+1) (.fn _ _) x:=bX
    have:=((bX.mono cK).lower (d:=s.aa-1) (by simpa [af.low] using aV.2));rw[show s.aa-1+1=s.aa by omega] at this;exact this
   ·cases h
 ·split at h
  ·rename_i aV;simp only[bt] at h;subst h;rw[jT aV] at bX;exact bX.bb aV _ cK.F
  ·cases h
theorem sn{α β:Type}{f:α→Option β}:∀{l m:List α} {l' jU:List β},e5 f l=some l'→e5 f m=some jU→e5 f (l++m)=some (l'++jU)
 |[],m,l',jU,h,e=>by simp only[e5,bt] at h;subst h;exact e
 |x::l,m,l',jU,h,e=>by
  simp only[e5] at h;cases a1:f x with
  |none=>rw[a1] at h;cases h
  |some y=>
   rw[a1,fp] at h;cases bU:e5 f l with
   |none=>rw[bU] at h;cases h
   |some r=>rw[bU] at h;simp only[ep,bt] at h;subst h;simp only[List.cons_append,e5,a1,fp,sn bU e,ep]
theorem wH{v f7:af}(h:fv s v=some f7)(bX:v.cells=[v]):f7.cells=[f7]:=by
 have ap:∀{i off len cap sz:Nat},gp s i off len cap sz=some f7→f7.cells=[f7]:=fun {i off len cap sz} h=>by
  unfold Ab.gp at h;split at h
  ·simp only at h;split at h
   ·simp only[bt] at h;subst h;rfl
   ·cases h
  ·cases h
 unfold fv at h;split at h
 ·exact ap h
 ·split at h
  ·exact ap h
  ·split at h
   ·simp only[bt] at h;subst h;rfl
   ·cases h
 ·split at h
  ·simp only[bt] at h;subst h;rfl
  ·cases h
 ·split at h
  ·simp only[bt] at h;subst h;rfl
  ·cases h
 ·split at h
  ·simp only[bt] at h;subst h;rfl
  ·split at h
   ·simp only[bt] at h;subst h;rfl
   ·cases h
 ·split at h
  ·simp only[bt] at h;subst h;rfl
  ·cases h
 ·split at h
  ·simp only[bt] at h;subst h;rfl
  ·split at h
   ·simp only[bt] at h;subst h;rfl
   ·cases h
 ·split at h
  ·simp only[bt] at h;subst h;exact bX
  ·cases h
theorem pU{e im:af}(h:kk s e=some im):e5 (fv s) e.cells=some im.cells:=by
 unfold kk at h;split at h
 ·rename_i cs;obtain⟨l,ar,aw⟩:=Option.map_eq_some_iff.1 h;subst aw;exact ar
 ·rename_i cZ;have a0:e.cells=[e]:=by
   cases e<;> first|rfl |exact absurd rfl (cZ _)
  rw[a0,wH h a0];simp only[e5,h,fp,ep]
theorem ps:∀{es r:List af},e5 (kk s) es=some r→e5 (fv s) (es.flatMap af.cells)=some (r.flatMap af.cells)
 |[],r,h=>by simp only[e5,bt] at h;subst h;rfl
 |e::es,r,h=>by
  simp only[e5] at h;cases he:kk s e with
  |none=>rw[he] at h;cases h
  |some im=>
   rw[he,fp] at h;cases bU:e5 (kk s) es with
   |none=>rw[bU] at h;cases h
   |some l=>rw[bU] at h;simp only[ep,bt] at h;subst h;simp only[List.flatMap_cons];exact sn (pU he) (ps bU)
theorem pV{κ':bq}(cK:hk κ κ' (s.aa+1))(r:∀i cs,s.own[i]? =some (.cells cs)→∃C:Array Value,(∀j (h:j<C.size),κ'.F ⟨κ.loc s.aa i,j,none⟩=some C[j])∧eH κ' (s.aa+1) cs (C.toList.take cs.length)){v f7:af}{x:Value}(bX:dK κ (s.aa+1) (v.ao s.aa) x)(h:et s v=some f7):dK κ' s.aa f7 x:=by
 have A:∀{sz:Nat} {es:List af} {l:Loc},v=.bx sz es (.cP l)→(af.aX es=true→fv s v=some (.bx sz es .any))→ib s sz es=some f7→dK κ' s.aa f7 x:=fun {sz es l} B eO h=>by
  unfold ib at h;split at h
  ·rename_i aV;simp only[bt] at h;subst h;exact k2 cK r bX (eO aV)
  ·obtain⟨H,ar,aw⟩:=Option.bind_eq_some_iff.1 h;split at aw
   ·rename_i aV;simp only[bt] at aw;subst aw;subst B;simp only[af.ao] at bX;rcases bX.hY with⟨_,bS,_⟩|⟨a,cap,dz,rfl,b2,cZ,I,dB,ab,J,M⟩
    ·simp [e0.ao] at bS
    ·have hm:=ps ar;obtain⟨dn,N⟩:=lA ar;obtain⟨O,U⟩:=lA hm;rw[←dn];refine .bx sz H .any a cap dz trivial (by rw[dn];exact cZ) (fun eu=>I (fun eO=>eu (jj (by rw[dn,eO];rfl)))) (fun e he=>?_) (.inl fun e he=>eA.1 aV e he) (fun j cL=>cK.F _ _ (J j (by rw[←O];exact cL))) (fun j c a0=>?_)
     ·obtain⟨j,cL⟩:=List.getElem?_of_mem he;obtain⟨ml,V,u⟩:=N j e cL
      have:=pU u;rw[(lA this).1];exact dB ml (List.mem_of_getElem? V)
     ·obtain⟨Y,Z,u⟩:=U j c a0
      have:=M j Y Z;exact k2 cK r (by rw[this.lO];exact this) u
   ·cases aw
 unfold et at h;split at h
 ·rename_i sz es i;exact A rfl (fun aV=>by simp only[fv,aV,↓reduceIte]) h
 ·rename_i sz es d i;split at h
  ·rename_i y;exact k2 cK r bX (by simp only[fv,y,↓reduceIte];exact h)
  ·rename_i y;exact A rfl (fun aV=>by simp only[fv,y,aV,↓reduceIte]) h
 ·exact k2 cK r bX h
theorem y6{κ':bq}(cK:hk κ κ' (s.aa+1))(e:∀i cs,s.own[i]? =some (.cells cs)→∃C:Array Value,(∀j (h:j<C.size),κ'.F ⟨κ.loc s.aa i,j,none⟩=some C[j])∧eH κ' (s.aa+1) cs (C.toList.take cs.length)){v f7:af}{x:Value}(bX:dK κ (s.aa+1) (v.ao s.aa) x)(h:freeze s v=some f7):dK κ' s.aa f7 x:=by
 unfold freeze at h;split at h
 ·rename_i cs;cases hm:e5 (et s) cs with
  |none=>rw[hm] at h;cases h
  |some l=>
   rw[hm] at h;simp only[ep,bt] at h;subst h;obtain⟨xs,rfl,bU,a1⟩:=dK.m9 (cs:=cs) bX;obtain⟨ar,aw⟩:=lA hm;refine .agg l xs (by rw[bU,ar]) (fun j c y a0 ez=>?_);obtain⟨r,u,A⟩:=aw j c a0
   have:=a1 j r y u ez;exact pV cK e (by rw[this.lO];exact this) A
 ·exact pV cK e bX h
def ru(T:lj):uc→ResultVar→Bool
 |.t n,.tmp m=>Nat.beq n m
 |.cell a n,.cell b ty=>Nat.beq a b&&T.load ty n
 |_,_=>false
def mC(T:lj):List uc→List ResultVar→Bool
 |[],[]=>true
 |a::as,b::fo=>ru T a b&&mC T as fo
 |_,_=>false
theorem q0{T:lj}:∀{as:List uc} {fo:List ResultVar},mC T as fo=true→as.length=fo.length∧∀(j:Nat) (a:uc) (b:ResultVar),as[j]? =some a→fo[j]? =some b→ru T a b=true
 |[],[],_=>⟨rfl,fun j a b h=>by simp at h⟩
 |[],_::_,h=>by simp [mC] at h
 |_::_,[],h=>by simp [mC] at h
 |a::as,b::fo,h=>by
  simp only[mC,bo] at h;obtain⟨ar,aw⟩:=q0 h.2;refine⟨by simp [ar],fun j f6 u e r=>?_⟩;cases j with
  |zero=>simp at e r;subst e;subst r;exact h.1
  |succ j=>exact aw j f6 u (by simpa using e) (by simpa using r)
theorem F2{T:lj}(e1:T.qv P){gk:Nat}{B:Nat}{G:Nat→af}{ap:e2}{a:Act}(h:fZ κ s w ap.get a gk B G){r:uc}{b:ResultVar}(c0:ru T r b=true){v:af}(bX:rO ap s r=some v):
  ∃x,(∀f:ResultVar→Sem Value,(∀t,f (.tmp t)=Pure.pure (a.tmps.getD t undef))→(∀t ty,f (.cell t ty)=(do loadVar ty (←asAddr (a.tmps.getD t undef)):Sem Value))→(f b).run P w=.ok x w)∧dK κ (s.aa+1) (v.ao s.aa) x:=by
 cases r with
 |t n=>
  cases b with
  |cell t ty=>simp [ru] at c0
  |tmp m=>
   simp only[ru] at c0
   have:=dq c0;subst this;simp only[rO,bt] at bX;subst bX;exact⟨_,fun f ar _=>by rw[ar];simp,h.ap n⟩
 |cell t n=>
  cases b with
  |tmp m=>simp [ru] at c0
  |cell m ty=>
   simp only[ru,bo] at c0
   have:=dq c0.1;subst this;have a1:=h.ap t;simp only[rO] at bX;split at bX
   ·rename_i Ol off H;rw[H] at a1;simp only[af.ao] at a1;rw[←ah.ic] at bX;cases fS:Ol.ao s.aa with
    |l i=>cases Ol<;> simp [Loc.ao] at fS
    |g d i=>
     rw[fS] at a1 bX;obtain⟨e,cW,bZ⟩:=a1.na;have key:∀cs,s.get (.g d i)=some (.cells cs)→e3 {F:=.not,ax:=G,call:=fun _ _ _=>.fail,loop:=fun _ _ _ _ _=>.fail} s .ok n (cs.drop off)=.ok v s→∃x,(∀f:ResultVar→Sem Value,(∀t,f (.tmp t)=Pure.pure (a.tmps.getD t undef))→(∀t ty,f (.cell t ty)=(do loadVar ty (←asAddr (a.tmps.getD t undef)):Sem Value))→(f (.cell t ty)).run P w=.ok x w)∧dK κ (s.aa+1) (v.ao s.aa) x:=fun cs b2 bU=>by obtain⟨v1,x,u,I,y⟩:=tE (P:=P) (tB (oU h.jl b2 off) (show d+1≤s.aa+1 by omega)) (e1.load c0.2) rfl bU (by simp);simp only[ai.ok.injEq] at u;obtain⟨rfl,_⟩:=u;refine⟨x,fun f _ aw=>?_,by rw[y.lO];exact y⟩;rw[aw,e];simp [asAddr,I]
     split at bX
     ·rename_i cs b2;refine key cs b2 ?_;simp only[e3,a2.not];cases A:cs.drop off with
      |nil=>
       have:(cs.drop off)[0]? =some v:=by rw[List.getElem?_drop];simpa using bX
       rw[A] at this;cases this
      |cons c l=>
       have:(cs.drop off)[0]? =some v:=by rw[List.getElem?_drop];simpa using bX
       rw[A] at this;simp only[List.getElem?_cons_zero,bt] at this;subst this;rfl
     ·rename_i cs m b2;split at bX
      ·rename_i hle;simp only[bt] at bX;subst bX;refine key cs b2 ?_
       have:=d9 hle;have J:Nat.ble m (cs.drop off).length=true:=by rw[Nat.ble_eq];simp;omega
       simp only[e3,a2.not,J,bD]
      ·cases bX
     ·cases bX
   ·cases bX
end
def wI(T:lj)(e:c8)(fn:Func):Bool:=
 match fn.body with
 |some c=> !(fn.name== "runtime.NumGoroutine")&&Nat.beq e.gk fn.ntmps&&Nat.ble e.agd fn.ntmps&&mC T e.results fn.results.toList&&dv T e.gk false e.body c
 |none=>false
def F3(P:Program)(T:lj)(so:Nat→Option c8):Prop:=∀f e,so f=some e→∃fn,P.funcs[f]? =some fn∧wI T e fn=true
structure abx (P:Program) (so:Nat→Option c8) (G:Nat→af) (X:Nat→List af→ah→ai):Prop where
 ov:∀f args s,jH (X f args s)
 ok:∀f args s v s' κ w xs,so f=none→X f args s=.ok v s'→db κ s w→kQ κ G→eH κ (s.aa+1) args xs→
  (∃x w',(callFunc f xs.toArray).run P w=.ok (.value x) w'∧nb κ s w v s' x w')∨
  ((callFunc f xs.toArray).run P w=.ok (.enter f xs.toArray) w∧Calls P f xs.toArray w fun e w'=>∃x,e=.returned x∧nb κ s w v s' x w')
structure I0 (pq:List Nat) (w w':World):Prop where
 size:w'.heap.size=w.heap.size
 os:w'.os=w.os
 tape:w'.tape=w.tape
 output:w'.output=w.output
 same:∀b,b ∉ pq→w'.heap[b]? =w.heap[b]?
theorem lB{P:Program}{fn:Func}{tmps:Array Value}{R:Ending→World→Prop}:∀(pq:List Nat) (w:World),pq.Nodup→(∀D,D∈pq→w.heap[D]? =some (.deferred (some [])))→(∀w',I0 pq w w'→∃y,(results fn tmps).run P w'=.ok y w'∧R (.returned y) w')→
  LeavesInM Fence.wide 0 P fn tmps R (pq.map fun D=>{target:=.collected D,args:= #[]}) .returning w
 |[],w,_,_,h=>by obtain⟨y,ar,aw⟩:=h w ⟨rfl,rfl,rfl,rfl,fun _ _=>rfl⟩;exact⟨y,ar,aw⟩
 |D::pq,w,cZ,cW,h=>by
  obtain⟨A,B⟩:=List.nodup_cons.1 cZ;have F:=cW D List.mem_cons_self;refine⟨by simp,.inl ⟨D,_,rfl,run_takeDeferred F,lB pq _ B (fun H r=>?_) (fun w' hw=>h w' ?_)⟩⟩
  ·rw[World.putObj_heap_other (fun e=>by subst e;exact A r)];exact cW H (List.mem_cons_of_mem _ r)
  ·refine⟨hw.size.trans World.putObj_size,hw.os,hw.tape,hw.output,fun b u=>?_⟩;rw[hw.same b (fun hm=>u (List.mem_cons_of_mem _ hm)),World.putObj_heap_other (fun e=>by subst e;exact u List.mem_cons_self)]
theorem fZ.shut{κ:bq}{s:ah}{w w':World}{g:Nat→af}{a:Act}{gk B:Nat}{G:Nat→af}(h:fZ κ s w g a gk B G){pq:List Nat}(r:∀D,D∈pq→w.heap[D]? =some (.deferred (some [])))(hw:I0 pq w w'):fZ κ s w' g {a with defers:=[]} gk 0 G:=
 ⟨h.jl.heap fun b o ar aw=>by rw[hw.same b,ar];intro hm;rw[r b hm] at ar;cases ar;rcases aw with⟨C,e,jA,aw⟩|⟨fD,clock,aw⟩<;> (cases aw),h.ap,Marks.nil (Nat.zero_le _),h.size,h.ax⟩
theorem fP.shut{κ κ':bq}{s s':ah}{w w' e:World}(h:fP κ s w κ' s' w'){pq:List Nat}(r:∀D,D∈pq→w.heap.size≤D)(hw:I0 pq w' e):fP κ s w κ' s' e:=
 ⟨h.k,h.aa,by rw[hw.size];exact h.size,hw.os.trans h.os,hw.tape.trans h.tape,hw.output.trans h.output,fun b u bU=>by rw[hw.same b (fun hm=>by have:=r b hm;omega)];exact h.lq b u bU,h.live,h.pH⟩
theorem pW{P:Program}{f:FuncId}{fn:Func}{c:Code}{args:Array Value}{w:World}{R:Ending→World→Prop}{κ:bq}{s:ah}{gk:Nat}{G:Nat→af}{k:pw→e2→ah→ai}{r:ai}(bA:P.funcs[f]? =some fn)(A:fn.body=some c)
  (h:c.wpIn (yI none) 0 P (kL κ s w gk w.heap.size G k r) {tmps:=args++Array.replicate (fn.ntmps-args.size) undef,defers:=[]} w)
  (B:∀(x:pw) (κ':bq) (s':ah) (eF:e2) (f6:Act) (w':World),fP κ s w κ' s' w'→fZ κ' s' w' eF.get f6 gk 0 G→k x eF s'=r→(x=.norm∨x=.ret)∧∃y,(results fn f6.tmps).run P w'=.ok y w'∧R (.returned y) w')
  (lg:∀i eF s',k (.exit i) eF s'≠r):Calls P f args w R:=by
 refine(callsIn_wide (n:=0)).1 (callsIn_of_wp_marks bA A trivial (wpIn_mono h ?_))
 rintro e f6 w' ⟨x,κ',s',eF,a1,he,aV,cK⟩
 have key:LeavesInM Fence.wide 0 P fn f6.tmps R f6.defers .returning w':=by
  obtain⟨eO,pq,ar,aw,bS⟩:=aV.defers;rw[ar];refine lB pq w' aw (fun D u=>(bS D u).2) fun F hw=>?_
  exact(B x κ' s' eF {f6 with defers:=[]} F (he.shut (fun D u=>(bS D u).1) hw) (aV.shut (fun D u=>(bS D u).2) hw) cK).2
 cases a1 with
 |norm=>exact key
 |ret=>exact key
 |exit i=>exact absurd cK (lg _ _ _)
section
variable{P:Program}{κ:bq}{s:ah}{w:World}
theorem wJ{κ:bq}{D:Nat}{vs:List af}{xs:List Value}(h:eH κ D vs xs):dK κ D (qM vs) (if h:xs.toArray.size=1 then xs.toArray[0] else .tuple xs.toArray):=by
 match vs,xs,h with
 |[v],[x],h=>exact h.2 0 v x rfl rfl
 |[],xs,h=>have:xs=[]:=jj h.1;subst this;exact .ed [] [] rfl (fun j c x a0=>by simp at a0)
 |v::v2::vs,xs,h=>
  have bU:xs.length=vs.length+2:=by rw[h.1];rfl
  rw[dif_neg (by simp;omega)];exact .ed _ xs h.1 h.2
 |[v],[],h=>exact absurd h.1 (by simp)
 |[v],_::_::_,h=>exact absurd h.1 (by simp)
theorem q1{T:lj}(e1:T.qv P){gk:Nat}{B:Nat}{G:Nat→af}{ap:e2}{a:Act}(h:fZ κ s w ap.get a gk B G){y:c8}{fn:Func}(c0:mC T y.results fn.results.toList=true){vs:List af}(N:e5 (rO ap s) y.results=some vs):
  ∃xs:List Value,(results fn a.tmps).run P w=.ok (if h:xs.toArray.size=1 then xs.toArray[0] else .tuple xs.toArray) w∧eH κ (s.aa+1) (vs.map (af.ao s.aa)) xs:=by
 obtain⟨H,O⟩:=lA N;obtain⟨I,U⟩:=q0 c0;have J:∀(j:Nat) (b:ResultVar),fn.results.toList[j]? =some b→∃x,(∀f:ResultVar→Sem Value,(∀t,f (.tmp t)=Pure.pure (a.tmps.getD t undef))→(∀t ty,f (.cell t ty)=(do loadVar ty (←asAddr (a.tmps.getD t undef)):Sem Value))→(f b).run P w=.ok x w)∧∀v,vs[j]? =some v→dK κ (s.aa+1) (v.ao s.aa) x:=fun j b e=>by
  have cL:=(dy.1 e).1;have V:j<y.results.length:=by rw[I];exact cL
  have M:j<vs.length:=by rw[H];exact V
  obtain⟨Y,dn,Z⟩:=O j vs[j] (eb M);obtain⟨x,ab,ac⟩:=F2 e1 h (U j Y b dn e) Z;refine⟨x,ab,fun v bX=>?_⟩;rw[eb M] at bX;simp only[bt] at bX;subst bX;exact ac
 have gv:∃xs:List Value,xs.length=fn.results.toList.length∧∀(j:Nat) (b:ResultVar) (x:Value),fn.results.toList[j]? =some b→xs[j]? =some x→(∀f:ResultVar→Sem Value,(∀t,f (.tmp t)=Pure.pure (a.tmps.getD t undef))→(∀t ty,f (.cell t ty)=(do loadVar ty (←asAddr (a.tmps.getD t undef)):Sem Value))→(f b).run P w=.ok x w)∧∀v,vs[j]? =some v→dK κ (s.aa+1) (v.ao s.aa) x:=by
  refine⟨(List.range fn.results.toList.length).map fun j=>if cL:j<fn.results.toList.length then Classical.choose (J j _ (eb cL)) else undef,by simp,fun j b x e a1=>?_⟩;have cL:=(dy.1 e).1;have ad:fn.results.toList[j]=b:=(dy.1 e).2;simp only[gb,List.getElem?_range cL,ep,bt] at a1;rw[dif_pos cL] at a1
  have:=Classical.choose_spec (J j _ (eb cL));rw[a1,ad] at this;exact this
 obtain⟨xs,A,a1⟩:=gv;refine⟨xs,?_,by rw[A,d0,H,I],fun j c x a0 u=>?_⟩
 ·unfold results;rw[Array.mapM_eq_mapM_toList]
  have:=fun f ar aw=>pT (P:=P) (w:=w) f fn.results.toList xs A (fun j r x aV u=>(a1 j r x aV u).1 f ar aw)
  rw[map_eq_pure_bind,Sem.run_bind,Sem.run_bind,this]
  ·rfl
  ·intro t;rfl
  ·intro t ty;rfl
 ·have cL:j<fn.results.toList.length:=by rw[←A];exact(dy.1 u).1
  rw[gb] at a0;cases F:vs[j]? with
  |none=>rw[F] at a0;cases a0
  |some v=>rw[F] at a0;simp only[ep,bt] at a0;subst a0;exact(a1 j _ x (eb cL) u).2 v F
theorem y7{T:lj}(e1:T.qv P){gk:Nat}{B:Nat}{G:Nat→af}{ap:e2}{a:Act}(h:fZ κ s w ap.get a gk B G){r:c8}{fn:Func}(cK:r.b3=false)(c0:mC T r.results fn.results.toList=true){v:af}{s':ah}(bA:finish .not r ap s=.ok v s'):
  ∃x κ' e own,(results fn a.tmps).run P w=.ok x w∧s.up=own::s'.up∧s'= {own,up:=s'.up,ro:=s.ro}∧e.up=s.up∧e.ro=s.ro∧fP κ s w κ' e w∧db κ' e w∧dK κ' s.aa v x:=by
 simp only[finish,cK,a2.not,b5,↓reduceIte] at bA;cases u:e5 (rO ap s) r.results with
 |none=>rw[u] at bA;cases bA
 |some vs=>
  rw[u] at bA;simp only at bA;cases y:e5 (freeze s) vs with
  |none=>rw[y] at bA;cases bA
  |some kb=>
   rw[y] at bA;simp only at bA;cases A:s.up with
   |nil=>rw[A] at bA;cases bA
   |cons own up=>
    rw[A] at bA;simp only[ai.ok.injEq] at bA;obtain⟨rfl,rfl⟩:=bA;obtain⟨I,J⟩:=lA y;obtain⟨κ',e,M,H,N,O,ac,ad,ae,U⟩:=h.jl.gp s.own.length (aC _);have V:∀i cs,s.own[i]? =some (.cells cs)→∃C:Array Value,(∀j (h:j<C.size),κ'.F ⟨κ.loc s.aa i,j,none⟩=some C[j])∧eH κ' (s.aa+1) cs (C.toList.take cs.length):=fun i cs bZ=>U i cs (dy.1 bZ).1 bZ
    obtain⟨xs,Y,a1⟩:=q1 e1 h c0 u;refine⟨_,κ',e,own,Y,rfl,rfl,by rw[N,A],O,H,M,?_⟩;refine wJ ⟨by rw[a1.1,d0,I],fun j c x a0 Z=>?_⟩;obtain⟨n4,dn,ab⟩:=J j c a0;exact y6 H.k V (a1.2 j _ x (by rw[gb,dn];rfl) Z) ab
theorem AG{T:lj}(e1:T.qv P){gk:Nat}{B:Nat}{G:Nat→af}{ap:e2}{a:Act}(h:fZ κ s w ap.get a gk B G){e:c8}{fn:Func}(cK:e.b3=true)(c0:mC T e.results fn.results.toList=true){v:af}{s':ah}(bA:finish .not e ap s=.ok v s'):
  ∃x,(results fn a.tmps).run P w=.ok x w∧s'=s∧dK κ (s.aa+1) (v.ao s.aa) x:=by
 simp only[finish,cK,a2.not,↓reduceIte] at bA;cases r:e5 (rO ap s) e.results with
 |none=>rw[r] at bA;cases bA
 |some vs=>
  rw[r] at bA;simp only[ai.ok.injEq] at bA;obtain⟨rfl,rfl⟩:=bA;obtain⟨xs,u,a1⟩:=q1 e1 h c0 r;refine⟨_,u,rfl,?_⟩
  have:=wJ a1;rw[this.lO];exact this
variable(hm:P.follows .mixedOrders=true){T:lj}(e1:T.qv P){so:Nat→Option c8}(zl:F3 P T so){G:Nat→af}{X:Nat→List af→ah→ai}(lg:abx P so G X)
include hm e1 zl lg
theorem wK:∀n m,nK P {F:=.not,ax:=G,call:=call .not so G X n,loop:=fun step b3 ap s k=>dX step b3 m ap s k}
 |0,m=>⟨⟨m,fun _ _ _ _ _=>rfl⟩,fun f args s v s' h=>(by simp [call] at h),fun f args s v s' κ w xs h=>(by simp [call] at h)⟩
 |n+1,m=>by
  refine⟨⟨m,fun _ _ _ _ _=>rfl⟩,fun f args s=>jH.call lg.ov (n+1) f args s,fun f args s v s' κ w xs h ba d8 r=>?_⟩;simp only at h d8;simp only[call] at h;cases bA:so f with
  |none=>rw[bA] at h;exact lg.ok f args s v s' κ w xs bA h ba d8 r
  |some e=>
   rw[bA] at h;simp only at h;obtain⟨fn,M,c0⟩:=zl f e bA;unfold wI at c0;cases u:fn.body with
   |none=>rw[u] at c0;cases c0
   |some c=>
    rw[u] at c0;simp only[bo,Bool.not_eq_true'] at c0;obtain⟨⟨⟨⟨gH,aj⟩,ak⟩,ac⟩,ad⟩:=c0;have az:e.gk=fn.ntmps:=dq aj;have aA:=d9 ak;obtain⟨hlen,h⟩:=c9 h (by simp);have hlen:=dq hlen;have al:¬fn.name= "runtime.NumGoroutine" :=by simpa using gH
    refine .inr ⟨by simp [callFunc,M,al,u],?_⟩;cases B:e.b3 with
    |true=>
     rw[B] at h;simp only[↓reduceIte] at h;obtain⟨ap,hex,N⟩:=o1 (by simp) _ _ _ h;have g5:=wK n n;have am:xs.length=args.length:=r.1;have O:fZ κ s w ap.get {tmps:=xs.toArray++Array.replicate (fn.ntmps-xs.toArray.size) undef,defers:=[]} e.gk w.heap.size G:=by
      refine⟨ba,fun t=>?_,Marks.nil (aC _),?_,d8⟩
      ·rw[N t];split
       ·rename_i eo;have U:t<args.length:=by omega
        have dn:args[t]? =some args[t]:=eb U;have A:xs[t]? =some xs[t]:=eb (by omega);have bX:=r.2 t _ _ dn A;have V:(xs.toArray++Array.replicate (fn.ntmps-xs.toArray.size) undef).getD t undef=xs[t]:=by rw[Array.getD_eq_getD_getElem?,Array.getElem?_append_left (by simp;omega)];simp [A]
        rw[V,Nat.sub_zero,List.getD_eq_getElem?_getD,dn,Option.getD_some,bX.lO];exact bX
       ·exact .dead _
      ·simp;omega
     refine pW M u (uv hm e1 rfl g5 e.body c (rd:=false) (by simp) ad (by simp) O hex) (fun x ae H eF f6 w' he aV cK=>?_) (fun i eF s' cK=>by cases cK);have key:finish .not e eF H=.ok v s'→∃y,(results fn f6.tmps).run P w'=.ok y w'∧∃x,Ending.returned y=.returned x∧nb κ s w v s' x w':=fun cK=>by obtain⟨y,px,rk,Cd⟩:=AG e1 aV B ac cK;subst rk;refine⟨y,px,y,rfl,ae,he,aV.jl,?_⟩;rw[he.aa] at Cd;exact Cd
     cases x with
     |norm=>exact⟨.inl rfl,key cK⟩
     |ret=>exact⟨.inr rfl,key cK⟩
     |_=>cases cK
    |false=>
     rw[B] at h;simp only[b5,↓reduceIte] at h;obtain⟨ap,hex,N⟩:=o1 (by simp) _ _ _ h;obtain⟨af,an,Y,ao,ag⟩:=ba.push;have g5:=wK n n;have am:xs.length=args.length:=r.1;have O:fZ af s.push w ap.get {tmps:=xs.toArray++Array.replicate (fn.ntmps-xs.toArray.size) undef,defers:=[]} e.gk w.heap.size G:=by
      refine⟨an,fun t=>?_,Marks.nil (aC _),?_,d8.mono Y⟩
      ·rw[N t];split
       ·rename_i eo;have U:t<args.length:=by omega
        have dn:args[t]? =some args[t]:=eb U;have A:xs[t]? =some xs[t]:=eb (by omega);have bX:=r.2 t _ _ dn A;have V:(xs.toArray++Array.replicate (fn.ntmps-xs.toArray.size) undef).getD t undef=xs[t]:=by rw[Array.getD_eq_getD_getElem?,Array.getElem?_append_left (by simp;omega)];simp [A]
        rw[V,Nat.sub_zero,List.getD_eq_getElem?_getD,dn,Option.getD_some,bX.lO];exact(bX.mono Y).up (by rw[ah.jB];omega)
       ·exact .dead _
      ·simp;omega
     refine pW M u (uv hm e1 rfl g5 e.body c (rd:=false) (by simp) ad (by simp) O hex) (fun x ae H eF f6 w' he aV cK=>?_) (fun i eF s' cK=>by cases cK);have key:finish .not e eF H=.ok v s'→∃y,(results fn f6.tmps).run P w'=.ok y w'∧∃x,Ending.returned y=.returned x∧nb κ s w v s' x w':=fun cK=>by
      obtain⟨y,aq,I,own,px,rk,Cd,ahQ,ahR,au,agm,agn⟩:=y7 e1 aV B ac cK;refine⟨y,px,y,rfl,aq,?_,?_,?_⟩
      ·
       have bB:=he.trans au;have J:s'= {own,up:=s'.up,ro:=I.ro}:=by rw[ahR];exact Cd
       have ai:I.up=own::s'.up:=by rw[ahQ,rk]
       have cW:s'.aa=s.aa:=by
        have ar:=bB.aa;rw[ah.jB] at ar;have aw:I.aa=s'.aa+1:=by rw[J];simp only[ah.aa,ai,bT];omega
        omega
       have Z:∀b,Live af s.push b↔Live κ s b:=fun b=>by
        constructor
        ·rintro ⟨d,i,o,gZ,g2⟩
         rw[ah.oo] at gZ;exact⟨d,i,o,gZ,by rw[←ag d i o gZ];exact g2⟩
        ·rintro ⟨d,i,o,gZ,g2⟩
         exact⟨d,i,o,by rw[ah.oo];exact gZ,by rw[ag d i o gZ];exact g2⟩
       refine⟨Y.trans (bB.k.low (by rw[ah.jB];omega)),cW,bB.size,bB.os,bB.tape,bB.output,fun b ab bU=>bB.lq b ab (fun av=>bU ((Z b).1 av)),fun b ab bU=>?_,fun a ay=>?_⟩
       ·refine(Z b).1 (bB.live b ab ?_);obtain⟨d,i,o,gZ,g2⟩:=bU;rw[J] at gZ;exact⟨d,i,o,ah.rW ai gZ,g2⟩
       ·rcases bB.pH a ay with q|q|q
        ·rw[ao] at q;exact .inl q
        ·exact .inr (.inl q)
        ·exact .inr (.inr ((Z _).1 q))
      ·have J:s'= {own,up:=s'.up,ro:=I.ro}:=by rw[ahR];exact Cd
       rw[J];exact agm.pop (by rw[ahQ,rk])
      ·have cW:H.aa=s.aa+1:=by rw[he.aa,ah.jB]
       rw[cW] at agn;rw[agn.lO];exact agn
     cases x with
     |norm=>exact⟨.inl rfl,key cK⟩
     |ret=>exact⟨.inr rfl,key cK⟩
     |_=>cases cK
end
end Go.Ab
end
section
namespace Go.Ab
open Classical
def Ur(a b:ai):Prop:=a=.fail∨a=b
theorem Ur.refl(a:ai):Ur a a:=.inr rfl
theorem Ur.eq{a b r:ai}(h:Ur a b)(e:a=r)(aV:r≠.fail):b=r:=by
 rcases h with h|h
 ·exact absurd (e.symm.trans h) aV
 ·exact h ▸ e
def hH(a:Nat→ai)(b:ai):Prop:=(∀n,Ur (a n) b)∧(b≠.fail→∃N,∀n,N≤n→a n=b)
theorem hH.const(a:ai):hH (fun _=>a) a:=⟨fun _=>.refl _,fun _=>⟨0,fun _ _=>rfl⟩⟩
theorem hH.of_eq{a:Nat→ai}{b:ai}(h:∀n,a n=b):hH a b:=⟨fun n=>.inr (h n),fun _=>⟨0,fun n _=>h n⟩⟩
theorem hH.fail:hH (fun _=>.fail) .fail:=.const _
theorem hH.bind{a:Nat→ai}{b:ai}(h:hH a b){k kp:Nat→af→ah→ai}{l A:af→ah→ai}(cK:∀v s,hH (fun n=>k n v s) (l v s))(fS:∀v s,hH (fun n=>kp n v s) (A v s)):hH (fun n=>ai.bind (a n) (k n) (kp n)) (ai.bind b l A):=by
 refine⟨fun n=>?_,fun r=>?_⟩
 ·rcases h.1 n with e|e
  ·left;simp only[e];rfl
  ·simp only[e];cases b with
   |fail=>exact .refl _
   |ok v s=>exact(cK v s).1 n
   |panic v s=>exact(fS v s).1 n
 ·cases u:b with
  |fail=>rw[u] at r;exact absurd rfl r
  |ok v s=>rw[u] at r h;obtain⟨N,nz⟩:=h.2 (by simp);obtain⟨M,y⟩:=(cK v s).2 r;exact⟨max N M,fun n cZ=>by show ai.bind (a n) _ _=_;rw[nz n (by omega)];exact y n (by omega)⟩
  |panic v s=>rw[u] at r h;obtain⟨N,nz⟩:=h.2 (by simp);obtain⟨M,y⟩:=(fS v s).2 r;exact⟨max N M,fun n cZ=>by show ai.bind (a n) _ _=_;rw[nz n (by omega)];exact y n (by omega)⟩
def I1(k:Nat→fJ)(l:fJ):Prop:=∀x ap s,hH (fun n=>k n x ap s) (l x ap s)
def lZ(gE:Nat→ny)(e:ny):Prop:=∀ap s k l,I1 k l→hH (fun n=>gE n ap s (k n)) (e ap s l)
def mQ(gE:ny):Prop:=∀ap s k l,(∀x ap s,Ur (k x ap s) (l x ap s))→Ur (gE ap s k) (gE ap s l)
theorem lZ.mono{gE:ny}(h:lZ (fun _=>gE) gE):mQ gE:=fun ap s k l cK=>by
 have:=h ap s (fun n=>if n=0 then k else l) l (fun x ap s=>⟨fun n=>by
  simp only;split
  ·exact cK x ap s
  ·exact .refl _,fun _=>⟨1,fun n cZ=>by simp [show n≠0 by omega]⟩⟩)
 simpa using this.1 0
def e2.mask:gd→e2→e2
 |.e,_=>.e
 |.n h _ u,.e=>.n (e2.mask h .e) .dead (e2.mask u .e)
 |.n h b u,.n l v r=>.n (e2.mask h l) (bif b then v else .dead) (e2.mask u r)
theorem iH:∀(m:gd) (k:e2→ai) (ap:e2),e2.j6 m k ap=k (e2.mask m ap)
 |.e,k,ap=>by cases ap<;> rfl
 |.n h b u,k,.e=>by simp only[e2.j6,e2.mask,iH h,iH u]
 |.n h b u,k,.n l v r=>by simp only[e2.j6,e2.mask,iH h,iH u]
theorem jI(gE:ny)(b3:gd)(n:Nat)(ap:e2)(s:ah)(k:fJ):dX gE b3 (n+1) ap s k=gE ap s (eI b3 (dX gE b3 n) k):=rfl
theorem g7{gE:Nat→ny}{e:ny}(h:lZ gE e){k:Nat→fJ}{l:fJ}(cK:I1 k l)(b3:gd):∀(m:Nat) (ap:e2) (s:ah),hH (fun n=>dX (gE n) b3 m ap s (k n)) (dX e b3 m ap s l)
 |0,_,_=>.fail
 |m+1,ap,s=>by
  simp only[jI];refine h _ _ _ _ (fun x ap s=>?_);cases x with
  |norm=>simp only[eI,iH];exact g7 h cK b3 m _ s
  |_=>exact cK _ _ _
theorem sp{gE:ny}(h:mQ gE)(b3:gd)(k:fJ):∀(m:Nat) (ap:e2) (s:ah),Ur (dX gE b3 m ap s k) (dX gE b3 (m+1) ap s k)
 |0,_,_=>.inl rfl
 |m+1,ap,s=>by
  rw[jI,jI];refine h _ _ _ _ (fun x ap s=>?_);cases x with
  |norm=>simp only[eI,iH];exact sp h b3 k m _ s
  |_=>exact .refl _
theorem jY{gE:ny}(h:mQ gE){b3:gd}{k:fJ}{m:Nat}{ap:e2}{s:ah}{r:ai}(aV:r≠.fail)(e:dX gE b3 m ap s k=r):∀jU,m≤jU→dX gE b3 jU ap s k=r:=by
 intro jU hm
 induction hm with
 |refl=>exact e
 |step _ u=>exact(sp h b3 k _ ap s).eq u aV
noncomputable def bR(gE:ny)(b3:gd)(ap:e2)(s:ah)(k:fJ):ai:=if h:∃n,dX gE b3 n ap s k≠.fail then dX gE b3 h.choose ap s k else .fail
theorem nc{gE:ny}(h:mQ gE){b3:gd}{k:fJ}{m:Nat}{ap:e2}{s:ah}{r:ai}(aV:r≠.fail)(e:dX gE b3 m ap s k=r):bR gE b3 ap s k=r:=by have a1:∃n,dX gE b3 n ap s k≠.fail:=⟨m,by rw[e];exact aV⟩;unfold bR;rw[dif_pos a1];have ar:=a1.choose_spec;have aw:=jY h ar rfl (max a1.choose m) (by omega);have bS:=jY h aV e (max a1.choose m) (by omega);exact aw.symm.trans bS
theorem l0{gE:ny}{b3:gd}{k:fJ}{ap:e2}{s:ah}{r:ai}(aV:r≠.fail)(e:bR gE b3 ap s k=r):∃m,dX gE b3 m ap s k=r:=by
 unfold bR at e;split at e
 ·exact⟨_,e⟩
 ·exact absurd e.symm aV
def iI(a:Nat→ny→gd→ny)(b:ny→gd→ny):Prop:=∀(gE:Nat→ny) (e:ny) b3 ap s k l,(∀n,mQ (gE n))→mQ e→lZ gE e→I1 k l→hH (fun n=>a n (gE n) b3 ap s (k n)) (b e b3 ap s l)
theorem nN:iI (fun _=>bR) bR:=fun gE r b3 ap s k l ar aw bS dB=>by
 refine⟨fun n=>?_,fun h=>?_⟩
 ·by_cases bA:bR (gE n) b3 ap s (k n)=.fail
  ·exact .inl bA
  ·obtain⟨m,e⟩:=l0 bA rfl;exact .inr (nc aw bA (((g7 bS dB b3 m ap s).1 n).eq e bA)).symm
 ·obtain⟨m,e⟩:=l0 h rfl;obtain⟨N,nz⟩:=(g7 bS dB b3 m ap s).2 (by rw[e];exact h);exact⟨N,fun n cZ=>nc (ar n) h ((nz n cZ).trans e)⟩
theorem wL:iI (fun n gE b3 ap s k=>dX gE b3 n ap s k) bR:=fun gE r b3 ap s k l ar aw bS dB=>by
 refine⟨fun n=>?_,fun h=>?_⟩
 ·by_cases bA:dX (gE n) b3 n ap s (k n)=.fail
  ·exact .inl bA
  ·exact .inr (nc aw bA (((g7 bS dB b3 n ap s).1 n).eq rfl bA)).symm
 ·obtain⟨m,e⟩:=l0 h rfl;obtain⟨N,nz⟩:=(g7 bS dB b3 m ap s).2 (by rw[e];exact h);exact⟨max N m,fun n cZ=>jY (ar n) h ((nz n (by omega)).trans e) n (by omega)⟩
theorem y8(m:Nat):iI (fun i gE b3 ap s k=>dX gE b3 (if i=0 then m else m+1) ap s k) (fun gE b3 ap s k=>dX gE b3 (m+1) ap s k):=fun gE h b3 ap s k l ar aw bS dB=>by
 refine⟨fun n=>?_,fun e=>?_⟩
 ·simp only;split
  ·by_cases bA:dX (gE n) b3 m ap s (k n)=.fail
   ·exact .inl bA
   ·exact .inr ((jY aw bA (((g7 bS dB b3 m ap s).1 n).eq rfl bA) (m+1) (by omega)).symm)
  ·exact(g7 bS dB b3 (m+1) ap s).1 n
 ·obtain⟨N,nz⟩:=(g7 bS dB b3 (m+1) ap s).2 e;exact⟨max N 1,fun n cZ=>by simp only[show n≠0 by omega,↓reduceIte];exact nz n (by omega)⟩
def gM(G:Nat→af)(c:Nat→List af→ah→ai)(l:ny→gd→ny):Env:={F:=.not,ax:=G,call:=c,loop:=l}
section
variable{G:Nat→af}{c:Nat→Nat→List af→ah→ai}{cu:Nat→List af→ah→ai}{l:Nat→ny→gd→ny}{lu:ny→gd→ny}(a0:∀f args s,hH (fun n=>c n f args s) (cu f args s))
include a0
theorem wM(s:ah)(f:Nat)(args:List af):hH (fun n=>eN (gM G (c n) (l n)) s .ok .panic f args) (eN (gM G cu lu) s .ok .panic f args):=by
 have e:∀E:Env,eN E s .ok .panic f args=ai.bind (E.call f args s) (fun v s'=>bif Nat.beq s'.aa s.aa then .ok v s' else .fail) .panic:=fun E=>by unfold eN;cases E.call f args s<;> rfl
 simp only[e];exact(a0 f args s).bind (fun _ _=>.const _) (fun _ _=>.const _)
theorem uw(s:ah)(f:Nat)(args:List af):hH (fun n=>hX (gM G (c n) (l n)) s .ok f args) (hX (gM G cu lu) s .ok f args):=by
 have e:∀E:Env,hX E s .ok f args=bif af.aX args then ai.bind (E.call f args {own:=[],up:=[],ro:=[]}) (fun v _=>bif v.bb then .ok v s else .fail) (fun _ _=>.fail) else .fail:=fun E=>by
  unfold hX;cases af.aX args<;> try rfl
  cases E.call f args _<;> rfl
 simp only[e];cases af.aX args
 ·exact .fail
 ·exact(a0 f args _).bind (fun _ _=>.const _) (fun _ _=>.const _)
theorem ux(s:ah)(xs:List (Option Nat×af))(f:Nat)(args:List af):hH (fun n=>iu (gM G (c n) (l n)) s .ok .panic xs f args) (iu (gM G cu lu) s .ok .panic xs f args):=by
 have e:∀E:Env,iu E s .ok .panic xs f args=ai.bind (E.call f args s) (fun v s'=>bif Nat.beq s'.aa s.aa then(bif xs.all fun x=>oP (fg s x.1 x.2) (fg s' x.1 x.2) then .ok v s' else .fail) else .fail) .panic:=fun E=>by unfold iu eN;cases E.call f args s<;> rfl
 simp only[e];exact(a0 f args s).bind (fun _ _=>.const _) (fun _ _=>.const _)
theorem CC(ap:Nat→af)(s:ah)(op:gD):hH (fun n=>aP (gM G (c n) (l n)) ap s .ok .panic op) (aP (gM G cu lu) ap s .ok .panic op):=by
 cases op with
 |call f args=>show hH (fun n=>eN (gM G (c n) (l n)) s .ok .panic f (args.map fun x=>(au G ap x).ao s.aa)) (eN (gM G cu lu) s .ok .panic f (args.map fun x=>(au G ap x).ao s.aa));exact wM a0 s f _
 |l8 iT f args=>show hH (fun n=>iu (gM G (c n) (l n)) s .ok .panic (iT.map fun x=>(x.1,au G ap x.2)) f (args.map fun x=>(au G ap x).ao s.aa)) (iu (gM G cu lu) s .ok .panic (iT.map fun x=>(x.1,au G ap x.2)) f (args.map fun x=>(au G ap x).ao s.aa));exact ux a0 s _ f _
 |kr iT f args=>
  show hH (fun n=>kV (gM G (c n) (l n)) s .ok .panic (iT.map fun x=>(x.1,au G ap x.2)) (au G ap f) (args.map fun x=>(au G ap x).ao s.aa)) (kV (gM G cu lu) s .ok .panic (iT.map fun x=>(x.1,au G ap x.2)) (au G ap f) (args.map fun x=>(au G ap x).ao s.aa));cases au G ap f with
  |fn g dM=>exact ux a0 s _ g _
  |_=>exact .fail
 |hU f args=>show hH (fun n=>hX (gM G (c n) (l n)) s .ok f (args.map fun x=>(au G ap x).ao s.aa)) (hX (gM G cu lu) s .ok f (args.map fun x=>(au G ap x).ao s.aa));exact uw a0 s f _
 |eN f args=>
  show hH (fun n=>lM (gM G (c n) (l n)) s .ok .panic (au G ap f) (args.map fun x=>(au G ap x).ao s.aa)) (lM (gM G cu lu) s .ok .panic (au G ap f) (args.map fun x=>(au G ap x).ao s.aa));cases au G ap f with
  |fn g dM=>exact wM a0 s g _
  |_=>exact .fail
 |mm f args=>
  show hH (fun n=>kj (gM G (c n) (l n)) s .ok (au G ap f) (args.map fun x=>(au G ap x).ao s.aa)) (kj (gM G cu lu) s .ok (au G ap f) (args.map fun x=>(au G ap x).ao s.aa));cases au G ap f with
  |fn g dM=>exact uw a0 s g _
  |_=>exact .fail
 |_=>exact .of_eq (fun n=>rfl)
theorem AH(ap:Nat→af)(s:ah)(op:gD){k kp:Nat→af→ah→ai}{m mp:af→ah→ai}(cK:∀v s,hH (fun n=>k n v s) (m v s))(fS:∀v s,hH (fun n=>kp n v s) (mp v s)):
  hH (fun n=>aP (gM G (c n) (l n)) ap s (k n) (kp n) op) (aP (gM G cu lu) ap s m mp op):=by
 have e:∀n,aP (gM G (c n) (l n)) ap s (k n) (kp n) op=ai.bind (aP (gM G (c n) (l n)) ap s .ok .panic op) (k n) (kp n):=fun n=>jV rfl _ _ _ _ _
 rw[jV (E:=gM G cu lu) rfl];simp only[e];exact(CC a0 ap s op).bind cK fS
theorem mR:∀(d i:Nat) (v:af) {k:Nat→e2→ai} {m:e2→ai} (_:∀ap,hH (fun n=>k n ap) (m ap)) (ap:e2),hH (fun n=>ap.ju d i v (k n)) (ap.ju d i v m)
 |0,_,_,_,_,_,_=>.fail
 |d+1,i,v,k,m,h,.e=>by
  simp only[e2.ju];cases Nat.beq i 0 with
  |true=>exact h _
  |false=>
   cases Nat.beq (i%2) 1 with
   |true=>exact mR d _ v (fun l=>h _) _
   |false=>exact mR d _ v (fun l=>h _) _
 |d+1,i,v,k,m,h,.n a x b=>by
  simp only[e2.ju];cases Nat.beq i 0 with
  |true=>exact h _
  |false=>
   cases Nat.beq (i%2) 1 with
   |true=>exact mR d _ v (fun l=>h _) _
   |false=>exact mR d _ v (fun l=>h _) _
theorem tK(dst:Option Nat)(v:af){k:Nat→e2→ai}{m:e2→ai}(h:∀ap,hH (fun n=>k n ap) (m ap))(ap:e2):hH (fun n=>jx ap dst v (k n)) (jx ap dst v m):=by
 cases dst with
 |none=>exact h ap
 |some i=>exact mR a0 12 i v h ap
theorem nO:∀(os:List c3) (ap:e2) (s:ah) {k:Nat→e2→ah→ai} {m:e2→ah→ai} {kp:Nat→af→e2→ah→ai} {mp:af→e2→ah→ai} (_:∀ap s,hH (fun n=>k n ap s) (m ap s)) (_:∀v ap s,hH (fun n=>kp n v ap s) (mp v ap s)),
  hH (fun n=>fO (gM G (c n) (l n)) os ap s (k n) (kp n)) (fO (gM G cu lu) os ap s m mp)
 |[],ap,s,k,m,kp,mp,h,fS=>h ap s
 |o::os,ap,s,k,m,kp,mp,h,fS=>by
  simp only[fO];have key:∀w:Bool,hH (fun n=>bif w then aP (gM G (c n) (l n)) ap.get s (fun v s=>jx ap o.dst v fun ap=>fO (gM G (c n) (l n)) os ap s (k n) (kp n)) (fun v s=>kp n v ap s) o.op else jx ap o.dst (.ed []) fun ap=>fO (gM G (c n) (l n)) os ap s (k n) (kp n))
    (bif w then aP (gM G cu lu) ap.get s (fun v s=>jx ap o.dst v fun ap=>fO (gM G cu lu) os ap s m mp) (fun v s=>mp v ap s) o.op else jx ap o.dst (.ed []) fun ap=>fO (gM G cu lu) os ap s m mp):=fun w=>by
   cases w with
   |true=>exact AH a0 ap.get s o.op (fun v s=>tK a0 o.dst v (fun ap=>nO os ap s h fS) ap) (fun v s=>fS v ap s)
   |false=>exact tK a0 o.dst _ (fun ap=>nO os ap s h fS) ap
  unfold m0;split
  ·exact key _
  ·split
   ·exact key _
   ·exact key _
   ·exact .fail
omit a0 in
theorem pX{hN:ah}{dM:List af}{gE:Nat→af→ah→(pw→ah→ai)→ai}{r:af→ah→(pw→ah→ai)→ai}(h:∀(x:af) (s:ah) (k:Nat→pw→ah→ai) (m:pw→ah→ai),(∀e s,hH (fun n=>k n e s) (m e s))→hH (fun n=>gE n x s (k n)) (r x s m)):
  ∀(xs:List af) (s:ah) {k:Nat→pw→ah→ai} {m:pw→ah→ai},(∀e s,hH (fun n=>k n e s) (m e s))→hH (fun n=>fY (gE n) hN dM xs s (k n)) (fY r hN dM xs s m)
 |[],s,k,m,cK=>cK _ _
 |x::xs,s,k,m,cK=>h x s _ _ fun e s=>by
  cases e with
  |norm=>
   simp only;cases dM.all (fu hN s) with
   |true=>exact pX h xs s cK
   |false=>exact .fail
  |_=>exact cK _ _
variable(bU:iI l lu)(hm:∀n,iI (fun _=>l n) (l n))(jX:iI (fun _=>lu) lu)
include bU hm jX
theorem wN:∀(code:ad),lZ (fun n=>exec (gM G (c n) (l n)) code) (exec (gM G cu lu) code)∧(∀n,lZ (fun _=>exec (gM G (c n) (l n)) code) (exec (gM G (c n) (l n)) code))∧lZ (fun _=>exec (gM G cu lu) code) (exec (gM G cu lu) code):=by
 have y:∀(code:ad) (c:Nat→Nat→List af→ah→ai) (cu:Nat→List af→ah→ai) (l:Nat→ny→gd→ny) (lu:ny→gd→ny),(∀f args s,hH (fun n=>c n f args s) (cu f args s))→iI l lu→(∀n,iI (fun _=>l n) (l n))→iI (fun _=>lu) lu→lZ (fun n=>exec (gM G (c n) (l n)) code) (exec (gM G cu lu) code):=by
  intro code
  induction code with
  |skip=>intro c cu l lu a0 bU hm jX ap s k m cK;exact cK _ _ _
  |region n3 ops=>
   intro c cu l lu a0 bU hm jX ap s k m cK;cases n3 with
   |none=>exact nO a0 ops ap s (fun ap s=>cK _ _ _) (fun v ap s=>.fail)
   |some n3=>
    simp only[exec];show hH (fun n=>bif n3.all (rN G ap.get) then _ else _) (bif n3.all (rN G ap.get) then _ else _);cases n3.all (rN G ap.get)
    ·exact .fail
    ·exact nO a0 ops ap s (fun ap s=>cK _ _ _) (fun v ap s=>.fail)
  |seq a b h r=>
   intro c cu l lu a0 bU hm jX ap s k m cK;simp only[exec];refine h c cu l lu a0 bU hm jX ap s _ _ (fun x ap s=>?_);cases x with
   |norm=>exact r c cu l lu a0 bU hm jX ap s k m cK
   |_=>exact cK _ _ _
  |cond x a b h r=>
   intro c cu l lu a0 bU hm jX ap s k m cK;simp only[exec];show hH (fun n=>match au G ap.get x with |.bool t=>bif t then exec (gM G (c n) (l n)) a ap s (k n) else exec (gM G (c n) (l n)) b ap s (k n)|_=>.fail) (match au G ap.get x with |.bool t=>bif t then exec (gM G cu lu) a ap s m else exec (gM G cu lu) b ap s m|_=>.fail);cases au G ap.get x with
   |bool t=>cases t with
    |true=>exact h c cu l lu a0 bU hm jX ap s k m cK
    |false=>exact r c cu l lu a0 bU hm jX ap s k m cK
   |_=>exact .fail
  |mask jU a e=>intro c cu l lu a0 bU hm jX ap s k m cK;simp only[exec,iH];exact e c cu l lu a0 bU hm jX _ s k m cK
  |block id a e=>
   intro c cu l lu a0 bU hm jX ap s k m cK;simp only[exec];refine e c cu l lu a0 bU hm jX ap s _ _ (fun x ap s=>?_);cases x with
   |exit j=>
    simp only[dN];cases Nat.beq j id
    ·exact cK _ _ _
    ·exact cK _ _ _
   |_=>exact cK _ _ _
  |loop b3 a e=>
   intro c cu l lu a0 bU hm jX ap s k m cK;simp only[exec,iH];refine bU _ _ b3 _ s k m (fun n=>?_) ?_ (e c cu l lu a0 bU hm jX) cK
   ·exact(e (fun _=>c n) (c n) (fun _=>l n) (l n) (fun _ _ _=>.const _) (hm n) (fun _=>hm n) (hm n)).mono
   ·exact(e (fun _=>cu) cu (fun _=>lu) lu (fun _ _ _=>.const _) jX (fun _=>jX) jX).mono
  |exit id=>intro c cu l lu a0 bU hm jX ap s k m cK;exact cK _ _ _
  |scope a e=>intro c cu l lu a0 bU hm jX ap s k m cK;simp only[exec];exact e c cu l lu a0 bU hm jX ap s k m cK
  |ret=>intro c cu l lu a0 bU hm jX ap s k m cK;exact cK _ _ _
  |range j f g p a b h r=>
   intro c cu l lu a0 bU hm jX ap s k m cK;simp only[exec];show hH (fun n=>ms j f (au G ap.get g) _ s _) (ms j f (au G ap.get g) _ s _);unfold ms;cases au G ap.get g with
   |fn yp dM=>
    simp only;cases Nat.beq f yp with
    |false=>exact .fail
    |true=>
     simp only[bD];cases qt s j dM with
     |none=>exact .fail
     |some xs=>
      refine pX (fun x s l9 jU A=>?_) xs s (fun u s=>cK u ap s);refine tK a0 (some p) x (fun eF=>?_) ap;refine h c cu l lu a0 bU hm jX eF s _ _ (fun u ap s=>?_);cases u with
      |norm=>exact r c cu l lu a0 bU hm jX ap s _ _ (fun u ap s=>A u s)
      |_=>exact .fail
   |_=>exact .fail
 intro code;exact⟨y code c cu l lu a0 bU hm jX,fun n=>y code (fun _=>c n) (c n) (fun _=>l n) (l n) (fun _ _ _=>.const _) (hm n) (fun _=>hm n) (hm n),y code (fun _=>cu) cu (fun _=>lu) lu (fun _ _ _=>.const _) jX (fun _=>jX) jX⟩
end
theorem mg(m:Nat):iI (fun _ gE b3 ap s k=>dX gE b3 m ap s k) (fun gE b3 ap s k=>dX gE b3 m ap s k):=fun _ _ b3 ap s _ _ _ _ bS dB=>g7 bS dB b3 m ap s
theorem sq:∀(vs:List af) (i:Nat) (ap:e2) {k:Nat→e2→ai} {m:e2→ai} (_:∀ap,hH (fun n=>k n ap) (m ap)),hH (fun n=>bG vs i ap (k n)) (bG vs i ap m)
 |[],_,ap,_,_,h=>h ap
 |v::vs,i,ap,k,m,h=>mR (c:=fun _ _ _ _=>.fail) (cu:=fun _ _ _=>.fail) (fun _ _ _=>.fail) 12 i v (fun ap=>sq vs (i+1) ap h) ap
def body(T:Nat→Option c8)(G:Nat→af)(X:Nat→List af→ah→ai)(c:Nat→List af→ah→ai)(l:ny→gd→ny)(f:Nat)(args:List af)(s:ah):ai:=
 match T f with
 |none=>X f args s
 |some fn=>
  bif Nat.beq args.length fn.agd then
   bG args 0 .e fun ap=>exec (gM G c l) fn.body ap (if fn.b3 then s else {own:=[],up:=s.own::s.up,ro:=s.ro}) (Oq .not fn)
  else .fail
theorem zm{T:Nat→Option c8}{G:Nat→af}{X:Nat→List af→ah→ai}{c:Nat→Nat→List af→ah→ai}{cu:Nat→List af→ah→ai}{l:Nat→ny→gd→ny}{lu:ny→gd→ny}(a0:∀f args s,hH (fun n=>c n f args s) (cu f args s))(bU:iI l lu)(hm:∀n,iI (fun _=>l n) (l n))(jX:iI (fun _=>lu) lu)(f:Nat)(args:List af)(s:ah):
  hH (fun n=>body T G X (c n) (l n) f args s) (body T G X cu lu f args s):=by
 unfold body;cases T f with
 |none=>exact .const _
 |some fn=>
  simp only;cases Nat.beq args.length fn.agd with
  |false=>exact .fail
  |true=>simp only[bD];refine sq args 0 .e (fun ap=>(wN a0 bU hm jX fn.body).1 ap _ _ _ (fun x ap s=>?_));cases x<;> exact .const _
theorem o2(T:Nat→Option c8)(G:Nat→af)(X:Nat→List af→ah→ai)(n f:Nat)(args:List af)(s:ah):call .not T G X (n+1) f args s=body T G X (call .not T G X n) (fun gE b3 ap s k=>dX gE b3 n ap s k) f args s:=rfl
section
variable(T:Nat→Option c8)(G:Nat→af)(X:Nat→List af→ah→ai)
theorem CD:∀(n f:Nat) (args:List af) (s:ah),Ur (call .not T G X n f args s) (call .not T G X (n+1) f args s)
 |0,f,args,s=>.inl rfl
 |n+1,f,args,s=>by
  have h:=zm (T:=T) (G:=G) (X:=X) (c:=fun i=>call .not T G X (if i=0 then n else n+1)) (cu:=call .not T G X (n+1)) (fun f args s=>⟨fun i=>by
    simp only;split
    ·exact CD n f args s
    ·exact .refl _,fun _=>⟨1,fun i bZ=>by simp [show i≠0 by omega]⟩⟩) (y8 n) (fun i=>by by_cases bZ:i=0<;> simp only[bZ,↓reduceIte]<;> exact mg _) (mg (n+1)) f args s
  have:=h.1 0;simp only[↓reduceIte] at this;rw[o2,o2];exact this
theorem sr{n f:Nat}{args:List af}{s:ah}{r:ai}(aV:r≠.fail)(e:call .not T G X n f args s=r):∀m,n≤m→call .not T G X m f args s=r:=by
 intro m hm
 induction hm with
 |refl=>exact e
 |step _ h=>exact(CD T G X _ f args s).eq h aV
noncomputable def aB(f:Nat)(args:List af)(s:ah):ai:=if h:∃n,call .not T G X n f args s≠.fail then call .not T G X h.choose f args s else .fail
theorem o3{n f:Nat}{args:List af}{s:ah}{r:ai}(aV:r≠.fail)(e:call .not T G X n f args s=r):aB T G X f args s=r:=by have a1:∃n,call .not T G X n f args s≠.fail:=⟨n,by rw[e];exact aV⟩;unfold aB;rw[dif_pos a1];have ar:=a1.choose_spec;exact(sr T G X ar rfl (max a1.choose n) (by omega)).symm.trans (sr T G X aV e (max a1.choose n) (by omega))
theorem pY{f:Nat}{args:List af}{s:ah}{r:ai}(aV:r≠.fail)(e:aB T G X f args s=r):∃n,call .not T G X n f args s=r:=by
 unfold aB at e;split at e
 ·exact⟨_,e⟩
 ·exact absurd e.symm aV
theorem CE(f:Nat)(args:List af)(s:ah):hH (fun n=>call .not T G X n f args s) (aB T G X f args s):=by
 refine⟨fun n=>?_,fun h=>?_⟩
 ·by_cases bA:call .not T G X n f args s=.fail
  ·exact .inl bA
  ·exact .inr (o3 T G X bA rfl).symm
 ·obtain⟨n,e⟩:=pY T G X h rfl;exact⟨n,fun m hm=>sr T G X h e m hm⟩
theorem AI(f:Nat)(args:List af)(s:ah):aB T G X f args s=body T G X (aB T G X) bR f args s:=by
 have h:=zm (T:=T) (G:=G) (X:=X) (CE T G X) wL (fun n=>mg n) nN f args s;by_cases bA:body T G X (aB T G X) bR f args s=.fail
 ·rw[bA];by_cases a0:aB T G X f args s=.fail
  ·exact a0
  ·obtain⟨n,e⟩:=pY T G X a0 rfl
   have:=sr T G X a0 e (n+1) (by omega);rw[o2] at this;exact absurd ((h.1 n).eq this a0) (by rw[bA];exact fun q=>a0 q.symm)
 ·obtain⟨N,nz⟩:=h.2 bA;have e:=(o2 T G X N f args s).trans (nz N (aC _));exact o3 T G X bA e
end
theorem AJ{G:Nat→af}{cu:Nat→List af→ah→ai}(code:ad)(b3:gd)(ap:e2)(s:ah)(k:fJ):bR (exec (gM G cu bR) code) b3 ap s k=exec (gM G cu bR) code ap s (eI b3 (bR (exec (gM G cu bR) code) b3) k):=by
 have u:=(wN (G:=G) (c:=fun _=>cu) (cu:=cu) (l:=fun _=>bR) (lu:=bR) (fun _ _ _=>.const _) nN (fun _=>nN) nN code).1;have r:=u.mono;have cK:I1 (fun n=>eI b3 (dX (exec (gM G cu bR) code) b3 n) k) (eI b3 (bR (exec (gM G cu bR) code) b3) k):=fun x ap s=>by
  cases x with
  |norm=>
   simp only[eI,iH];generalize e2.mask b3 ap=ap;refine⟨fun n=>?_,fun y=>?_⟩
   ·by_cases bA:dX (exec (gM G cu bR) code) b3 n ap s k=.fail
    ·exact .inl bA
    ·exact .inr (nc r bA rfl).symm
   ·obtain⟨n,e⟩:=l0 y rfl;exact⟨n,fun m hm=>jY r y e m hm⟩
  |_=>exact .const _
 have h:=u ap s _ _ cK;generalize A:exec (gM G cu bR) code ap s (eI b3 (bR (exec (gM G cu bR) code) b3) k)=R at h ⊢;by_cases bA:R=.fail
 ·rw[bA];by_cases a0:bR (exec (gM G cu bR) code) b3 ap s k=.fail
  ·exact a0
  ·obtain⟨n,e⟩:=l0 a0 rfl
   have:=(jI _ _ _ _ _ _).symm.trans (jY r a0 e (n+1) (by omega));exact absurd ((h.1 n).eq this a0) (by rw[bA];exact fun q=>a0 q.symm)
 ·obtain⟨N,nz⟩:=h.2 bA;exact nc r bA ((jI _ _ _ _ _ _).trans (nz N (aC _)))
end Go.Ab
end
section
namespace Go.Ab
def Us(x:af)(s:ah)(k:af→ah→ai):ai:=bif x.e9 then k (.bk (x.ao s.aa).cells) s else .fail
def wO(x:af)(s:ah)(k:af→ah→ai):ai:=bif x.e9 then k (.ref (.l s.own.length) 0) (s.new (.cells (x.ao s.aa).cells)) else .fail
def AK(d:Nat):List af→List (Nat×Nat×af)→Option (List af)
 |cs,[]=>some cs
 |cs,(off,sz,x)::er=>
  let v:=x.ao d
  bif v.e9&&Nat.beq v.cells.length sz&&Nat.ble (off+sz) cs.length then AK d (dE cs off v.cells) er else none
def I2(zero:List af)(er:List (Nat×Nat×af))(s:ah)(k:af→ah→ai):ai:=
 match (AK s.aa zero er).map .agg with
 |some v=>k v s
 |none=>.fail
def qH(o:Option af)(d:Nat):Option Nat:=
 match o with
 |none=>some d
 |some x=>ff x
def hSub(x:af)(gz bZ:Option af)(s:ah)(k:af→ah→ai):ai:=
 match x with
 |.str fo=>
  match qH gz 0,qH bZ fo.length with
  |some l,some h=>bif Nat.ble l h&&Nat.ble h fo.length then k (.str ((fo.drop l).take (h-l))) s else .fail
  |_,_=>.fail
 |_=>.fail
def nP(z:Nat)(x:af)(gz bZ jf:Option af)(s:ah)(k:af→ah→ai):ai:=
 match x with
 |.bx sz es g=>
  match qH gz 0,qH bZ es.length with
  |some l,some h=>
   match jf with
   |none=>
    bif Nat.beq z sz&&Nat.ble l h&&Nat.ble h es.length&&qs g l h es then
     k (.bx sz ((es.drop l).take (h-l)) (match g with
      |.nil=>.nil
      |.exact=>if h=es.length then .exact else .any
      |.cP a=>if l=0∧h=es.length then .cP a else .any
      |.any=>.any)) s
    else .fail
   |some x=>
    match ff x,g with
    |_,.nil=>.fail
    |some m,_=>bif Nat.beq z sz&&Nat.ble l h&&Nat.ble h m&&Nat.ble m es.length&&vP g es then k (.bx sz ((es.drop l).take (h-l)) (if h=m then .exact else .any)) s else .fail
    |_,_=>.fail
  |_,_=>.fail
 |.cH a off len cap sz=>
  match qH gz 0,qH bZ len,qH jf cap with
  |some l,some h,some m=>bif Nat.beq z sz&&Nat.ble l h&&Nat.ble h m&&Nat.ble m cap&&Nat.ble len cap then k (.cH a (if m=l then off else off+l*sz) (h-l) (m-l) sz) s else .fail
  |_,_,_=>.fail
 |_=>.fail
def ss(z n:Nat)(x:af)(gz bZ jf:Option af)(s:ah)(k:af→ah→ai):ai:=
 match x with
 |.ref a off=>
  match qH gz 0,qH bZ n,qH jf n with
  |some l,some h,some m=>bif Nat.ble l h&&Nat.ble h m&&Nat.ble m n then k (.cH a (if m=l then off else off+l*z) (h-l) (m-l) z) s else .fail
  |_,_,_=>.fail
 |_=>.fail
def ahU(v:af):Option Loc:=
 match v with
 |.ref a _=>some a
 |.map a=>some a
 |_=>none
def AL(v:af)(want:Bool)(op:(af→ah→ai)→ai)(s:ah)(k:af→ah→ai):ai:=
 match v with
 |.bool b=>bif b==want then op k else k (.ed []) s
 |.ed _=>k (.ed []) s
 |_=>.fail
def aby(v:af)(a b:ai):ai:=
 match v with
 |.bool t=>bif t then a else b
 |_=>.fail
def k3(s:ah)(v:af)(n:Option Nat):Option af:=
 match v with
 |.ref a off=>
  match s.get a,n with
  |some (.cells cs),none=>cs[off]?
  |some (.cells cs),some n=>if Nat.ble (off+n) cs.length then some (.agg ((cs.drop off).take n)) else none
  |_,_=>none
 |_=>none
def l1(b3:Bool)(e:List (Option af))(s:ah):ai:=
 match e5 (fun x=>x) e with
 |some vs=>
  bif b3 then .ok (qM (vs.map (af.ao s.aa))) s
  else
   match e5 (freeze s) vs with
   |some vs=>
    match s.up with
    |own::up=>.ok (qM vs) {own,up,ro:=s.ro}
    |[]=>.fail
   |none=>.fail
 |none=>.fail
def ah.ag(s:ah):ah:={own:=[],up:=s.own::s.up,ro:=s.ro}
abbrev bd:=af→ah→ai
structure oz where
 bE:Nat→af
 cO:ny→gd→ny
 aL:gd→ad→ny
 aW:Bool→List (Option af)→ah→ai
 hA:af→ah→bd→ai
 bs:ah→bd→af→af→af→ai
 eR:af→ah→bd→ai
 oA:af→ah→bd→ai
 iJ:List af→List (Nat×Nat×af)→ah→bd→ai
 bf:ah→bd→Nat→List af→ai
 CF:ah→bd→af→ai
 aq:ah→bd→Option Nat→af→ai
 bm:ah→bd→Nat→af→af→ai
 uy:ah→bd→af→ai
 aj:ah→bd→Option af→ai
 b6:ah→bd→IntKind→af→ai
 zn:ah→bd→af→ai
 lQ:ah→bd→af→ai
 q2:ah→bd→af→ai
 k4:ah→bd→List af→Nat→af→af→ai
 wP:af→Option af→Option af→ah→bd→ai
 l2:Nat→af→Option af→Option af→Option af→ah→bd→ai
 av:ah→bd→Nat→af→ai
 CG:ah→bd→Nat→Option Nat→af→ai
 bV:ah→bd→Nat→af→af→ai
 h5:ah→bd→Nat→Nat→af→af→ai
 hS:ah→bd→af→af→ai
 zo:ah→bd→Nat→Nat→Option Nat→af→af→ai
 b1:ah→bd→Nat→af→ai
 bj:ah→bd→Nat→List af→ai
 st:ah→bd→af→List af→ai
 gT:ah→bd→Nat→List af→ai
 zp:ah→bd→af→List af→ai
 zq:ah→bd→Option Nat→af→Nat→af→af→ai
 CH:ah→bd→List (Option Nat×af)→Nat→List af→ai
 zr:ah→bd→List (Option Nat×af)→af→List af→ai
 cg:ah→bd→Bool→af→ai
 fm:ah→bd→Nat→Nat→Option Loc→af→af→ai
 wQ:ah→bd→Nat→Nat→Option Loc→af→af→ai
 o4:ah→bd→Nat→Nat→Option Loc→af→af→ai
 pZ:ah→bd→Nat→List af→ai
 jJ:ah→bd→Nat→List af→ai
 nd:ah→bd→Nat→Nat→af→af→ai
 mS:Nat→Nat→af→Option af→Option af→Option af→ah→bd→ai
 su:ah→bd→Nat→af→af→ai
 AM:ah→bd→(af→af→Option af)→List af→ai
 wR:ah→bd→Option Loc→ai
 zs:ah→bd→yo→af→af→af→ai
 zt:ah→bd→yo→af→Bool→af→af→ai
 ae:af→Bool→(bd→ai)→ah→bd→ai
 aO:af→ai→ai→ai
 p0:Nat→Nat→af→(af→ah→(pw→ah→ai)→ai)→ah→(pw→ah→ai)→ai
def mD(G:Nat→af)(ap:Nat→af):Option bN→Option af
 |none=>none
 |some x=>some (au G ap x)
def AN(G:Nat→af)(ap:Nat→af):Option bN→Option Loc
 |none=>some (.l 0)
 |some x=>ahU (au G ap x)
def partsOf(G:Nat→af)(ap:Nat→af):List (Nat×Nat×bN)→List (Nat×Nat×af)
 |[]=>[]
 |(off,sz,x)::er=>(off,sz,au G ap x)::partsOf G ap er
def rv(P:oz)(ap:Nat→af)(s:ah)(k:bd)(op:gD):ai:=
 match op with
 |.move x=>k (au P.bE ap x) s
 |.n2 x=>k (oO (au P.bE ap x)) s
 |.pick c a b=>P.bs s k (au P.bE ap c) (au P.bE ap a) (au P.bE ap b)
 |.alloc zero=>P.hA (.ref (.l s.own.length) 0) (s.new (.cells zero)) k
 |.fe x=>P.eR (au P.bE ap x) s k
 |.kq x=>P.oA (au P.bE ap x) s k
 |.build zero parts=>P.iJ zero (partsOf P.bE ap parts) s k
 |.buildSlice sz parts=>P.bf s k sz (parts.map (au P.bE ap))
 |.pD x=>P.CF s k (au P.bE ap x)
 |.load n a=>P.aq s k n (au P.bE ap a)
 |.store n a v=>P.bm s k n (au P.bE ap a) ((au P.bE ap v).ao s.aa)
 |.lL m y n a v=>P.zq s k m (au P.bE ap y) n (au P.bE ap a) ((au P.bE ap v).ao s.aa)
 |.nilCheck x=>P.uy s k (au P.bE ap x)
 |.bin op x y=>P.aj s k (al op (au P.bE ap x) (au P.bE ap y))
 |.eq neg e x y=>P.aj s k ((oi e (au P.bE ap x) (au P.bE ap y)).map fun b=>.bool (bif neg then !b else b))
 |.un op x=>P.aj s k (kP op (au P.bE ap x))
 |.lT d x=>P.b6 s k d (au P.bE ap x)
 |.oL x=>P.zn s k (au P.bE ap x)
 |.hc x=>P.lQ s k (au P.bE ap x)
 |.jv x=>P.q2 s k (au P.bE ap x)
 |.kc t x=>P.hA (.iface t ((au P.bE ap x).ao s.aa)) s k
 |.kR f dM=>P.hA (.fn f (dM.map fun x=>(au P.bE ap x).ao s.aa)) s k
 |.makeSlice zero bytes l c=>P.k4 s k zero bytes (au P.bE ap l) (au P.bE ap c)
 |.kS x gz bZ=>P.wP (au P.bE ap x) (mD P.bE ap gz) (mD P.bE ap bZ) s k
 |.slice z x gz bZ jf=>P.l2 z (au P.bE ap x) (mD P.bE ap gz) (mD P.bE ap bZ) (mD P.bE ap jf) s k
 |.fieldAddr off a=>P.av s k off (au P.bE ap a)
 |.field off n x=>P.CG s k off n (au P.bE ap x)
 |.jw sz x i=>P.bV s k sz (au P.bE ap x) (au P.bE ap i)
 |.fM sz len x i=>P.h5 s k sz len (au P.bE ap x) (au P.bE ap i)
 |.nE x i=>P.hS s k (au P.bE ap x) (au P.bE ap i)
 |.oM sz len n x i=>P.zo s k sz len n (au P.bE ap x) (au P.bE ap i)
 |.extract x i=>P.b1 s k i (au P.bE ap x)
 |.call f args=>P.bj s k f (args.map fun x=>(au P.bE ap x).ao s.aa)
 |.eN f args=>P.st s k (au P.bE ap f) (args.map fun x=>(au P.bE ap x).ao s.aa)
 |.hU f args=>P.gT s k f (args.map fun x=>(au P.bE ap x).ao s.aa)
 |.mm f args=>P.zp s k (au P.bE ap f) (args.map fun x=>(au P.bE ap x).ao s.aa)
 |.l8 iT f args=>P.CH s k (iT.map fun x=>(x.1,au P.bE ap x.2)) f (args.map fun x=>(au P.bE ap x).ao s.aa)
 |.kr iT f args=>P.zr s k (iT.map fun x=>(x.1,au P.bE ap x.2)) (au P.bE ap f) (args.map fun x=>(au P.bE ap x).ao s.aa)
 |.len b x=>P.cg s k b (au P.bE ap x)
 |.append q bytes b x y=>P.fm s k q bytes (AN P.bE ap b) (au P.bE ap x) (au P.bE ap y)
 |.ke q bytes b x y=>P.o4 s k q bytes (AN P.bE ap b) (au P.bE ap x) (au P.bE ap y)
 |.g1 sz parts=>P.pZ s k sz (parts.map fun x=>(au P.bE ap x).ao s.aa)
 |.g0 sz parts=>P.jJ s k sz (parts.map fun x=>(au P.bE ap x).ao s.aa)
 |.kf q bytes x y=>P.nd s k q bytes (au P.bE ap x) (au P.bE ap y)
 |.kd q bytes b x y=>P.wQ s k q bytes (AN P.bE ap b) (au P.bE ap x) (au P.bE ap y)
 |.jn z n x gz bZ jf=>P.mS z n (au P.bE ap x) (mD P.bE ap gz) (mD P.bE ap bZ) (mD P.bE ap jf) s k
 |.copy q d x=>P.su s k q (au P.bE ap d) (au P.bE ap x)
 |.min xs=>P.AM s k min2 (xs.map fun x=>(au P.bE ap x).ao s.aa)
 |.max xs=>P.AM s k max2 (xs.map fun x=>(au P.bE ap x).ao s.aa)
 |.makeMap b=>P.wR s k (AN P.bE ap b)
 |.nF ld m x v=>P.zs s k ld (au P.bE ap m) ((au P.bE ap x).ao s.aa) ((au P.bE ap v).ao s.aa)
 |.lookup ld zero ok m x=>P.zt s k ld zero ok (au P.bE ap m) ((au P.bE ap x).ao s.aa)
 |.vN neg x=>P.aj s k (Ac neg (au P.bE ap x))
 |.no=>.fail
def nf(P:oz):List c3→e2→ah→(e2→ah→ai)→ai
 |[],ap,s,fin=>fin ap s
 |o::os,ap,s,fin=>
  match o.guard with
  |none=>rv P ap.get s (fun v s=>jx ap o.dst v fun ap=>nf P os ap s fin) o.op
  |some (t,want)=>P.ae (ap.get t) want (fun k=>rv P ap.get s k o.op) s (fun v s=>jx ap o.dst v fun ap=>nf P os ap s fin)
def aJ(P:oz):ad→ny
 |.skip,ap,s,k=>k .norm ap s
 |.region none ops,ap,s,k=>nf P ops ap s (fun ap s=>k .norm ap s)
 |.region (some []) ops,ap,s,k=>nf P ops ap s (fun ap s=>k .norm ap s)
 |.region (some (_::_)) _,_,_,_=>.fail
 |.seq a b,ap,s,k=>aJ P a ap s (gf (aJ P b) k)
 |.mask m a,ap,s,k=>P.aL m a (e2.mask m ap) s k
 |.cond c a b,ap,s,k=>P.aO (au P.bE ap.get c) (aJ P a ap s k) (aJ P b ap s k)
 |.block id c,ap,s,k=>aJ P c ap s (dN id k)
 |.loop b3 c,ap,s,k=>P.cO (aJ P c) b3 (e2.mask b3 ap) s k
 |.exit id,ap,s,k=>k (.exit id) ap s
 |.scope c,ap,s,k=>aJ P c ap s k
 |.ret,ap,s,k=>k .ret ap s
 |.range j f g p a b,ap,s,k=>P.p0 j f (au P.bE ap.get g) (fun x s l9=>jx ap (some p) x fun eF=>aJ P a eF s (FJ (aJ P b) fun e _ s=>l9 e s)) s fun e s=>k e ap s
def I3(ap:e2)(s:ah):uc→Option af
 |.t n=>some (ap.get n)
 |.cell a n=>k3 s (ap.get a) n
def br(P:oz)(fn:c8):fJ:=fun x ap s=>
 match x with
 |.norm=>P.aW fn.b3 (fn.results.map (I3 ap s)) s
 |.ret=>P.aW fn.b3 (fn.results.map (I3 ap s)) s
 |_=>.fail
def j7:ad→Bool
 |.region (some (_::_)) _=>false
 |.seq a b|.cond _ a b=>j7 a&&j7 b
 |.mask _ a|.block _ a|.loop _ a|.scope a=>j7 a
 |.range _ _ _ _ a b=>j7 a&&j7 b
 |_=>true
noncomputable def ng(G:Nat→af)(c:Nat→List af→ah→ai):oz where
 bE:=G
 cO:=bR
 aL:=fun _ a ap s k=>exec (gM G c bR) a ap s k
 aW:=l1
 hA:=fun v s k=>k v s
 bs:=fun s k oK a b=>n6 (gM G c bR) s k oK a b
 eR:=Us
 oA:=wO
 iJ:=I2
 bf:=fun s k sz es=>ia (gM G c bR) s k sz es
 CF:=fun s k v=>nG (gM G c bR) s k v
 aq:=fun s k n v=>dZ (gM G c bR) s k n v
 bm:=fun s k n a v=>fh (gM G c bR) s k n a v
 uy:=fun s k v=>jz (gM G c bR) s k v
 aj:=fun s k v=>rL (gM G c bR) s k v
 b6:=fun s k d v=>kG (gM G c bR) s k d v
 zn:=fun s k v=>mY s k v
 lQ:=fun s k v=>g3 (gM G c bR) s k v
 q2:=fun s k v=>hL (gM G c bR) s k v
 k4:=fun s k z b l oK=>n5 (gM G c bR) s k z b l oK
 wP:=hSub
 l2:=nP
 av:=fun s k off v=>hf (gM G c bR) s k off v
 CG:=fun s k off n v=>mo (gM G c bR) s k off n v
 bV:=fun s k sz x i=>lf (gM G c bR) s k sz x i
 h5:=fun s k sz len x i=>hG (gM G c bR) s k sz len x i
 hS:=fun s k x i=>iB (gM G c bR) s k x i
 zo:=fun s k sz len n x i=>kU (gM G c bR) s k sz len n x i
 b1:=fun s k i v=>kF (gM G c bR) s k i v
 bj:=fun s k f args=>eN (gM G c bR) s k (fun _ _=>.fail) f args
 st:=fun s k f args=>lM (gM G c bR) s k (fun _ _=>.fail) f args
 gT:=fun s k f args=>hX (gM G c bR) s k f args
 zp:=fun s k f args=>kj (gM G c bR) s k f args
 zq:=fun s k m y n a v=>lU (gM G c bR) s k m y n a v
 CH:=fun s k iT f args=>iu (gM G c bR) s k (fun _ _=>.fail) iT f args
 zr:=fun s k iT f args=>kV (gM G c bR) s k (fun _ _=>.fail) iT f args
 cg:=fun s k b v=>qL (gM G c bR) s k b v
 fm:=fun s k q bytes b x y=>fN (gM G c bR) s k q bytes b x y
 o4:=fun s k q bytes b x y=>mZ (gM G c bR) s k q bytes b x y
 pZ:=fun s k sz es=>ki (gM G c bR) s k sz es
 jJ:=fun s k sz es=>il (gM G c bR) s k sz es
 nd:=fun s k q bytes x y=>kE (gM G c bR) s k q bytes (Ad s x) y
 wQ:=fun s k q bytes b x y=>ln (gM G c bR) s k q bytes b x y
 mS:=fun z n x gz bZ jf s k=>ss z n x gz bZ jf s k
 su:=fun s k q d x=>mq (gM G c bR) s k q d x
 AM:=fun s k f xs=>lN (gM G c bR) s k f xs
 wR:=fun s k b=>mM (gM G c bR) s k b
 zs:=fun s k ld m x v=>lV (gM G c bR) s k ld m x v
 zt:=fun s k ld z ok m x=>lW (gM G c bR) s k ld z ok m x
 ae:=AL
 aO:=aby
 p0:=ms
section
variable(G:Nat→af)(c:Nat→List af→ah→ai)
theorem zu(d:Nat)(ap:Nat→af):∀(er:List (Nat×Nat×bN)) (cs:List af),AK d cs (partsOf G ap er)=fC G d ap cs er
 |[],cs=>rfl
 |(off,sz,x)::er,cs=>by simp only[partsOf,AK,fC];rw[zu d ap er]
theorem AO(ap:Nat→af)(o:Option bN)(d:Nat):qH (mD G ap o) d=dL G ap o d:=by cases o<;> rfl
theorem uz(ap:Nat→af)(s:ah)(k:bd)(op:gD):rv (ng G c) ap s k op=aP (gM G c bR) ap s k (fun _ _=>.fail) op:=by
 cases op<;> try rfl
 case build zero parts=>
  simp only[rv,aP,ng,I2,zu,rL];show _=match (fC G s.aa ap zero parts).map .agg with |some v=>k v s|none=>.fail
  cases fC G s.aa ap zero parts<;> rfl
 case kS x gz bZ=>simp only[rv,aP,ng,hSub,kh,AO];rfl
 case slice z x gz bZ jf=>
  simp only[rv,aP,ng,nP,ks,AO];show _=ks (gM G c bR) ap s k z (au G ap x) gz bZ jf;unfold ks;cases au G ap x<;> try rfl
  cases jf<;> rfl
 case jn z n x gz bZ jf=>simp only[rv,aP,ng,ss,i7,AO];show _=i7 (gM G c bR) ap s k z n (au G ap x) gz bZ jf;unfold i7;cases au G ap x<;> rfl
theorem od:∀(os:List c3) (ap:e2) (s:ah) (fin:e2→ah→ai),nf (ng G c) os ap s fin=fO (gM G c bR) os ap s fin (fun _ _ _=>.fail)
 |[],ap,s,fin=>rfl
 |o::os,ap,s,fin=>by
  simp only[nf,fO];have key:(fun(v:af) (s:ah)=>jx ap o.dst v fun ap=>nf (ng G c) os ap s fin)=fun v s=>jx ap o.dst v fun ap=>fO (gM G c bR) os ap s fin (fun _ _ _=>.fail):=by funext v s;congr 1;funext ap;exact od os ap s fin
  cases b2:o.guard with
  |none=>simp only[m0,bD];rw[key,uz]
  |some p=>obtain⟨t,want⟩:=p;simp only[m0,key,uz];rw[show(ng G c).ae=AL from rfl];unfold AL;cases ap.get t<;> rfl
theorem p1:∀(code:ad),j7 code=true→aJ (ng G c) code=exec (gM G c bR) code:=by
 intro code
 induction code with
 |skip=>intro _;rfl
 |region n3 ops=>
  intro h;cases n3 with
  |none=>funext ap s k;exact od G c ops ap s _
  |some n3=>
   cases n3 with
   |nil=>funext ap s k;simp only[aJ,exec,List.all_nil,bD];exact od G c ops ap s _
   |cons _ _=>simp [j7] at h
 |seq a b r u=>intro h;simp only[j7,bo] at h;funext ap s k;simp only[aJ,exec,r h.1,u h.2]
 |mask m a e=>intro h;funext ap s k;simp only[aJ,exec,iH];rfl
 |cond x a b r u=>intro h;simp only[j7,bo] at h;funext ap s k;simp only[aJ,exec,r h.1,u h.2];rfl
 |block id a e=>intro h;funext ap s k;simp only[aJ,exec,e h]
 |loop b3 a e=>intro h;funext ap s k;simp only[aJ,exec,e h,iH];rfl
 |exit id=>intro _;rfl
 |scope a e=>intro h;funext ap s k;simp only[aJ,exec,e h]
 |ret=>intro _;rfl
 |range j f g p a b r u=>intro h;simp only[j7,bo] at h;funext ap s k;simp only[aJ,exec,r h.1,u h.2];rfl
theorem zv{α β e:Type}(f:β→Option e)(g:α→β):∀l:List α,e5 f (l.map g)=e5 (fun x=>f (g x)) l
 |[]=>rfl
 |x::l=>by simp only[fc,e5,zv f g l]
theorem F4(fn:c8):br (ng G c) fn=Oq .not fn:=by
 have key:∀ap s,l1 fn.b3 (fn.results.map (I3 ap s)) s=finish .not fn ap s:=fun ap s=>by
  unfold l1 finish;rw[zv,show(fun x=>I3 ap s x)=rO ap s from by funext x;cases x<;> rfl];cases e5 (rO ap s) fn.results with
  |none=>rfl
  |some vs=>cases fn.b3<;> rfl
 funext x ap s;cases x with
 |norm=>exact key ap s
 |ret=>exact key ap s
 |_=>rfl
end
structure oz.qv (Z:oz):Prop where
 m:∀m a ap s k,j7 a=true→Z.aL m a ap s k=aJ Z a ap s k
 l:∀c b3 ap s k,j7 c=true→Z.cO (aJ Z c) b3 ap s k=aJ Z c ap s (eI b3 (Z.cO (aJ Z c) b3) k)
section
variable(T:Nat→Option c8)(G:Nat→af)(X:Nat→List af→ah→ai)
noncomputable def aQ:oz:=ng G (aB T G X)
theorem abz:(aQ T G X).qv:=by
 refine⟨fun m a ap s k h=>?_,fun c b3 ap s k h=>?_⟩
 ·unfold aQ;rw[p1 G _ a h];rfl
 ·unfold aQ;rw[p1 G _ c h];exact AJ c b3 ap s k
theorem MQ{f:Nat}{fn:c8}{args:List af}{s:ah}(e1:T f=some fn)(cZ:Nat.beq args.length fn.agd=true)(a0:j7 fn.body=true):
  aB T G X f args s=bG args 0 .e fun ap=>aJ (aQ T G X) fn.body ap (bif fn.b3 then s else s.ag) (br (aQ T G X) fn):=by
 rw[AI];unfold body;rw[e1];simp only[cZ,bD,aQ,p1 G _ fn.body a0,F4];congr;funext ap;cases fn.b3<;> rfl
instance:Inhabited (aQ T G X).qv:=⟨abz T G X⟩
theorem bM{f:Nat}{fn:c8}{args:List af}{s:ah}(e1:T f=some fn:=by kernel_rfl)(cZ:Nat.beq args.length fn.agd=true:=by kernel_rfl)(a0:j7 fn.body=true:=by kernel_rfl):aB T G X f args s=bG args 0 .e fun ap=>aJ (aQ T G X) fn.body ap (bif fn.b3 then s else s.ag) (br (aQ T G X) fn):=MQ T G X e1 cZ a0
end
theorem oz.qv.fA{Z:oz}(h:Z.qv){m:gd}{a:ad}{ap:e2}{s:ah}{k:fJ}{R:ai}(e:j7 a=true:=by kernel_rfl)(r:aJ Z a ap s k=R:=by kernel_rfl):Z.aL m a ap s k=R:=(h.m m a ap s k e).trans r
theorem oz.qv.q3{Z:oz}(h:Z.qv){c:ad}{b3:gd}{ap:e2}{s:ah}{k:fJ}{R:ai}(e:j7 c=true:=by kernel_rfl)(r:aJ Z c ap s (eI b3 (Z.cO (aJ Z c) b3) k)=R:=by kernel_rfl):Z.cO (aJ Z c) b3 ap s k=R:=(h.l c b3 ap s k e).trans r
end Go.Ab
end
section
namespace Go.Ab
variable{T:Nat→Option c8}{G:Nat→af}{X:Nat→List af→ah→ai}{s:ah}{k:bd}
theorem hh(n:Option Nat)(v:af):(aQ T G X).aq s k n v=dZ (gM G (aB T G X) bR) s k n v:=rfl
theorem jZ(n:Nat)(a v:af):(aQ T G X).bm s k n a v=fh (gM G (aB T G X) bR) s k n a v:=rfl
theorem cG(v:af):(aQ T G X).hA v s k=k v s:=rfl
theorem cU(v:af):(aQ T G X).aj s k (some v)=k v s:=rfl
theorem cb(t:Bool)(a b:af):(aQ T G X).bs s k (.bool t) a b=k (if t=true then a else b) s:=by cases t<;> rfl
theorem bw(t:Bool)(a b:ai):(aQ T G X).aO (.bool t) a b=if t=true then a else b:=by cases t<;> rfl
theorem wS(t w:Bool)(op:bd→ai):(aQ T G X).ae (.bool t) w op s k=if t=w then op k else k (.ed []) s:=by cases t<;> cases w<;> rfl
theorem b7(l:List af)(w:Bool)(op:bd→ai):(aQ T G X).ae (.ed l) w op s k=k (.ed []) s:=rfl
def oB(v:af)(op:bd→ai)(s:ah)(k:bd):ai:=
 match v with
 |.bool b=>bif b then op k else k (.bool false) s
 |_=>.fail
def tL(v:af)(op:bd→ai)(s:ah)(k:bd):ai:=
 match v with
 |.bool b=>bif b then k (.bool true) s else op k
 |_=>.fail
theorem ci(t:Bool)(op:bd→ai):oB (.bool t) op s k=if t=true then op k else k (.bool false) s:=by cases t<;> rfl
theorem dc(t:Bool)(op:bd→ai):tL (.bool t) op s k=if t=true then k (.bool true) s else op k:=by cases t<;> rfl
theorem cl(v:af)(gH:bd→ai):(aQ T G X).ae v true (gH) s (fun bP s1=>(aQ T G X).bs s1 k v bP (.bool false))=oB v (fun k=>gH k) s k:=by
 cases v<;> try rfl
 rename_i b;cases b<;> rfl
theorem dd(v:af)(gH:bd→ai):(aQ T G X).ae v false (gH) s (fun bP s1=>(aQ T G X).bs s1 k v (.bool true) bP)=tL v (fun k=>gH k) s k:=by
 cases v<;> try rfl
 rename_i b;cases b<;> rfl
theorem cm(v:af)(gH:bd→ai)(e:af→ah→bd→ai):(aQ T G X).ae v true (gH) s (fun bP s1=>(aQ T G X).ae v true (e bP s1) s1 (fun h s2=>(aQ T G X).bs s2 k v h (.bool false)))=oB v (fun k=>gH (fun bP s1=>e bP s1 k)) s k:=by
 cases v<;> try rfl
 rename_i b;cases b<;> rfl
theorem de(v:af)(gH:bd→ai)(e:af→ah→bd→ai):(aQ T G X).ae v false (gH) s (fun bP s1=>(aQ T G X).ae v false (e bP s1) s1 (fun h s2=>(aQ T G X).bs s2 k v (.bool true) h))=tL v (fun k=>gH (fun bP s1=>e bP s1 k)) s k:=by
 cases v<;> try rfl
 rename_i b;cases b<;> rfl
theorem cj(v:af)(gH:bd→ai)(h:af→ah→bd→ai)(r:af→ah→af→ah→bd→ai):(aQ T G X).ae v true (gH) s (fun bP s1=>(aQ T G X).ae v true (h bP s1) s1 (fun e s2=>(aQ T G X).ae v true (r bP s1 e s2) s2 (fun u y=>(aQ T G X).bs y k v u (.bool false))))=oB v (fun k=>gH (fun bP s1=>h bP s1 (fun e s2=>r bP s1 e s2 k))) s k:=by
 cases v<;> try rfl
 rename_i b;cases b<;> rfl
theorem df(v:af)(gH:bd→ai)(h:af→ah→bd→ai)(r:af→ah→af→ah→bd→ai):(aQ T G X).ae v false (gH) s (fun bP s1=>(aQ T G X).ae v false (h bP s1) s1 (fun e s2=>(aQ T G X).ae v false (r bP s1 e s2) s2 (fun u y=>(aQ T G X).bs y k v (.bool true) u)))=tL v (fun k=>gH (fun bP s1=>h bP s1 (fun e s2=>r bP s1 e s2 k))) s k:=by
 cases v<;> try rfl
 rename_i b;cases b<;> rfl
theorem cn(v:af)(gH:bd→ai)(u:af→ah→bd→ai)(y:af→ah→af→ah→bd→ai)(A:af→ah→af→ah→af→ah→bd→ai):(aQ T G X).ae v true (gH) s (fun bP s1=>(aQ T G X).ae v true (u bP s1) s1 (fun e s2=>(aQ T G X).ae v true (y bP s1 e s2) s2 (fun r h=>(aQ T G X).ae v true (A bP s1 e s2 r h) h (fun B F=>(aQ T G X).bs F k v B (.bool false)))))=oB v (fun k=>gH (fun bP s1=>u bP s1 (fun e s2=>y bP s1 e s2 (fun r h=>A bP s1 e s2 r h k)))) s k:=by
 cases v<;> try rfl
 rename_i b;cases b<;> rfl
theorem dg(v:af)(gH:bd→ai)(u:af→ah→bd→ai)(y:af→ah→af→ah→bd→ai)(A:af→ah→af→ah→af→ah→bd→ai):(aQ T G X).ae v false (gH) s (fun bP s1=>(aQ T G X).ae v false (u bP s1) s1 (fun e s2=>(aQ T G X).ae v false (y bP s1 e s2) s2 (fun r h=>(aQ T G X).ae v false (A bP s1 e s2 r h) h (fun B F=>(aQ T G X).bs F k v (.bool true) B))))=tL v (fun k=>gH (fun bP s1=>u bP s1 (fun e s2=>y bP s1 e s2 (fun r h=>A bP s1 e s2 r h k)))) s k:=by
 cases v<;> try rfl
 rename_i b;cases b<;> rfl
theorem co(v:af)(gH:bd→ai)(A:af→ah→bd→ai)(B:af→ah→af→ah→bd→ai)(F:af→ah→af→ah→af→ah→bd→ai)(H:af→ah→af→ah→af→ah→af→ah→bd→ai):(aQ T G X).ae v true (gH) s (fun bP s1=>(aQ T G X).ae v true (A bP s1) s1 (fun e s2=>(aQ T G X).ae v true (B bP s1 e s2) s2 (fun r h=>(aQ T G X).ae v true (F bP s1 e s2 r h) h (fun y u=>(aQ T G X).ae v true (H bP s1 e s2 r h y u) u (fun I J=>(aQ T G X).bs J k v I (.bool false))))))=oB v (fun k=>gH (fun bP s1=>A bP s1 (fun e s2=>B bP s1 e s2 (fun r h=>F bP s1 e s2 r h (fun y u=>H bP s1 e s2 r h y u k))))) s k:=by
 cases v<;> try rfl
 rename_i b;cases b<;> rfl
theorem dh(v:af)(gH:bd→ai)(A:af→ah→bd→ai)(B:af→ah→af→ah→bd→ai)(F:af→ah→af→ah→af→ah→bd→ai)(H:af→ah→af→ah→af→ah→af→ah→bd→ai):(aQ T G X).ae v false (gH) s (fun bP s1=>(aQ T G X).ae v false (A bP s1) s1 (fun e s2=>(aQ T G X).ae v false (B bP s1 e s2) s2 (fun r h=>(aQ T G X).ae v false (F bP s1 e s2 r h) h (fun y u=>(aQ T G X).ae v false (H bP s1 e s2 r h y u) u (fun I J=>(aQ T G X).bs J k v (.bool true) I)))))=tL v (fun k=>gH (fun bP s1=>A bP s1 (fun e s2=>B bP s1 e s2 (fun r h=>F bP s1 e s2 r h (fun y u=>H bP s1 e s2 r h y u k))))) s k:=by
 cases v<;> try rfl
 rename_i b;cases b<;> rfl
theorem cp(v:af)(gH:bd→ai)(F:af→ah→bd→ai)(H:af→ah→af→ah→bd→ai)(I:af→ah→af→ah→af→ah→bd→ai)(J:af→ah→af→ah→af→ah→af→ah→bd→ai)(M:af→ah→af→ah→af→ah→af→ah→af→ah→bd→ai):(aQ T G X).ae v true (gH) s (fun bP s1=>(aQ T G X).ae v true (F bP s1) s1 (fun e s2=>(aQ T G X).ae v true (H bP s1 e s2) s2 (fun r h=>(aQ T G X).ae v true (I bP s1 e s2 r h) h (fun y u=>(aQ T G X).ae v true (J bP s1 e s2 r h y u) u (fun B A=>(aQ T G X).ae v true (M bP s1 e s2 r h y u B A) A (fun N O=>(aQ T G X).bs O k v N (.bool false)))))))=oB v (fun k=>gH (fun bP s1=>F bP s1 (fun e s2=>H bP s1 e s2 (fun r h=>I bP s1 e s2 r h (fun y u=>J bP s1 e s2 r h y u (fun B A=>M bP s1 e s2 r h y u B A k)))))) s k:=by
 cases v<;> try rfl
 rename_i b;cases b<;> rfl
theorem di(v:af)(gH:bd→ai)(F:af→ah→bd→ai)(H:af→ah→af→ah→bd→ai)(I:af→ah→af→ah→af→ah→bd→ai)(J:af→ah→af→ah→af→ah→af→ah→bd→ai)(M:af→ah→af→ah→af→ah→af→ah→af→ah→bd→ai):(aQ T G X).ae v false (gH) s (fun bP s1=>(aQ T G X).ae v false (F bP s1) s1 (fun e s2=>(aQ T G X).ae v false (H bP s1 e s2) s2 (fun r h=>(aQ T G X).ae v false (I bP s1 e s2 r h) h (fun y u=>(aQ T G X).ae v false (J bP s1 e s2 r h y u) u (fun B A=>(aQ T G X).ae v false (M bP s1 e s2 r h y u B A) A (fun N O=>(aQ T G X).bs O k v (.bool true) N))))))=tL v (fun k=>gH (fun bP s1=>F bP s1 (fun e s2=>H bP s1 e s2 (fun r h=>I bP s1 e s2 r h (fun y u=>J bP s1 e s2 r h y u (fun B A=>M bP s1 e s2 r h y u B A k)))))) s k:=by
 cases v<;> try rfl
 rename_i b;cases b<;> rfl
theorem cq(v:af)(gH:bd→ai)(I:af→ah→bd→ai)(J:af→ah→af→ah→bd→ai)(M:af→ah→af→ah→af→ah→bd→ai)(N:af→ah→af→ah→af→ah→af→ah→bd→ai)(O:af→ah→af→ah→af→ah→af→ah→af→ah→bd→ai)(U:af→ah→af→ah→af→ah→af→ah→af→ah→af→ah→bd→ai):(aQ T G X).ae v true (gH) s (fun bP s1=>(aQ T G X).ae v true (I bP s1) s1 (fun e s2=>(aQ T G X).ae v true (J bP s1 e s2) s2 (fun r h=>(aQ T G X).ae v true (M bP s1 e s2 r h) h (fun y u=>(aQ T G X).ae v true (N bP s1 e s2 r h y u) u (fun B A=>(aQ T G X).ae v true (O bP s1 e s2 r h y u B A) A (fun H F=>(aQ T G X).ae v true (U bP s1 e s2 r h y u B A H F) F (fun V Y=>(aQ T G X).bs Y k v V (.bool false))))))))=oB v (fun k=>gH (fun bP s1=>I bP s1 (fun e s2=>J bP s1 e s2 (fun r h=>M bP s1 e s2 r h (fun y u=>N bP s1 e s2 r h y u (fun B A=>O bP s1 e s2 r h y u B A (fun H F=>U bP s1 e s2 r h y u B A H F k))))))) s k:=by
 cases v<;> try rfl
 rename_i b;cases b<;> rfl
theorem dj(v:af)(gH:bd→ai)(I:af→ah→bd→ai)(J:af→ah→af→ah→bd→ai)(M:af→ah→af→ah→af→ah→bd→ai)(N:af→ah→af→ah→af→ah→af→ah→bd→ai)(O:af→ah→af→ah→af→ah→af→ah→af→ah→bd→ai)(U:af→ah→af→ah→af→ah→af→ah→af→ah→af→ah→bd→ai):(aQ T G X).ae v false (gH) s (fun bP s1=>(aQ T G X).ae v false (I bP s1) s1 (fun e s2=>(aQ T G X).ae v false (J bP s1 e s2) s2 (fun r h=>(aQ T G X).ae v false (M bP s1 e s2 r h) h (fun y u=>(aQ T G X).ae v false (N bP s1 e s2 r h y u) u (fun B A=>(aQ T G X).ae v false (O bP s1 e s2 r h y u B A) A (fun H F=>(aQ T G X).ae v false (U bP s1 e s2 r h y u B A H F) F (fun V Y=>(aQ T G X).bs Y k v (.bool true) V)))))))=tL v (fun k=>gH (fun bP s1=>I bP s1 (fun e s2=>J bP s1 e s2 (fun r h=>M bP s1 e s2 r h (fun y u=>N bP s1 e s2 r h y u (fun B A=>O bP s1 e s2 r h y u B A (fun H F=>U bP s1 e s2 r h y u B A H F k))))))) s k:=by
 cases v<;> try rfl
 rename_i b;cases b<;> rfl
theorem cr(v:af)(gH:bd→ai)(M:af→ah→bd→ai)(N:af→ah→af→ah→bd→ai)(O:af→ah→af→ah→af→ah→bd→ai)(U:af→ah→af→ah→af→ah→af→ah→bd→ai)(V:af→ah→af→ah→af→ah→af→ah→af→ah→bd→ai)(Y:af→ah→af→ah→af→ah→af→ah→af→ah→af→ah→bd→ai)(Z:af→ah→af→ah→af→ah→af→ah→af→ah→af→ah→af→ah→bd→ai):(aQ T G X).ae v true (gH) s (fun bP s1=>(aQ T G X).ae v true (M bP s1) s1 (fun e s2=>(aQ T G X).ae v true (N bP s1 e s2) s2 (fun r h=>(aQ T G X).ae v true (O bP s1 e s2 r h) h (fun y u=>(aQ T G X).ae v true (U bP s1 e s2 r h y u) u (fun B A=>(aQ T G X).ae v true (V bP s1 e s2 r h y u B A) A (fun H F=>(aQ T G X).ae v true (Y bP s1 e s2 r h y u B A H F) F (fun J I=>(aQ T G X).ae v true (Z bP s1 e s2 r h y u B A H F J I) I (fun aa ab=>(aQ T G X).bs ab k v aa (.bool false)))))))))=oB v (fun k=>gH (fun bP s1=>M bP s1 (fun e s2=>N bP s1 e s2 (fun r h=>O bP s1 e s2 r h (fun y u=>U bP s1 e s2 r h y u (fun B A=>V bP s1 e s2 r h y u B A (fun H F=>Y bP s1 e s2 r h y u B A H F (fun J I=>Z bP s1 e s2 r h y u B A H F J I k)))))))) s k:=by
 cases v<;> try rfl
 rename_i b;cases b<;> rfl
theorem dk(v:af)(gH:bd→ai)(M:af→ah→bd→ai)(N:af→ah→af→ah→bd→ai)(O:af→ah→af→ah→af→ah→bd→ai)(U:af→ah→af→ah→af→ah→af→ah→bd→ai)(V:af→ah→af→ah→af→ah→af→ah→af→ah→bd→ai)(Y:af→ah→af→ah→af→ah→af→ah→af→ah→af→ah→bd→ai)(Z:af→ah→af→ah→af→ah→af→ah→af→ah→af→ah→af→ah→bd→ai):(aQ T G X).ae v false (gH) s (fun bP s1=>(aQ T G X).ae v false (M bP s1) s1 (fun e s2=>(aQ T G X).ae v false (N bP s1 e s2) s2 (fun r h=>(aQ T G X).ae v false (O bP s1 e s2 r h) h (fun y u=>(aQ T G X).ae v false (U bP s1 e s2 r h y u) u (fun B A=>(aQ T G X).ae v false (V bP s1 e s2 r h y u B A) A (fun H F=>(aQ T G X).ae v false (Y bP s1 e s2 r h y u B A H F) F (fun J I=>(aQ T G X).ae v false (Z bP s1 e s2 r h y u B A H F J I) I (fun aa ab=>(aQ T G X).bs ab k v (.bool true) aa))))))))=tL v (fun k=>gH (fun bP s1=>M bP s1 (fun e s2=>N bP s1 e s2 (fun r h=>O bP s1 e s2 r h (fun y u=>U bP s1 e s2 r h y u (fun B A=>V bP s1 e s2 r h y u B A (fun H F=>Y bP s1 e s2 r h y u B A H F (fun J I=>Z bP s1 e s2 r h y u B A H F J I k)))))))) s k:=by
 cases v<;> try rfl
 rename_i b;cases b<;> rfl
theorem ct(v:af)(gH:bd→ai)(O:af→ah→bd→ai)(U:af→ah→af→ah→bd→ai)(V:af→ah→af→ah→af→ah→bd→ai)(Y:af→ah→af→ah→af→ah→af→ah→bd→ai)(Z:af→ah→af→ah→af→ah→af→ah→af→ah→bd→ai)(aa:af→ah→af→ah→af→ah→af→ah→af→ah→af→ah→bd→ai)(ab:af→ah→af→ah→af→ah→af→ah→af→ah→af→ah→af→ah→bd→ai)(ac:af→ah→af→ah→af→ah→af→ah→af→ah→af→ah→af→ah→af→ah→bd→ai):(aQ T G X).ae v true (gH) s (fun bP s1=>(aQ T G X).ae v true (O bP s1) s1 (fun e s2=>(aQ T G X).ae v true (U bP s1 e s2) s2 (fun r h=>(aQ T G X).ae v true (V bP s1 e s2 r h) h (fun y u=>(aQ T G X).ae v true (Y bP s1 e s2 r h y u) u (fun B A=>(aQ T G X).ae v true (Z bP s1 e s2 r h y u B A) A (fun H F=>(aQ T G X).ae v true (aa bP s1 e s2 r h y u B A H F) F (fun J I=>(aQ T G X).ae v true (ab bP s1 e s2 r h y u B A H F J I) I (fun N M=>(aQ T G X).ae v true (ac bP s1 e s2 r h y u B A H F J I N M) M (fun ad ag=>(aQ T G X).bs ag k v ad (.bool false))))))))))=oB v (fun k=>gH (fun bP s1=>O bP s1 (fun e s2=>U bP s1 e s2 (fun r h=>V bP s1 e s2 r h (fun y u=>Y bP s1 e s2 r h y u (fun B A=>Z bP s1 e s2 r h y u B A (fun H F=>aa bP s1 e s2 r h y u B A H F (fun J I=>ab bP s1 e s2 r h y u B A H F J I (fun N M=>ac bP s1 e s2 r h y u B A H F J I N M k))))))))) s k:=by
 cases v<;> try rfl
 rename_i b;cases b<;> rfl
theorem dl(v:af)(gH:bd→ai)(O:af→ah→bd→ai)(U:af→ah→af→ah→bd→ai)(V:af→ah→af→ah→af→ah→bd→ai)(Y:af→ah→af→ah→af→ah→af→ah→bd→ai)(Z:af→ah→af→ah→af→ah→af→ah→af→ah→bd→ai)(aa:af→ah→af→ah→af→ah→af→ah→af→ah→af→ah→bd→ai)(ab:af→ah→af→ah→af→ah→af→ah→af→ah→af→ah→af→ah→bd→ai)(ac:af→ah→af→ah→af→ah→af→ah→af→ah→af→ah→af→ah→af→ah→bd→ai):(aQ T G X).ae v false (gH) s (fun bP s1=>(aQ T G X).ae v false (O bP s1) s1 (fun e s2=>(aQ T G X).ae v false (U bP s1 e s2) s2 (fun r h=>(aQ T G X).ae v false (V bP s1 e s2 r h) h (fun y u=>(aQ T G X).ae v false (Y bP s1 e s2 r h y u) u (fun B A=>(aQ T G X).ae v false (Z bP s1 e s2 r h y u B A) A (fun H F=>(aQ T G X).ae v false (aa bP s1 e s2 r h y u B A H F) F (fun J I=>(aQ T G X).ae v false (ab bP s1 e s2 r h y u B A H F J I) I (fun N M=>(aQ T G X).ae v false (ac bP s1 e s2 r h y u B A H F J I N M) M (fun ad ag=>(aQ T G X).bs ag k v (.bool true) ad)))))))))=tL v (fun k=>gH (fun bP s1=>O bP s1 (fun e s2=>U bP s1 e s2 (fun r h=>V bP s1 e s2 r h (fun y u=>Y bP s1 e s2 r h y u (fun B A=>Z bP s1 e s2 r h y u B A (fun H F=>aa bP s1 e s2 r h y u B A H F (fun J I=>ab bP s1 e s2 r h y u B A H F J I (fun N M=>ac bP s1 e s2 r h y u B A H F J I N M k))))))))) s k:=by
 cases v<;> try rfl
 rename_i b;cases b<;> rfl
theorem bI(v:af)(gH:bd→ai)(V:af→ah→bd→ai)(Y:af→ah→af→ah→bd→ai)(Z:af→ah→af→ah→af→ah→bd→ai)(aa:af→ah→af→ah→af→ah→af→ah→bd→ai)(ab:af→ah→af→ah→af→ah→af→ah→af→ah→bd→ai)(ac:af→ah→af→ah→af→ah→af→ah→af→ah→af→ah→bd→ai)(ad:af→ah→af→ah→af→ah→af→ah→af→ah→af→ah→af→ah→bd→ai)(ag:af→ah→af→ah→af→ah→af→ah→af→ah→af→ah→af→ah→af→ah→bd→ai)(aj:af→ah→af→ah→af→ah→af→ah→af→ah→af→ah→af→ah→af→ah→af→ah→bd→ai):(aQ T G X).ae v true (gH) s (fun bP s1=>(aQ T G X).ae v true (V bP s1) s1 (fun e s2=>(aQ T G X).ae v true (Y bP s1 e s2) s2 (fun r h=>(aQ T G X).ae v true (Z bP s1 e s2 r h) h (fun y u=>(aQ T G X).ae v true (aa bP s1 e s2 r h y u) u (fun B A=>(aQ T G X).ae v true (ab bP s1 e s2 r h y u B A) A (fun H F=>(aQ T G X).ae v true (ac bP s1 e s2 r h y u B A H F) F (fun J I=>(aQ T G X).ae v true (ad bP s1 e s2 r h y u B A H F J I) I (fun N M=>(aQ T G X).ae v true (ag bP s1 e s2 r h y u B A H F J I N M) M (fun U O=>(aQ T G X).ae v true (aj bP s1 e s2 r h y u B A H F J I N M U O) O (fun ak al=>(aQ T G X).bs al k v ak (.bool false)))))))))))=oB v (fun k=>gH (fun bP s1=>V bP s1 (fun e s2=>Y bP s1 e s2 (fun r h=>Z bP s1 e s2 r h (fun y u=>aa bP s1 e s2 r h y u (fun B A=>ab bP s1 e s2 r h y u B A (fun H F=>ac bP s1 e s2 r h y u B A H F (fun J I=>ad bP s1 e s2 r h y u B A H F J I (fun N M=>ag bP s1 e s2 r h y u B A H F J I N M (fun U O=>aj bP s1 e s2 r h y u B A H F J I N M U O k)))))))))) s k:=by
 cases v<;> try rfl
 rename_i b;cases b<;> rfl
theorem cv(v:af)(gH:bd→ai)(V:af→ah→bd→ai)(Y:af→ah→af→ah→bd→ai)(Z:af→ah→af→ah→af→ah→bd→ai)(aa:af→ah→af→ah→af→ah→af→ah→bd→ai)(ab:af→ah→af→ah→af→ah→af→ah→af→ah→bd→ai)(ac:af→ah→af→ah→af→ah→af→ah→af→ah→af→ah→bd→ai)(ad:af→ah→af→ah→af→ah→af→ah→af→ah→af→ah→af→ah→bd→ai)(ag:af→ah→af→ah→af→ah→af→ah→af→ah→af→ah→af→ah→af→ah→bd→ai)(aj:af→ah→af→ah→af→ah→af→ah→af→ah→af→ah→af→ah→af→ah→af→ah→bd→ai):(aQ T G X).ae v false (gH) s (fun bP s1=>(aQ T G X).ae v false (V bP s1) s1 (fun e s2=>(aQ T G X).ae v false (Y bP s1 e s2) s2 (fun r h=>(aQ T G X).ae v false (Z bP s1 e s2 r h) h (fun y u=>(aQ T G X).ae v false (aa bP s1 e s2 r h y u) u (fun B A=>(aQ T G X).ae v false (ab bP s1 e s2 r h y u B A) A (fun H F=>(aQ T G X).ae v false (ac bP s1 e s2 r h y u B A H F) F (fun J I=>(aQ T G X).ae v false (ad bP s1 e s2 r h y u B A H F J I) I (fun N M=>(aQ T G X).ae v false (ag bP s1 e s2 r h y u B A H F J I N M) M (fun U O=>(aQ T G X).ae v false (aj bP s1 e s2 r h y u B A H F J I N M U O) O (fun ak al=>(aQ T G X).bs al k v (.bool true) ak))))))))))=tL v (fun k=>gH (fun bP s1=>V bP s1 (fun e s2=>Y bP s1 e s2 (fun r h=>Z bP s1 e s2 r h (fun y u=>aa bP s1 e s2 r h y u (fun B A=>ab bP s1 e s2 r h y u B A (fun H F=>ac bP s1 e s2 r h y u B A H F (fun J I=>ad bP s1 e s2 r h y u B A H F J I (fun N M=>ag bP s1 e s2 r h y u B A H F J I N M (fun U O=>aj bP s1 e s2 r h y u B A H F J I N M U O k)))))))))) s k:=by
 cases v<;> try rfl
 rename_i b;cases b<;> rfl
theorem bJ(v:af)(gH:bd→ai)(Z:af→ah→bd→ai)(aa:af→ah→af→ah→bd→ai)(ab:af→ah→af→ah→af→ah→bd→ai)(ac:af→ah→af→ah→af→ah→af→ah→bd→ai)(ad:af→ah→af→ah→af→ah→af→ah→af→ah→bd→ai)(ag:af→ah→af→ah→af→ah→af→ah→af→ah→af→ah→bd→ai)(aj:af→ah→af→ah→af→ah→af→ah→af→ah→af→ah→af→ah→bd→ai)(ak:af→ah→af→ah→af→ah→af→ah→af→ah→af→ah→af→ah→af→ah→bd→ai)(al:af→ah→af→ah→af→ah→af→ah→af→ah→af→ah→af→ah→af→ah→af→ah→bd→ai)(am:af→ah→af→ah→af→ah→af→ah→af→ah→af→ah→af→ah→af→ah→af→ah→af→ah→bd→ai):(aQ T G X).ae v true (gH) s (fun bP s1=>(aQ T G X).ae v true (Z bP s1) s1 (fun e s2=>(aQ T G X).ae v true (aa bP s1 e s2) s2 (fun r h=>(aQ T G X).ae v true (ab bP s1 e s2 r h) h (fun y u=>(aQ T G X).ae v true (ac bP s1 e s2 r h y u) u (fun B A=>(aQ T G X).ae v true (ad bP s1 e s2 r h y u B A) A (fun H F=>(aQ T G X).ae v true (ag bP s1 e s2 r h y u B A H F) F (fun J I=>(aQ T G X).ae v true (aj bP s1 e s2 r h y u B A H F J I) I (fun N M=>(aQ T G X).ae v true (ak bP s1 e s2 r h y u B A H F J I N M) M (fun U O=>(aQ T G X).ae v true (al bP s1 e s2 r h y u B A H F J I N M U O) O (fun Y V=>(aQ T G X).ae v true (am bP s1 e s2 r h y u B A H F J I N M U O Y V) V (fun an ao=>(aQ T G X).bs ao k v an (.bool false))))))))))))=oB v (fun k=>gH (fun bP s1=>Z bP s1 (fun e s2=>aa bP s1 e s2 (fun r h=>ab bP s1 e s2 r h (fun y u=>ac bP s1 e s2 r h y u (fun B A=>ad bP s1 e s2 r h y u B A (fun H F=>ag bP s1 e s2 r h y u B A H F (fun J I=>aj bP s1 e s2 r h y u B A H F J I (fun N M=>ak bP s1 e s2 r h y u B A H F J I N M (fun U O=>al bP s1 e s2 r h y u B A H F J I N M U O (fun Y V=>am bP s1 e s2 r h y u B A H F J I N M U O Y V k))))))))))) s k:=by
 cases v<;> try rfl
 rename_i b;cases b<;> rfl
theorem cw(v:af)(gH:bd→ai)(Z:af→ah→bd→ai)(aa:af→ah→af→ah→bd→ai)(ab:af→ah→af→ah→af→ah→bd→ai)(ac:af→ah→af→ah→af→ah→af→ah→bd→ai)(ad:af→ah→af→ah→af→ah→af→ah→af→ah→bd→ai)(ag:af→ah→af→ah→af→ah→af→ah→af→ah→af→ah→bd→ai)(aj:af→ah→af→ah→af→ah→af→ah→af→ah→af→ah→af→ah→bd→ai)(ak:af→ah→af→ah→af→ah→af→ah→af→ah→af→ah→af→ah→af→ah→bd→ai)(al:af→ah→af→ah→af→ah→af→ah→af→ah→af→ah→af→ah→af→ah→af→ah→bd→ai)(am:af→ah→af→ah→af→ah→af→ah→af→ah→af→ah→af→ah→af→ah→af→ah→af→ah→bd→ai):(aQ T G X).ae v false (gH) s (fun bP s1=>(aQ T G X).ae v false (Z bP s1) s1 (fun e s2=>(aQ T G X).ae v false (aa bP s1 e s2) s2 (fun r h=>(aQ T G X).ae v false (ab bP s1 e s2 r h) h (fun y u=>(aQ T G X).ae v false (ac bP s1 e s2 r h y u) u (fun B A=>(aQ T G X).ae v false (ad bP s1 e s2 r h y u B A) A (fun H F=>(aQ T G X).ae v false (ag bP s1 e s2 r h y u B A H F) F (fun J I=>(aQ T G X).ae v false (aj bP s1 e s2 r h y u B A H F J I) I (fun N M=>(aQ T G X).ae v false (ak bP s1 e s2 r h y u B A H F J I N M) M (fun U O=>(aQ T G X).ae v false (al bP s1 e s2 r h y u B A H F J I N M U O) O (fun Y V=>(aQ T G X).ae v false (am bP s1 e s2 r h y u B A H F J I N M U O Y V) V (fun an ao=>(aQ T G X).bs ao k v (.bool true) an)))))))))))=tL v (fun k=>gH (fun bP s1=>Z bP s1 (fun e s2=>aa bP s1 e s2 (fun r h=>ab bP s1 e s2 r h (fun y u=>ac bP s1 e s2 r h y u (fun B A=>ad bP s1 e s2 r h y u B A (fun H F=>ag bP s1 e s2 r h y u B A H F (fun J I=>aj bP s1 e s2 r h y u B A H F J I (fun N M=>ak bP s1 e s2 r h y u B A H F J I N M (fun U O=>al bP s1 e s2 r h y u B A H F J I N M U O (fun Y V=>am bP s1 e s2 r h y u B A H F J I N M U O Y V k))))))))))) s k:=by
 cases v<;> try rfl
 rename_i b;cases b<;> rfl
theorem bK(v:af)(gH:bd→ai)(ab:af→ah→bd→ai)(ac:af→ah→af→ah→bd→ai)(ad:af→ah→af→ah→af→ah→bd→ai)(ag:af→ah→af→ah→af→ah→af→ah→bd→ai)(aj:af→ah→af→ah→af→ah→af→ah→af→ah→bd→ai)(ak:af→ah→af→ah→af→ah→af→ah→af→ah→af→ah→bd→ai)(al:af→ah→af→ah→af→ah→af→ah→af→ah→af→ah→af→ah→bd→ai)(am:af→ah→af→ah→af→ah→af→ah→af→ah→af→ah→af→ah→af→ah→bd→ai)(an:af→ah→af→ah→af→ah→af→ah→af→ah→af→ah→af→ah→af→ah→af→ah→bd→ai)(ao:af→ah→af→ah→af→ah→af→ah→af→ah→af→ah→af→ah→af→ah→af→ah→af→ah→bd→ai)(ap:af→ah→af→ah→af→ah→af→ah→af→ah→af→ah→af→ah→af→ah→af→ah→af→ah→af→ah→bd→ai):(aQ T G X).ae v true (gH) s (fun bP s1=>(aQ T G X).ae v true (ab bP s1) s1 (fun e s2=>(aQ T G X).ae v true (ac bP s1 e s2) s2 (fun r h=>(aQ T G X).ae v true (ad bP s1 e s2 r h) h (fun y u=>(aQ T G X).ae v true (ag bP s1 e s2 r h y u) u (fun B A=>(aQ T G X).ae v true (aj bP s1 e s2 r h y u B A) A (fun H F=>(aQ T G X).ae v true (ak bP s1 e s2 r h y u B A H F) F (fun J I=>(aQ T G X).ae v true (al bP s1 e s2 r h y u B A H F J I) I (fun N M=>(aQ T G X).ae v true (am bP s1 e s2 r h y u B A H F J I N M) M (fun U O=>(aQ T G X).ae v true (an bP s1 e s2 r h y u B A H F J I N M U O) O (fun Y V=>(aQ T G X).ae v true (ao bP s1 e s2 r h y u B A H F J I N M U O Y V) V (fun aa Z=>(aQ T G X).ae v true (ap bP s1 e s2 r h y u B A H F J I N M U O Y V aa Z) Z (fun aq ar=>(aQ T G X).bs ar k v aq (.bool false)))))))))))))=oB v (fun k=>gH (fun bP s1=>ab bP s1 (fun e s2=>ac bP s1 e s2 (fun r h=>ad bP s1 e s2 r h (fun y u=>ag bP s1 e s2 r h y u (fun B A=>aj bP s1 e s2 r h y u B A (fun H F=>ak bP s1 e s2 r h y u B A H F (fun J I=>al bP s1 e s2 r h y u B A H F J I (fun N M=>am bP s1 e s2 r h y u B A H F J I N M (fun U O=>an bP s1 e s2 r h y u B A H F J I N M U O (fun Y V=>ao bP s1 e s2 r h y u B A H F J I N M U O Y V (fun aa Z=>ap bP s1 e s2 r h y u B A H F J I N M U O Y V aa Z k)))))))))))) s k:=by
 cases v<;> try rfl
 rename_i b;cases b<;> rfl
theorem cx(v:af)(gH:bd→ai)(ab:af→ah→bd→ai)(ac:af→ah→af→ah→bd→ai)(ad:af→ah→af→ah→af→ah→bd→ai)(ag:af→ah→af→ah→af→ah→af→ah→bd→ai)(aj:af→ah→af→ah→af→ah→af→ah→af→ah→bd→ai)(ak:af→ah→af→ah→af→ah→af→ah→af→ah→af→ah→bd→ai)(al:af→ah→af→ah→af→ah→af→ah→af→ah→af→ah→af→ah→bd→ai)(am:af→ah→af→ah→af→ah→af→ah→af→ah→af→ah→af→ah→af→ah→bd→ai)(an:af→ah→af→ah→af→ah→af→ah→af→ah→af→ah→af→ah→af→ah→af→ah→bd→ai)(ao:af→ah→af→ah→af→ah→af→ah→af→ah→af→ah→af→ah→af→ah→af→ah→af→ah→bd→ai)(ap:af→ah→af→ah→af→ah→af→ah→af→ah→af→ah→af→ah→af→ah→af→ah→af→ah→af→ah→bd→ai):(aQ T G X).ae v false (gH) s (fun bP s1=>(aQ T G X).ae v false (ab bP s1) s1 (fun e s2=>(aQ T G X).ae v false (ac bP s1 e s2) s2 (fun r h=>(aQ T G X).ae v false (ad bP s1 e s2 r h) h (fun y u=>(aQ T G X).ae v false (ag bP s1 e s2 r h y u) u (fun B A=>(aQ T G X).ae v false (aj bP s1 e s2 r h y u B A) A (fun H F=>(aQ T G X).ae v false (ak bP s1 e s2 r h y u B A H F) F (fun J I=>(aQ T G X).ae v false (al bP s1 e s2 r h y u B A H F J I) I (fun N M=>(aQ T G X).ae v false (am bP s1 e s2 r h y u B A H F J I N M) M (fun U O=>(aQ T G X).ae v false (an bP s1 e s2 r h y u B A H F J I N M U O) O (fun Y V=>(aQ T G X).ae v false (ao bP s1 e s2 r h y u B A H F J I N M U O Y V) V (fun aa Z=>(aQ T G X).ae v false (ap bP s1 e s2 r h y u B A H F J I N M U O Y V aa Z) Z (fun aq ar=>(aQ T G X).bs ar k v (.bool true) aq))))))))))))=tL v (fun k=>gH (fun bP s1=>ab bP s1 (fun e s2=>ac bP s1 e s2 (fun r h=>ad bP s1 e s2 r h (fun y u=>ag bP s1 e s2 r h y u (fun B A=>aj bP s1 e s2 r h y u B A (fun H F=>ak bP s1 e s2 r h y u B A H F (fun J I=>al bP s1 e s2 r h y u B A H F J I (fun N M=>am bP s1 e s2 r h y u B A H F J I N M (fun U O=>an bP s1 e s2 r h y u B A H F J I N M U O (fun Y V=>ao bP s1 e s2 r h y u B A H F J I N M U O Y V (fun aa Z=>ap bP s1 e s2 r h y u B A H F J I N M U O Y V aa Z k)))))))))))) s k:=by
 cases v<;> try rfl
 rename_i b;cases b<;> rfl
theorem zw(v:af)(h:v.e9=true):(aQ T G X).oA v s k=k (.ref (.l s.own.length) 0) (s.new (.cells (v.ao s.aa).cells)):=by show wO v s k=_;unfold wO;rw[h];rfl
section
variable(cs:List af)(eG:IntKind)(n:Int)(b:Bool)(fo:List Nat)(a:Loc)(o sz:Nat)(es:List af)(g:e0)(f:Nat)
theorem aH:(aQ T G X).eR (.agg cs) s k=k (.bk cs) s:=rfl
theorem aK:(aQ T G X).eR (.int eG n) s k=k (.bk [.int eG n]) s:=rfl
theorem aD:(aQ T G X).eR (.bool b) s k=k (.bk [.bool b]) s:=rfl
theorem aM:(aQ T G X).eR (.str fo) s k=k (.bk [.str fo]) s:=rfl
theorem aS:(aQ T G X).eR (.bx sz es g) s k=k (.bk [.bx sz es (g.ao s.aa)]) s:=rfl
theorem aT:(aQ T G X).eR (.fn f cs) s k=k (.bk [.fn f cs]) s:=rfl
theorem aE:(aQ T G X).eR (.bk cs) s k=k (.bk [.bk cs]) s:=rfl
theorem aN:(aQ T G X).eR (.ref a o) s k=k (.bk [.ref (a.ao s.aa) o]) s:=rfl
end
theorem aI(sz:Nat)(es:List af)(g:e0):(aQ T G X).cg s k false (.bx sz es g)=k (.int .i64 es.length) s:=rfl
theorem aY(a:Loc)(off n c sz:Nat):(aQ T G X).cg s k false (.cH a off n c sz)=k (.int .i64 n) s:=rfl
theorem a3(fo:List Nat):(aQ T G X).cg s k true (.str fo)=k (.int .i64 fo.length) s:=rfl
theorem bg(c:af)(cs:List af):(aQ T G X).aq s k none (.bk (c::cs))=k c s:=rfl
theorem bn(n:Nat)(cs:List af)(h:n≤cs.length):(aQ T G X).aq s k (some n) (.bk cs)=k (.agg (cs.take n)) s:=by show(bif Nat.ble n cs.length then _ else _)=_;rw[show Nat.ble n cs.length=true from ec h];rfl
theorem dC(off:Nat)(cs:List af):(aQ T G X).av s k off (.bk cs)=k (.bk (cs.drop off)) s:=rfl
theorem ay(off o:Nat)(a:Loc):(aQ T G X).av s k off (.ref a o)=k (.ref a (o+off)) s:=rfl
theorem gW(eG:IntKind)(n:Nat):ff (.int eG (n:Int))=some n:=by simp [ff]
theorem lC(sz:Nat)(es:List af)(g:e0)(eG:IntKind)(i:Nat)(e:af)(h:es[i]? =some e):(aQ T G X).bV s k sz (.bx sz es g) (.int eG (i:Int))=k (.bk e.cells) s:=by show lf (gM G (aB T G X) bR) s k sz (.bx sz es g) (.int eG (i:Int))=_;unfold lf;rw[gW];simp only[show Nat.beq sz sz=true from e7 sz,bD,h];rfl
theorem I4(sz:Nat)(es:List af)(g:e0)(eG:IntKind)(i:Int)(e:af)(eO:0≤i)(h:es[i.toNat]? =some e):(aQ T G X).bV s k sz (.bx sz es g) (.int eG i)=k (.bk e.cells) s:=by
 have:=lC (T:=T) (G:=G) (X:=X) (s:=s) (k:=k) sz es g eG i.toNat e h
 rwa [Int.toNat_of_nonneg eO] at this
theorem nQ{f:Nat}{args:List af}{v:af}{s':ah}(h:aB T G X f args s=.ok v s')(cW:s'.aa=s.aa):(aQ T G X).bj s k f args=k v s':=by show eN _ _ _ _ _ _=_;unfold eN;show(match aB T G X f args s with |.ok v s'=>_|.panic v s'=>_|.fail=>_)=_;rw[h];simp only[cW,e7,bD]
theorem aZ{f:Nat}{args:List af}{v:af}(h:aB T G X f args s=.ok v s):(aQ T G X).bj s k f args=k v s:=nQ h rfl
theorem bH{f:Nat}{dM args:List af}:(aQ T G X).st s k (.fn f dM) args=(aQ T G X).bj s k f (args++dM):=rfl
theorem l3{f:Nat}{args:List af}{v:af}{s':ah}(e:af.aX args=true)(h:aB T G X f args {own:=[],up:=[],ro:=[]}=.ok v s')(bX:v.bb=true):(aQ T G X).gT s k f args=k v s:=by show hX _ _ _ _ _=_;unfold hX;rw[e];simp only[bD];show(match aB T G X f args _ with |.ok v _=>_|_=>_)=_;rw[h];simp only[bX,bD]
theorem gX(i:Nat)(vs:List af)(v:af)(h:vs[i]? =some v):(aQ T G X).b1 s k i (.ed vs)=k v s:=by show rL _ _ _ _=_;rw[h];rfl
section
variable(eG:IntKind)(a b:Int)
theorem abA:al .add (.int eG a) (.int eG b)=some (.int eG (eG.wrap (a+b))):=by simp [al,gS]
theorem abB:al .sub (.int eG a) (.int eG b)=some (.int eG (eG.wrap (a-b))):=by simp [al,gS]
theorem abC:al .mul (.int eG a) (.int eG b)=some (.int eG (eG.wrap (a*b))):=by simp [al,gS]
theorem abD(h:b≠0):al .quo (.int eG a) (.int eG b)=some (.int eG (eG.wrap (a.tdiv b))):=by simp [al,gS,h]
theorem abE(h:b≠0):al .rem (.int eG a) (.int eG b)=some (.int eG (a.tmod b)):=by simp [al,gS,h]
theorem abF:al .eql (.int eG a) (.int eG b)=some (.bool (decide (a=b))):=by simp only[al,gS,↓reduceIte];congr 2
theorem abG:al .neq (.int eG a) (.int eG b)=some (.bool (decide (¬a=b))):=by simp only[al,gS,↓reduceIte,bne];congr 2;by_cases h:a=b<;> simp [h]
theorem abH:al .lss (.int eG a) (.int eG b)=some (.bool (decide (a<b))):=by simp [al,gS]
theorem abI:al .leq (.int eG a) (.int eG b)=some (.bool (decide (a≤b))):=by simp [al,gS]
theorem abJ:al .gtr (.int eG a) (.int eG b)=some (.bool (decide (b<a))):=by simp [al,gS]
theorem abK:al .geq (.int eG a) (.int eG b)=some (.bool (decide (b≤a))):=by simp [al,gS]
end
section
variable(eG:IntKind)(a b:Int)
theorem fF:(aQ T G X).aj s k (al .add (.int eG a) (.int eG b))=k (.int eG (eG.wrap (a+b))) s:=by rw[abA];rfl
theorem f0:(aQ T G X).aj s k (al .sub (.int eG a) (.int eG b))=k (.int eG (eG.wrap (a-b))) s:=by rw[abB];rfl
theorem gq:(aQ T G X).aj s k (al .mul (.int eG a) (.int eG b))=k (.int eG (eG.wrap (a*b))) s:=by rw[abC];rfl
theorem OD(h:b≠0):(aQ T G X).aj s k (al .quo (.int eG a) (.int eG b))=k (.int eG (eG.wrap (a.tdiv b))) s:=by rw[abD _ _ _ h];rfl
theorem OE(h:b≠0):(aQ T G X).aj s k (al .rem (.int eG a) (.int eG b))=k (.int eG (a.tmod b)) s:=by rw[abE _ _ _ h];rfl
theorem bO:(aQ T G X).aj s k (al .eql (.int eG a) (.int eG b))=k (.bool (decide (a=b))) s:=by rw[abF];rfl
theorem cf:(aQ T G X).aj s k (al .neq (.int eG a) (.int eG b))=k (.bool (decide (¬a=b))) s:=by rw[abG];rfl
theorem bl:(aQ T G X).aj s k (al .lss (.int eG a) (.int eG b))=k (.bool (decide (a<b))) s:=by rw[abH];rfl
theorem c6:(aQ T G X).aj s k (al .leq (.int eG a) (.int eG b))=k (.bool (decide (a≤b))) s:=by rw[abI];rfl
theorem b8:(aQ T G X).aj s k (al .gtr (.int eG a) (.int eG b))=k (.bool (decide (b<a))) s:=by rw[abJ];rfl
theorem cR:(aQ T G X).aj s k (al .geq (.int eG a) (.int eG b))=k (.bool (decide (b≤a))) s:=by rw[abK];rfl
theorem c4(t:Bool):(aQ T G X).aj s k (kP .not (.bool t))=k (.bool (!t)) s:=rfl
theorem dm:(aQ T G X).aj s k (kP .neg (.int eG a))=k (.int eG (eG.wrap (0-a))) s:=rfl
end
theorem e4(a:Int)(ar: -9223372036854775808≤a)(aw:a≤9223372036854775807):IntKind.wrap .i64 a=a:=IntWalk.i64_in a ⟨ar,aw⟩
def af.plain:af→Bool
 |.int .. |.bool _|.str _|.h7|.iq|.h8|.fy=>true
 |_=>false
theorem y9{s:ah}{v:af}(h:v.plain=true):freeze s v=some v:=by cases v<;> simp [af.plain] at h<;> rfl
section
variable{own:List b4}{u:List b4}{du ro:List (List b4)}
theorem a4(eG:IntKind)(n:Int):(aQ T G X).aW false [some (.int eG n)] {own,up:=u::du,ro}=.ok (.int eG n) {own:=u,up:=du,ro}:=rfl
theorem aU(b:Bool):(aQ T G X).aW false [some (.bool b)] {own,up:=u::du,ro}=.ok (.bool b) {own:=u,up:=du,ro}:=rfl
theorem a5(b:List Nat):(aQ T G X).aW false [some (.str b)] {own,up:=u::du,ro}=.ok (.str b) {own:=u,up:=du,ro}:=rfl
end
theorem aR(eG:IntKind)(n:Int):(aQ T G X).aW false [some (.int eG n)] s.ag=.ok (.int eG n) s:=rfl
theorem aG(b:Bool):(aQ T G X).aW false [some (.bool b)] s.ag=.ok (.bool b) s:=rfl
theorem a6(b:List Nat):(aQ T G X).aW false [some (.str b)] s.ag=.ok (.str b) s:=rfl
theorem hB(s:ah)(o:b4):(s.new o).get (.l s.own.length)=some o:=by simp [ah.get,ah.new]
theorem F5(s:ah)(o o':b4):(s.new o).set (.l s.own.length) o'=some (s.new o'):=by simp [ah.set,ah.new]
theorem uA{α:Type}:∀(vs cs:List α),vs.length=cs.length→dE cs 0 vs=vs:=by
 intro vs cs h;apply List.ext_getElem?;intro j;rw[hg _ _ _ (by omega)];split
 ·simp
 ·rw[List.getElem?_eq_none (by omega),List.getElem?_eq_none (by omega)]
theorem cX(n:Nat)(vs cs:List af)(ar:vs.length=n)(aw:cs.length=n)(bS:vs.all af.en=true):(aQ T G X).bm (s.new (.cells cs)) k n (.ref (.l s.own.length) 0) (.agg vs)=k .dead (s.new (.cells vs)):=by
 rw[jZ];unfold fh;simp only[af.e9,af.cells,ar,e7,bz,bD];unfold h9;simp only[hB];have e:dE cs 0 vs=vs:=uA _ _ (by omega);have dn:Nat.ble (0+vs.length) cs.length=true:=ec (by omega);have h:(s.new (.cells cs)).gL (.l s.own.length) vs=true:=by simp [ah.gL,ah.oN]
 rw[dn,h,bS];simp only[bz,bD,e];show(match (s.new (.cells cs)).set (.l s.own.length) (.cells vs) with |some s=>k .dead s|none=>.fail)=_;rw[F5]
theorem cc(n:Nat)(cs:List af)(h:n≤cs.length):(aQ T G X).aq (s.new (.cells cs)) k (some n) (.ref (.l s.own.length) 0)=k (.agg (cs.take n)) (s.new (.cells cs)):=by rw[hh];simp only[dZ,hB,bY,e3];rw[show Nat.ble n cs.length=true from ec h];rfl
theorem ck(e:af)(cs:List af):(aQ T G X).aq (s.new (.cells (e::cs))) k none (.ref (.l s.own.length) 0)=k e (s.new (.cells (e::cs))):=by rw[hh];simp only[dZ,hB];rfl
theorem cy(h e:af)(cs:List af):(aQ T G X).aq (s.new (.cells (h::e::cs))) k none (.ref (.l s.own.length) 1)=k e (s.new (.cells (h::e::cs))):=by rw[hh];simp only[dZ,hB];rfl
theorem cz(h r e:af)(cs:List af):(aQ T G X).aq (s.new (.cells (h::r::e::cs))) k none (.ref (.l s.own.length) 2)=k e (s.new (.cells (h::r::e::cs))):=by rw[hh];simp only[dZ,hB];rfl
theorem cA(h r u e:af)(cs:List af):(aQ T G X).aq (s.new (.cells (h::r::u::e::cs))) k none (.ref (.l s.own.length) 3)=k e (s.new (.cells (h::r::u::e::cs))):=by rw[hh];simp only[dZ,hB];rfl
theorem cB(e h r u ls:af)(cs:List af):(aQ T G X).aq (s.new (.cells (e::h::r::u::ls::cs))) k none (.ref (.l s.own.length) 4)=k ls (s.new (.cells (e::h::r::u::ls::cs))):=by rw[hh];simp only[dZ,hB];rfl
theorem cC(h r u y ls e:af)(cs:List af):(aQ T G X).aq (s.new (.cells (h::r::u::y::ls::e::cs))) k none (.ref (.l s.own.length) 5)=k e (s.new (.cells (h::r::u::y::ls::e::cs))):=by rw[hh];simp only[dZ,hB];rfl
theorem cD(h r u y ls A e:af)(cs:List af):(aQ T G X).aq (s.new (.cells (h::r::u::y::ls::A::e::cs))) k none (.ref (.l s.own.length) 6)=k e (s.new (.cells (h::r::u::y::ls::A::e::cs))):=by rw[hh];simp only[dZ,hB];rfl
theorem cE(h r u y ls A B e:af)(cs:List af):(aQ T G X).aq (s.new (.cells (h::r::u::y::ls::A::B::e::cs))) k none (.ref (.l s.own.length) 7)=k e (s.new (.cells (h::r::u::y::ls::A::B::e::cs))):=by rw[hh];simp only[dZ,hB];rfl
theorem cF(h r u y ls A B F e:af)(cs:List af):(aQ T G X).aq (s.new (.cells (h::r::u::y::ls::A::B::F::e::cs))) k none (.ref (.l s.own.length) 8)=k e (s.new (.cells (h::r::u::y::ls::A::B::F::e::cs))):=by rw[hh];simp only[dZ,hB];rfl
structure Child (s S:ah):Prop where
 up:S.up=s.own::s.up
 ro:S.ro=s.ro
theorem Child.ag(s:ah):Child s s.ag:=⟨rfl,rfl⟩
theorem Child.new{s S:ah}(h:Child s S)(o:b4):Child s (S.new o):=⟨h.up,h.ro⟩
theorem fT{s S:ah}(h:Child s S)(v w:af)(hw:freeze S v=some w):(aQ T G X).aW false [some v] S=.ok w s:=by obtain⟨ar,aw⟩:=h;show l1 false [some v] S=_;unfold l1;simp only[e5,fp,ep,cond_false,hw,qM,ar,aw]
theorem k5{s S:ah}(h:Child s S)(v1 v2 e r:af)(dn:freeze S v1=some e)(u:freeze S v2=some r):(aQ T G X).aW false [some v1,some v2] S=.ok (.ed [e,r]) s:=by obtain⟨ar,aw⟩:=h;show l1 false [some v1,some v2] S=_;unfold l1;simp only[e5,fp,ep,cond_false,dn,u,qM,ar,aw]
theorem iU{s S:ah}(h:Child s S)(eG:IntKind)(n:Int):(aQ T G X).aW false [some (.int eG n)] S=.ok (.int eG n) s:=fT h _ _ rfl
theorem j0{s S:ah}(h:Child s S)(b:Bool):(aQ T G X).aW false [some (.bool b)] S=.ok (.bool b) s:=fT h _ _ rfl
theorem be(d:Nat)(cs:List af):af.ao d (.agg cs)=.agg cs:=rfl
theorem aA(d:Nat)(eG:IntKind)(n:Int):af.ao d (.int eG n)=.int eG n:=rfl
theorem bi(d:Nat)(b:Bool):af.ao d (.bool b)=.bool b:=rfl
theorem bL(d:Nat)(b:List Nat):af.ao d (.str b)=.str b:=rfl
theorem e6(d f:Nat)(cs:List af):af.ao d (.fn f cs)=.fn f cs:=rfl
theorem ei(d:Nat)(cs:List af):af.ao d (.bk cs)=.bk cs:=rfl
theorem ej(d:Nat):af.ao d .h7=.h7:=rfl
theorem dA(eG:IntKind)(n:Int):af.en (.int eG n)=true:=rfl
theorem dr(b:Bool):af.en (.bool b)=true:=rfl
theorem dF(b:List Nat):af.en (.str b)=true:=rfl
theorem dV(sz:Nat)(es:List af)(g:e0):af.en (.bx sz es g)=true:=rfl
end Go.Ab
end
