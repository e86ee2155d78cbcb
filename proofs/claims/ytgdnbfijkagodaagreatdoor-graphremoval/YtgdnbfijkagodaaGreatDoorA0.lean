/- A part of the proof: no condition. -/
import Derived.Calls
import Derived.Below
import Derived.Laws.World
import Derived.Laws.Cells
import Derived.Laws.Entries
import Derived.Laws.IdiomCopy
import Derived.Laws.Strings
import Derived.Laws.Slices
import Derived.Laws.MakeOwn
import Derived.Laws.BytesArg
set_option linter.unusedSectionVars false
set_option linter.unusedSimpArgs false
section
namespace Go
theorem b0{p:Prop}[Decidable p](h:¬p):decide p=false:=decide_eq_false h
theorem dR{p:Prop}[Decidable p](h:p):decide p=true:=decide_eq_true h
theorem dy{α:Type _}{i:Nat}{a:α}{l:List α}:l[i]? =some a↔∃h:i<l.length,l[i]=a:=List.getElem?_eq_some_iff
theorem d0{α:Type _}{β:Type _}{du:List α}(f:α→β):(du.map f).length=du.length:=List.length_map f
theorem fB{α:Type _}{l m:List α}{i:Nat}(h:i<l.length):(l++m)[i]? =l[i]?:=List.getElem?_append_left h
theorem dq{n m:Nat}(h:n.beq m=true):n=m:=Nat.eq_of_beq_eq_true h
theorem bo(a b:Bool):((a&&b)=true)=(a=true∧b=true):=Bool.and_eq_true a b
theorem bt{α:Type _}(a b:α):(some a=some b)=(a=b):=Option.some.injEq a b
theorem ix{α:Type _}{l:List α}{i j:Nat}(h:i≠j){a:α}:(l.set i a)[j]? =l[j]?:=List.getElem?_set_ne h
theorem dO{α:Type _}{a:α}{l:List α}{i:Nat}:(a::l).drop (i+1)=l.drop i:=List.drop_succ_cons
theorem eb{α:Type _}{l:List α}{i:Nat}(h:i<l.length):l[i]? =some l[i]:=List.getElem?_eq_getElem h
theorem ec{n m:Nat}(h:n≤m):n.ble m=true:=Nat.ble_eq_true_of_le h
theorem d9{n m:Nat}(h:n.ble m=true):n≤m:=Nat.le_of_ble_eq_true h
theorem b5:(false=true)=False:=Bool.false_eq_true
theorem bT{α:Type _}{a:α}{du:List α}:(a::du).length=du.length+1:=List.length_cons
theorem fW{α:Type _}{du fo:List α}:(du++fo).length=du.length+fo.length:=List.length_append
theorem b9{p:Prop}[Decidable p]:(decide p=true)=p:=decide_eq_true_eq
theorem ll{α:Type _}(du fo cs:List α):du++fo++cs=du++(fo++cs):=List.append_assoc du fo cs
theorem bY{α:Type _}{l:List α}:l.drop 0=l:=List.drop_zero
theorem fp{α:Type _}{β:Type _}(a:α)(f:α→Option β):(some a).bind f=f a:=Option.bind_some a f
theorem ep{α:Type _}{β:Type _}(a:α)(f:α→β):(some a).map f=some (f a):=Option.map_some a f
theorem ca{α:Type _}:([]:List α).length=0:=List.length_nil
theorem rc{α:Type _}{a:α}:¬a∈([]:List α):=List.not_mem_nil
theorem mW{α:Type _}{l:List α}{n:Nat}(h:n<l.length):l[n]∈l:=List.getElem_mem h
theorem aC(n:Nat):n≤n:=Nat.le_refl n
theorem bh(n:Nat):0+n=n:=Nat.zero_add n
theorem ey(b:Bool):(true&&b)=b:=Bool.true_and b
theorem gm(b:Bool):(false&&b)=false:=Bool.false_and b
theorem bD{α:Sort _}(a b:α):(bif true then a else b)=a:=rfl
theorem dP(h:Decidable True): @decide True h=true:=decide_true h
theorem dG(h:Decidable False): @decide False h=false:=decide_false h
theorem iy{α:Type _}{l:List α}{i:Nat}(h:i<l.length):l.drop i=l[i]::l.drop (i+1):=List.drop_eq_getElem_cons h
theorem iV{α:Type _}{l:List α}{i:Nat}(h:l.length≤i):l.take i=l:=List.take_of_length_le h
theorem lm{α:Type _}{l:List α}{i:Nat}(h:l.length≤i):l.drop i=[]:=List.drop_of_length_le h
theorem gb{α:Type _}{β:Type _}(f:α→β)(l:List α)(i:Nat):(l.map f)[i]? =l[i]?.map f:=by simp
theorem hz:(!false)=true:=rfl
theorem hK:(!true)=false:=rfl
theorem bz(b:Bool):(b&&b)=b:=Bool.and_self b
theorem n1{α:Type _}(l:List α):l++[]=l:=List.append_nil l
theorem eM(n m:Nat):n*m=m*n:=Nat.mul_comm n m
theorem hT{a b:Nat}(h:a<b):a%b=a:=Nat.mod_eq_of_lt h
theorem fX(a b c:Nat):a*(b+c)=a*b+a*c:=Nat.mul_add a b c
theorem hb(a b c:Nat):a*b*c=a*(b*c):=Nat.mul_assoc a b c
theorem gn{a b:Nat}(c:Nat)(h:a≤b):a*c≤b*c:=Nat.mul_le_mul_right c h
theorem gy{a b c:Nat}(h:a<b)(k:b≤c):a<c:=Nat.lt_of_lt_of_le h k
theorem jt{α:Type _}{l m:List α}{i:Nat}(h:l.length≤i):(l++m)[i]? =m[i-l.length]?:=List.getElem?_append_right h
theorem fb{α:Type _}{β:Type _}(a:α)(b:β)(c:α)(d:β):((a,b)=(c,d))=(a=c∧b=d):=Prod.mk.injEq a b c d
theorem c2{α:Type _}{a:α}{l:List α}{i:Nat}:(a::l).take (i+1)=a::l.take i:=List.take_succ_cons
theorem jj{α:Type _}{l:List α}(h:l.length=0):l=[]:=List.eq_nil_of_length_eq_zero h
theorem fq(a b c:Nat):(a+b)*c=a*c+b*c:=Nat.add_mul a b c
theorem fc{α:Type _}{β:Type _}{f:α→β}{a:α}{l:List α}:(a::l).map f=f a::l.map f:=List.map_cons
theorem e7(a:Nat):a.beq a=true:=Nat.beq_refl a
theorem c7{α:Type _}{l:List α}:l.take 0=[]:=List.take_zero
end Go
namespace Go.Ab
inductive Loc where
 |l (i:Nat)
 |g (d i:Nat)
 deriving DecidableEq,Inhabited
inductive e0 where
 |nil|exact |any
 |cP (a:Loc)
 deriving Inhabited
inductive af where
 |dead
 |bool (b:Bool)
 |int (k:IntKind) (n:Int)
 |str (s:List Nat)
 |bx (sz:Nat) (es:List af) (g:e0)
 |cH (a:Loc) (off len cap sz:Nat)
 |ref (a:Loc) (off:Nat)
 |bk (cs:List af)
 |h7
 |fn (f:Nat) (dM:List af)
 |iq
 |map (a:Loc)
 |fy
 |iface (t:Nat) (v:af)
 |h8
 |agg (cs:List af)
 |ed (vs:List af)
 |kO (l:Nat)
 deriving Inhabited
inductive b4 where
 |cells (cs:List af)
 |tok (n:Nat)
 |map (es:List (af×af))
 |gone
 deriving Inhabited
structure ah where
 own:List b4
 up:List (List b4)
 ro:List (List b4)
 deriving Inhabited
def ah.aa(s:ah):Nat:=s.up.length+s.ro.length
inductive ai where
 |fail
 |ok (v:af) (s:ah)
 |panic (v:af) (s:ah)
 deriving Inhabited
inductive e2 where
 |e
 |n (l:e2) (v:af) (r:e2)
 deriving Inhabited
def e2.get:e2→Nat→af
 |.e,_=>.dead
 |.n l v r,i=>bif Nat.beq i 0 then v else bif Nat.beq (i%2) 1 then l.get ((i-1)/2) else r.get ((i-1)/2)
def e2.ju:Nat→Nat→af→(e2→ai)→e2→ai
 |0,_,_,_,_=>.fail
 |d+1,i,v,k,.e=>
  bif Nat.beq i 0 then k (.n .e v .e)
  else bif Nat.beq (i%2) 1 then e2.ju d ((i-1)/2) v (fun l=>k (.n l .dead .e)) .e
  else e2.ju d ((i-1)/2) v (fun r=>k (.n .e .dead r)) .e
 |d+1,i,v,k,.n l x r=>
  bif Nat.beq i 0 then k (.n l v r)
  else bif Nat.beq (i%2) 1 then e2.ju d ((i-1)/2) v (fun l=>k (.n l x r)) l
  else e2.ju d ((i-1)/2) v (fun r=>k (.n l x r)) r
inductive gd where
 |e
 |n (l:gd) (b:Bool) (r:gd)
 deriving Inhabited
def e2.j6:gd→(e2→ai)→e2→ai
 |.e,k,_=>k .e
 |.n h _ u,k,.e=>e2.j6 h (fun l=>e2.j6 u (fun r=>k (.n l .dead r)) .e) .e
 |.n h b u,k,.n l v r=>e2.j6 h (fun l=>e2.j6 u (fun r=>k (.n l (bif b then v else .dead) r)) r) l
inductive bN where
 |t (n:Nat)
 |c (v:af)
 |g (n:Nat)
 |at(t b off:Nat)
 |Uj (b off:Nat)
 deriving Inhabited
inductive yo where
 |int (k:IntKind)|str|bool
 deriving DecidableEq,Inhabited
inductive Uk where
 |bool|slice|ptr|func|map|iface
 |agg (iT:List yo)
 deriving DecidableEq,Inhabited
inductive gD where
 |move (x:bN)
 |pD (x:bN)
 |n2 (x:bN)
 |pick (c a b:bN)
 |alloc (zero:List af)
 |fe (x:bN)
 |kq (x:bN)
 |build (zero:List af) (parts:List (Nat×Nat×bN))
 |buildSlice (sz:Nat) (parts:List bN)
 |load (n:Option Nat) (a:bN)
 |store (n:Nat) (a v:bN)
 |nilCheck (x:bN)
 |bin (op:BinOp) (x y:bN)
 |eq (neg:Bool) (e:Uk) (x y:bN)
 |un (op:UnOp) (x:bN)
 |lT (k:IntKind) (x:bN)
 |oL (x:bN)
 |hc (x:bN)
 |jv (x:bN)
 |kc (t:Nat) (x:bN)
 |kR (f:Nat) (dM:List bN)
 |makeSlice (zero:List af) (bytes:Nat) (l c:bN)
 |kS (x:bN) (gz bZ:Option bN)
 |slice (sz:Nat) (x:bN) (gz bZ jf:Option bN)
 |fieldAddr (off:Nat) (a:bN)
 |field (off:Nat) (n:Option Nat) (x:bN)
 |jw (sz:Nat) (x i:bN)
 |fM (sz len:Nat) (x i:bN)
 |nE (x i:bN)
 |oM (sz len:Nat) (n:Option Nat) (x i:bN)
 |extract (x:bN) (i:Nat)
 |call (f:Nat) (args:List bN)
 |eN (f:bN) (args:List bN)
 |hU (f:Nat) (args:List bN)
 |mm (f:bN) (args:List bN)
 |len (str:Bool) (x:bN)
 |append (sz bytes:Nat) (at_:Option bN) (s x:bN)
 |copy (sz:Nat) (d s:bN)
 |min (xs:List bN)
 |max (xs:List bN)
 |makeMap (at_:Option bN)
 |nF (ld:yo) (m k v:bN)
 |lookup (ld:yo) (zero:af) (ok:Bool) (m k:bN)
 |vN (neg:Bool) (x:bN)
 |l8 (iT:List (Option Nat×bN)) (f:Nat) (args:List bN)
 |kr (iT:List (Option Nat×bN)) (f:bN) (args:List bN)
 |jn (sz len:Nat) (x:bN) (gz bZ jf:Option bN)
 |kd (sz bytes:Nat) (at_:Option bN) (s x:bN)
 |ke (sz bytes:Nat) (at_:Option bN) (s x:bN)
 |g0 (sz:Nat) (parts:List bN)
 |g1 (sz:Nat) (parts:List bN)
 |kf (sz bytes:Nat) (s x:bN)
 |lL (m:Option Nat) (y:bN) (n:Nat) (a v:bN)
 |no
 deriving Inhabited
structure c3 where
 dst:Option Nat
 guard:Option (Nat×Bool)
 op:gD
 deriving Inhabited
inductive ad where
 |skip
 |region (n3:Option (List (bN×Nat×bN×Nat))) (ops:List c3)
 |seq (a b:ad)
 |mask (m:gd) (a:ad)
 |cond (c:bN) (aiI aiJ:ad)
 |block (id:Nat) (body:ad)
 |loop (b3:gd) (body:ad)
 |exit (id:Nat)
 |scope (body:ad)
 |ret
 |range (j f:Nat) (g:bN) (p:Nat) (assign body:ad)
 deriving Inhabited
inductive uc where
 |t (n:Nat)
 |cell (a:Nat) (n:Option Nat)
 deriving Inhabited
structure c8 where
 agd:Nat
 gk:Nat
 results:List uc
 b3:Bool
 body:ad
 deriving Inhabited
mutual
def af.bb:af→Bool
 |.cH .. |.ref .. |.map _=>false
 |.bx _ _ (.cP _)=>false
 |.bk cs|.fn _ cs|.agg cs|.ed cs=>af.aX cs
 |.iface _ v=>v.bb
 |_=>true
def af.aX:List af→Bool
 |[]=>true
 |v::vs=>v.bb&&af.aX vs
end
def Loc.low(d:Nat):Loc→Bool
 |.l _=>false
 |.g e _=>Nat.ble e d
mutual
def af.low(d:Nat):af→Bool
 |.cH a _ _ _ _=>a.low d
 |.ref a _=>a.low d
 |.map a=>a.low d
 |.bx _ _ (.cP a)=>a.low d
 |.bk cs|.fn _ cs|.agg cs|.ed cs=>af.j4 d cs
 |.iface _ v=>v.low d
 |_=>true
def af.j4(d:Nat):List af→Bool
 |[]=>true
 |v::vs=>v.low d&&af.j4 d vs
end
def Loc.ao(d:Nat):Loc→Loc
 |.l i=>.g d i
 |a=>a
def e0.ao(d:Nat):e0→e0
 |.cP a=>.cP (a.ao d)
 |g=>g
def af.ao(d:Nat):af→af
 |.bx sz es g=>.bx sz es (g.ao d)
 |.cH a off len cap sz=>.cH (a.ao d) off len cap sz
 |.ref a off=>.ref (a.ao d) off
 |.map a=>.map (a.ao d)
 |v=>v
def af.cells:af→List af
 |.agg cs=>cs
 |v=>[v]
def z9:af→af
 |.agg xs=>.agg [.agg xs]
 |c=>c
def mX(sz:Nat)(cs:List af):af:=
 match sz with
 |1=>z9 (cs.getD 0 .dead)
 |_=>.agg (cs.take sz)
def chunk(sz:Nat):Nat→List af→List af
 |0,_=>[]
 |n+1,cs=>mX sz cs::chunk sz n (cs.drop sz)
def ah.get(s:ah):Loc→Option b4
 |.l i=>s.own[i]?
 |.g d i=>if d=s.aa then s.own[i]? else if d<s.aa then((s.up++s.ro)[s.aa-1-d]?).bind (·[i]?) else none
def ah.set(s:ah)(a:Loc)(o:b4):Option ah:=
 match a with
 |.l i=>some {s with own:=s.own.set i o}
 |.g d i=>
  if d=s.aa then some {s with own:=s.own.set i o}
  else if d<s.aa∧s.ro.length≤d then some {s with up:=s.up.modify (s.aa-1-d) (·.set i o)}
  else none
def ah.oN(s:ah):Loc→Bool
 |.l _=>true
 |.g d _=>d=s.aa
def ah.gL(s:ah)(a:Loc)(vs:List af):Bool:=
 s.oN a||af.aX vs||(match a with
  |.g d _=>af.j4 d vs
  |.l _=>false)
def ah.new(s:ah)(o:b4):ah:={s with own:=s.own++[o]}
def ah.gU(s:ah)(a:Loc)(o:b4):Option (Loc×ah):=
 match a with
 |.l _=>some (.l s.own.length,s.new o)
 |.g d _=>
  if d=s.aa then some (.l s.own.length,s.new o)
  else if d<s.aa∧s.ro.length≤d then
   match s.up[s.aa-1-d]? with
   |some l=>some (.g d l.length,{s with up:=s.up.modify (s.aa-1-d) (· ++ [o])})
   |none=>none
  else none
def pE:Loc→Loc→Bool
 |.l i,.l j=>Nat.beq i j
 |.g d i,.g e j=>Nat.beq d e&&Nat.beq i j
 |_,_=>false
def aa9:af→Nat→af
 |.ref a o,off=>.ref a (o+off)
 |_,_=>.dead
def Oo:af→af→Nat→af
 |.ref a o,.ref f6 o',off=>bif pE a f6&&Nat.beq o (o'+off) then .ref a o else .dead
 |_,_,_=>.dead
theorem B9{a b:Loc}(h:pE a b=true):a=b:=by
 cases a<;> cases b<;> simp [pE] at h
 ·rw[h]
 ·rw[h.1,h.2]
theorem IU(x y:af)(off:Nat):Oo x y off=.dead∨(Oo x y off=x∧Oo x y off=aa9 y off):=by
 cases x<;> cases y<;> try exact .inl rfl
 ·rename_i a o f6 o';have e:Oo (.ref a o) (.ref f6 o') off=bif pE a f6&&Nat.beq o (o'+off) then .ref a o else .dead:=rfl
  rw[e];cases h:pE a f6&&Nat.beq o (o'+off) with
  |false=>exact .inl rfl
  |true=>simp only[bo] at h;have ar:=B9 h.1;have aw:=dq h.2;subst ar aw;exact .inr ⟨rfl,rfl⟩
def au(G:Nat→af)(ap:Nat→af):bN→af
 |.t n=>ap n
 |.c v=>v
 |.g n=>G n
 |.at t b off=>Oo (ap t) (ap b) off
 |.Uj b off=>aa9 (ap b) off
def oO:af→af
 |.bx sz es (.cP a)=>bif af.aX es then .bx sz es .any else .bx sz es (.cP a)
 |v=>v
def jx(ap:e2)(d:Option Nat)(v:af)(k:e2→ai):ai:=
 match d with
 |some n=>ap.ju 12 n v k
 |none=>k ap
structure a2 where
 n4:af→(af→ai)→ai
 v1:af→(af→ai)→ai
 l:List af→(List af→ai)→ai
 s:ah→(ah→ai)→ai
def a2.not:a2:={n4:=fun v k=>k v,v1:=fun v k=>k v,l:=fun v k=>k v,s:=fun v k=>k v}
def ff:af→Option Nat
 |.int _ n=>if 0≤n then some n.toNat else none
 |_=>none
def dw(s:ah):af→Option (Nat×List af)
 |.bx sz es (.cP _)=>if af.aX es then some (sz,es) else none
 |.bx sz es _=>some (sz,es)
 |.str fo=>some (1,fo.map fun b=>.int .u8 (b:Nat))
 |.cH a off len _ sz=>
  match s.get a with
  |some (.cells cs)=>let es:=chunk sz len (cs.drop off);if af.aX es&&Nat.ble (off+len*sz) cs.length&& !Nat.beq sz 0 then some (sz,es) else none
  |_=>none
 |_=>none
def jy:List af→List af→Option Bool
 |[],[]=>some true
 |.int k a::xs,.int l9 b::e=>if k=l9 then(jy xs e).map ((a==b)&& ·) else none
 |.bool a::xs,.bool b::e=>(jy xs e).map ((a==b)&& ·)
 |.str a::xs,.str b::e=>(jy xs e).map ((a==b)&& ·)
 |_,_=>none
def kg:List Nat→List Nat→Bool
 |_,[]=>false
 |[],_::_=>true
 |a::x,b::y=>Nat.blt a b||(Nat.beq a b&&kg x y)
def gS(op:BinOp)(k:IntKind)(a b:Int):Option af:=
 match op with
 |.add=>some (.int k (k.wrap (a+b)))
 |.sub=>some (.int k (k.wrap (a-b)))
 |.mul=>some (.int k (k.wrap (a*b)))
 |.quo=>if b=0 then none else some (.int k (k.wrap (a.tdiv b)))
 |.rem=>if b=0 then none else some (.int k (a.tmod b))
 |.and=>some (.int k (k.wrap (BitVec.ofInt k.bits a &&& BitVec.ofInt k.bits b).toNat))
 |.or=>some (.int k (k.wrap (BitVec.ofInt k.bits a ||| BitVec.ofInt k.bits b).toNat))
 |.xor=>some (.int k (k.wrap (BitVec.ofInt k.bits a ^^^ BitVec.ofInt k.bits b).toNat))
 |.andNot=>some (.int k (k.wrap (BitVec.ofInt k.bits a &&& ~~~BitVec.ofInt k.bits b).toNat))
 |.eql=>some (.bool (a==b))
 |.neq=>some (.bool (a != b))
 |.lss=>some (.bool (a<b))
 |.leq=>some (.bool (a≤b))
 |.gtr=>some (.bool (a>b))
 |.geq=>some (.bool (a≥b))
 |_=>none
def mn(op:BinOp)(k:IntKind)(a b:Int):Option af:=
 if b<0 then none else
 match op with
 |.shl=>some (.int k (k.wrap (a*2^(min b.toNat k.bits))))
 |.shr=>some (.int k (a.fdiv (2^(min b.toNat k.bits))))
 |_=>none
def Aa(op:BinOp)(x y:List Nat):Option af:=
 match op with
 |.add=>if Nat.ble (x.length+y.length) 1099511627776 then some (.str (x++y)) else none
 |.eql=>some (.bool (x==y))
 |.neq=>some (.bool (!(x==y)))
 |.lss=>some (.bool (kg x y))
 |.leq=>some (.bool (kg x y||x==y))
 |.gtr=>some (.bool (!(kg x y||x==y)))
 |.geq=>some (.bool (!kg x y))
 |_=>none
def isNil:af→Option Bool
 |.h7|.iq|.fy|.h8=>some true
 |.bx _ _ .nil=>some true
 |.bx _ _ .exact |.bx _ _ .any|.bx _ _ (.cP _)|.cH .. |.ref .. |.bk _|.fn .. |.map _|.iface ..=>some false
 |_=>none
def hn:Uk→af→Bool
 |.slice,.bx .. |.slice,.cH ..=>true
 |.ptr,.h7|.ptr,.ref .. |.ptr,.bk _=>true
 |.func,.iq|.func,.fn ..=>true
 |.map,.fy|.map,.map _=>true
 |.iface,.h8|.iface,.iface ..=>true
 |_,_=>false
def ft:List yo→List af→Bool
 |[],[]=>true
 |.int k::iT,.int l9 _::xs=>decide (l9=k)&&ft iT xs
 |.str::iT,.str _::xs=>ft iT xs
 |.bool::iT,.bool _::xs=>ft iT xs
 |_,_=>false
def oi(e:Uk)(x y:af):Option Bool:=
 match e with
 |.bool=>
  match x,y with
  |.bool a,.bool b=>some (a==b)
  |_,_=>none
 |.agg iT=>
  match x,y with
  |.agg xs,.agg h=>bif ft iT xs&&ft iT h then jy xs h else none
  |_,_=>none
 |e=>
  bif hn e x&&hn e y then
   match isNil x,isNil y with
   |some true,some b=>bif b&&decide (e=.iface) then none else some b
   |some false,some true=>some false
   |_,_=>none
  else none
def Ac(neg:Bool):af→Option af
 |.h8=>some (.bool (!neg))
 |.iface ..=>some (.bool neg)
 |_=>none
def al(op:BinOp)(x y:af):Option af:=
 match op,x,y with
 |.shl,.int k a,.int _ b=>mn .shl k a b
 |.shr,.int k a,.int _ b=>mn .shr k a b
 |op,.int k a,.int l9 b=>if k=l9 then gS op k a b else none
 |op,.str a,.str b=>Aa op a b
 |_,_,_=>none
def kP(op:UnOp)(x:af):Option af:=
 match op,x with
 |.neg,.int k n=>some (.int k (k.wrap (0-n)))
 |.xor,.int k n=>some (.int k (k.wrap (BitVec.ofInt k.bits (if k.signed then -1 else k.max) ^^^ BitVec.ofInt k.bits n).toNat))
 |.not,.bool b=>some (.bool (!b))
 |_,_=>none
def min2(x y:af):Option af:=
 match x,y with
 |.int k a,.int _ b=>some (.int k (if b<a then b else a))
 |_,_=>none
def max2(x y:af):Option af:=
 match x,y with
 |.int k a,.int _ b=>some (.int k (if b>a then b else a))
 |_,_=>none
def vO(f:af→af→Option af):af→List af→Option af
 |x,[]=>some x
 |x,y::e=>(f x y).bind fun z=>vO f z e
def dL(G:Nat→af)(ap:Nat→af)(o:Option bN)(e:Nat):Option Nat:=
 match o with
 |none=>some e
 |some x=>ff (au G ap x)
def iz(es:List af):Option (List Nat):=
 match es with
 |[]=>some []
 |.int .u8 n::es=>if n.toNat<256 then(iz es).map (n.toNat:: ·) else none
 |_=>none
def dE{α:Type}(cs:List α)(off:Nat)(vs:List α):List α:=
 match vs with
 |[]=>cs
 |v::vs=>dE (cs.set off v) (off+1) vs
def af.e9:af→Bool
 |.dead|.ed _=>false
 |_=>true
def af.en:af→Bool
 |.dead|.ed _|.agg _=>false
 |_=>true
def fC(G:Nat→af)(d:Nat)(ap:Nat→af):List af→List (Nat×Nat×bN)→Option (List af)
 |cs,[]=>some cs
 |cs,(off,sz,x)::er=>
  let v:=(au G ap x).ao d
  bif v.e9&&Nat.beq v.cells.length sz&&Nat.ble (off+sz) cs.length then fC G d ap (dE cs off v.cells) er else none
def rN(G:Nat→af)(ap:Nat→af):bN×Nat×bN×Nat→Bool
 |(x,n,y,m)=>
  match au G ap x,au G ap y with
  |.ref (.l i) o,.ref (.l j) q=> !Nat.beq i j||Nat.ble (o+n) q||Nat.ble (q+m) o
  |.bk _,.ref ..=>true
  |_,_=>false
inductive pw where
 |norm|exit (id:Nat)|ret|panic (v:af)
 deriving Inhabited
abbrev fJ:=pw→e2→ah→ai
abbrev ny:=e2→ah→fJ→ai
def gf(g:ny)(k:fJ):fJ:=fun x ap s=>
 match x with
 |.norm=>g ap s k
 |x=>k x ap s
def FJ(g:ny)(k:fJ):fJ:=fun x ap s=>
 match x with
 |.norm=>g ap s k
 |_=>.fail
def eI(m:gd)(g:ny)(k:fJ):fJ:=fun x ap s=>
 match x with
 |.norm=>e2.j6 m (fun ap=>g ap s k) ap
 |x=>k x ap s
def dN(id:Nat)(k:fJ):fJ:=fun x ap s=>
 match x with
 |.exit j=>bif Nat.beq j id then k .norm ap s else k (.exit j) ap s
 |x=>k x ap s
def dX(step:ny)(b3:gd):Nat→ny
 |0,_,_,_=>.fail
 |n+1,ap,s,k=>step ap s (eI b3 (dX step b3 n) k)
structure Env where
 F:a2
 ax:Nat→af
 call:Nat→List af→ah→ai
 loop:ny→gd→ny
def Loc.same:Loc→Loc→Bool
 |.l i,.l j=>Nat.beq i j
 |.g d i,.g e j=>Nat.beq d e&&Nat.beq i j
 |_,_=>false
def e0.same:e0→e0→Bool
 |.nil,.nil|.exact,.exact |.any,.any=>true
 |.cP a,.cP b=>a.same b
 |_,_=>false
mutual
def af.same:af→af→Bool
 |.kO l,.kO m=>Nat.beq l m
 |.dead,.dead|.h7,.h7|.iq,.iq|.fy,.fy|.h8,.h8=>true
 |.bool a,.bool b=>a==b
 |.int k a,.int l9 b=>decide (k=l9)&&a==b
 |.str a,.str b=>a==b
 |.bx z a g,.bx abv b g'=>Nat.beq z abv&&g.same g'&&af.ma a b
 |.cH a x y z q,.cH f6 kT vl abv re=>a.same f6&&Nat.beq x kT&&Nat.beq y vl&&Nat.beq z abv&&Nat.beq q re
 |.ref a x,.ref f6 kT=>a.same f6&&Nat.beq x kT
 |.bk a,.bk b=>af.ma a b
 |.fn f a,.fn yp b=>Nat.beq f yp&&af.ma a b
 |.map a,.map b=>a.same b
 |.iface t v,.iface Uh f7=>Nat.beq t Uh&&v.same f7
 |.agg a,.agg b=>af.ma a b
 |.ed a,.ed b=>af.ma a b
 |_,_=>false
def af.ma:List af→List af→Bool
 |[],[]=>true
 |a::as,b::fo=>a.same b&&af.ma as fo
 |_,_=>false
end
def iA(G:Nat→af)(ap:Nat→af):Option bN→Option Loc
 |none=>some (.l 0)
 |some x=>
  match au G ap x with
  |.ref a _=>some a
  |.map a=>some a
  |_=>none
def tw:af→af→Option Bool
 |.int k a,.int l9 b=>if k=l9 then some (a==b) else none
 |.str a,.str b=>some (a==b)
 |.bool a,.bool b=>some (a==b)
 |_,_=>none
def isKey:yo→af→Bool
 |.int k,.int l9 _=>decide (l9=k)
 |.str,.str _=>true
 |.bool,.bool _=>true
 |_,_=>false
def findKey(k:af):List (af×af)→Option (Option af)
 |[]=>some none
 |(x,v)::es=>
  match tw k x with
  |some true=>some (some v)
  |some false=>findKey k es
  |none=>none
def putKey(k v:af):List (af×af)→Option (List (af×af))
 |[]=>some [(k,v)]
 |(x,u)::es=>
  match tw k x with
  |some true=>some ((x,v)::es)
  |some false=>(putKey k v es).map ((x,u):: ·)
  |none=>none
section
variable(E:Env)(ap:Nat→af)(s:ah)(k kp:af→ah→ai)
def rL(v:Option af):ai:=
 match v with
 |some v=>E.F.v1 v fun v=>k v s
 |none=>.fail
def e3(m:Option Nat)(cs:List af):ai:=
 match m with
 |none=>match cs with
  |c::_=>E.F.n4 c fun v=>k v s
  |[]=>.fail
 |some n=>bif Nat.ble n cs.length then E.F.v1 (.agg (cs.take n)) fun v=>k v s else .fail
def h9(a:Loc)(off:Nat)(vs:List af):ai:=
 match s.get a with
 |some (.cells cs)=>
  bif Nat.ble (off+vs.length) cs.length&&s.gL a vs&&vs.all af.en then
   E.F.l (dE cs off vs) fun cs=>
   match s.set a (.cells cs) with
   |some s=>E.F.s s fun s=>k .dead s
   |none=>.fail
  else .fail
 |_=>.fail
def kh(x:af)(gz bZ:Option bN):ai:=
 match x with
 |.str fo=>
  match dL E.ax ap gz 0,dL E.ax ap bZ fo.length with
  |some l,some h=>bif Nat.ble l h&&Nat.ble h fo.length then E.F.v1 (.str ((fo.drop l).take (h-l))) fun v=>k v s else .fail
  |_,_=>.fail
 |_=>.fail
def qs(g:e0)(l h:Nat)(es:List af):Bool:=
 match g with
 |.cP _=>(Nat.beq l 0&&Nat.beq h es.length)||af.aX es
 |_=>true
def vP(g:e0)(es:List af):Bool:=
 match g with
 |.cP _=>af.aX es
 |_=>true
def ks(z:Nat)(x:af)(gz bZ jf:Option bN):ai:=
 match x with
 |.bx sz es g=>
  match dL E.ax ap gz 0,dL E.ax ap bZ es.length with
  |some l,some h=>
   match jf with
   |none=>
    bif Nat.beq z sz&&Nat.ble l h&&Nat.ble h es.length&&qs g l h es then
     E.F.v1 (.bx sz ((es.drop l).take (h-l)) (match g with
      |.nil=>.nil
      |.exact=>if h=es.length then .exact else .any
      |.cP a=>if l=0∧h=es.length then .cP a else .any
      |.any=>.any)) fun v=>k v s
    else .fail
   |some x=>
    match ff (au E.ax ap x),g with
    |_,.nil=>.fail
    |some m,_=>bif Nat.beq z sz&&Nat.ble l h&&Nat.ble h m&&Nat.ble m es.length&&vP g es then E.F.v1 (.bx sz ((es.drop l).take (h-l)) (if h=m then .exact else .any)) fun v=>k v s else .fail
    |_,_=>.fail
  |_,_=>.fail
 |.cH a off len cap sz=>
  match dL E.ax ap gz 0,dL E.ax ap bZ len,dL E.ax ap jf cap with
  |some l,some h,some m=>bif Nat.beq z sz&&Nat.ble l h&&Nat.ble h m&&Nat.ble m cap&&Nat.ble len cap then E.F.v1 (.cH a (if m=l then off else off+l*sz) (h-l) (m-l) sz) fun v=>k v s else .fail
  |_,_,_=>.fail
 |_=>.fail
def hd(q bytes:Nat)(b:Loc)(x y:af):ai:=
 match dw s y with
 |none=>.fail
 |some (z,new)=>
  match x with
  |.bx sz es g=>
   bif Nat.beq z q&&Nat.beq sz q&&Nat.ble ((es.length+new.length)*bytes) 1099511627776 then
    match new with
    |[]=>k (.bx sz es g) s
    |_::_=>
     match g with
     |.nil|.exact=>
      match s.gU b (.tok (es.length+new.length)) with
      |some (l,s)=>E.F.v1 (.bx sz (es++new) (.cP l)) fun v=>E.F.s s fun s=>k v s
      |none=>.fail
     |.cP a=>
      match s.get a with
      |some (.tok n)=>
       bif Nat.beq n es.length&&(new.flatMap af.cells).all af.en then
        match s.set a (.tok (es.length+new.length)) with
        |some s=>E.F.v1 (.bx sz (es++new) (.cP a)) fun v=>E.F.s s fun s=>k v s
        |none=>.fail
       else .fail
      |_=>.fail
     |.any=>.fail
   else .fail
  |.cH a off len cap sz=>
   match s.get a with
   |some (.cells cs)=>
    bif Nat.beq z q&&Nat.beq sz q&&Nat.ble (len+new.length) cap&&Nat.ble (off+(len+new.length)*sz) cs.length&&s.gL a new&&(new.flatMap af.cells).all af.en then
     E.F.l (dE cs (off+len*sz) (new.flatMap af.cells)) fun cs=>
     match s.set a (.cells cs) with
     |some s=>E.F.v1 (.cH a off (len+new.length) cap sz) fun v=>E.F.s s fun s=>k v s
     |none=>.fail
    else .fail
   |_=>.fail
  |_=>.fail
def rf(s:ah)(l:Loc)(vs:List af):Bool:=
 match l with
 |.l _=>af.j4 s.aa vs
 |.g d _=>af.j4 d vs
def h3(q bytes:Nat)(b:Loc)(x y:af):ai:=
 match y with
 |.bx z new _=>
  match x with
  |.bx sz es g=>
   bif Nat.beq z q&&Nat.beq sz q&&Nat.ble ((es.length+new.length)*bytes) 1099511627776 then
    match new with
    |[]=>.fail
    |_::_=>
     match g with
     |.nil=>
      bif rf s b new then
       match s.gU b (.tok (es.length+new.length)) with
       |some (l,s)=>E.F.v1 (.bx sz (es++new) (.cP l)) fun v=>E.F.s s fun s=>k v s
       |none=>.fail
      else .fail
     |.cP a=>
      match s.get a with
      |some (.tok n)=>
       bif Nat.beq n es.length&&(new.flatMap af.cells).all af.en&&rf s a new then
        match s.set a (.tok (es.length+new.length)) with
        |some s=>E.F.v1 (.bx sz (es++new) (.cP a)) fun v=>E.F.s s fun s=>k v s
        |none=>.fail
       else .fail
      |_=>.fail
     |_=>.fail
   else .fail
  |_=>.fail
 |_=>.fail
def Ad(s:ah):af→af
 |.cH (.g d i) o l c z=>bif Nat.beq d s.aa then .cH (.l i) o l c z else .cH (.g d i) o l c z
 |v=>v
def kE(q bytes:Nat)(x y:af):ai:=
 match dw s y with
 |none=>.fail
 |some (z,new)=>
  match new with
  |[]=>.fail
  |_::_=>
   match x with
   |.bx sz [] .nil=>
    bif Nat.beq z q&&Nat.beq sz q&&Nat.ble (new.length*bytes) 1099511627776&&(new.flatMap af.cells).all af.en then
     E.F.l (new.flatMap af.cells) fun cs=>E.F.v1 (.cH (.l s.own.length) 0 new.length 0 q) fun v=>E.F.s (s.new (.cells cs)) fun s=>k v s
    else .fail
   |.cH (.l i) 0 len 0 sz=>
    match s.own[i]? with
    |some (.cells cs)=>
     bif Nat.beq z q&&Nat.beq sz q&&Nat.beq cs.length (len*q)&& !Nat.beq len 0&&Nat.ble ((len+new.length)*bytes) 1099511627776&&(new.flatMap af.cells).all af.en&& !Nat.beq q 0 then
      E.F.l (cs++new.flatMap af.cells) fun cs=>E.F.v1 (.cH (.l s.own.length) 0 (len+new.length) 0 q) fun v=>E.F.s {s with own:=s.own.set i .gone++[.cells cs]} fun s=>k v s
     else .fail
    |_=>.fail
   |_=>.fail
def lf(sz:Nat)(x:af)(i:af):ai:=
 match ff i with
 |none=>.fail
 |some i=>
  match x with
  |.bx z es _=>
   bif Nat.beq z sz then
    match es[i]? with
    |some e=>E.F.v1 (.bk e.cells) fun v=>k v s
    |none=>.fail
   else .fail
  |.cH a off len _ z=>bif Nat.beq z sz&&Nat.blt i len then E.F.v1 (.ref a (off+i*sz)) fun v=>k v s else .fail
  |_=>.fail
def hG(sz len:Nat)(x:af)(i:af):ai:=
 match ff i with
 |none=>.fail
 |some i=>
  bif Nat.blt i len then
   match x with
   |.bk cs=>E.F.v1 (.bk (cs.drop (i*sz))) fun v=>k v s
   |.ref a off=>E.F.v1 (.ref a (off+i*sz)) fun v=>k v s
   |_=>.fail
  else .fail
def eN(f:Nat)(args:List af):ai:=
 match E.call f args s with
 |.ok v s'=>bif Nat.beq s'.aa s.aa then k v s' else .fail
 |.panic v s'=>kp v s'
 |.fail=>.fail
def cellsOf(v:af):Option (List af):=
 match v with
 |.bk cs=>some cs
 |.ref a off=>
  match s.get a with
  |some (.cells cs)=>some (cs.drop off)
  |_=>none
 |_=>none
def fg(s:ah)(n:Option Nat)(v:af):Option (List af):=(cellsOf s v).map fun cs=>cs.take (n.getD 1)
def oP:Option (List af)→Option (List af)→Bool
 |some a,some b=>af.ma a b
 |_,_=>false
def iu(xs:List (Option Nat×af))(f:Nat)(args:List af):ai:=
 eN E s (fun v s'=>bif xs.all fun x=>oP (fg s x.1 x.2) (fg s' x.1 x.2) then k v s' else .fail) kp f args
def hX(f:Nat)(args:List af):ai:=
 bif af.aX args then
  match E.call f args {own:=[],up:=[],ro:=[]} with
  |.ok v _=>bif v.bb then k v s else .fail
  |_=>.fail
 else .fail
def dZ(n:Option Nat)(v:af):ai:=
 match v with
 |.bk cs=>e3 E s k n cs
 |.ref a off=>
  match s.get a with
  |some (.cells cs)=>e3 E s k n (cs.drop off)
  |_=>.fail
 |_=>.fail
def hf(off:Nat)(v:af):ai:=
 match v with
 |.bk cs=>E.F.v1 (.bk (cs.drop off)) fun v=>k v s
 |.ref a o=>E.F.v1 (.ref a (o+off)) fun v=>k v s
 |_=>.fail
def mo(off:Nat)(n:Option Nat)(v:af):ai:=
 match v with
 |.agg cs=>e3 E s k n (cs.drop off)
 |_=>.fail
def iB(v i:af):ai:=
 match v with
 |.str fo=>
  match ff i with
  |some i=>
   match fo[i]? with
   |some b=>E.F.v1 (.int .u8 b) fun v=>k v s
   |none=>.fail
  |none=>.fail
 |_=>.fail
def kU(sz len:Nat)(n:Option Nat)(v i:af):ai:=
 match v with
 |.agg cs=>
  match ff i with
  |some i=>bif Nat.blt i len then e3 E s k n (cs.drop (i*sz)) else .fail
  |none=>.fail
 |_=>.fail
def kF(i:Nat)(v:af):ai:=
 match v with
 |.ed vs=>rL E s k vs[i]?
 |_=>.fail
def qL(str:Bool)(v:af):ai:=
 match str,v with
 |true,.str fo=>E.F.v1 (.int .i64 fo.length) fun v=>k v s
 |false,.bx _ es _=>E.F.v1 (.int .i64 es.length) fun v=>k v s
 |false,.cH _ _ n _ _=>E.F.v1 (.int .i64 n) fun v=>k v s
 |_,_=>.fail
def copyV(d x:af):ai:=
 match d with
 |.cH a off len _ sz=>
  match dw s x with
  |some (z,es)=>
   match s.get a with
   |some (.cells cs)=>
    bif Nat.beq z sz&&Nat.ble (off+len*sz) cs.length&&((es.take (min es.length len)).flatMap af.cells).all af.en then
     E.F.l (dE cs off ((es.take (min es.length len)).flatMap af.cells)) fun cs=>
     match s.set a (.cells cs) with
     |some s=>E.F.v1 (.int .i64 (min es.length len:Nat)) fun v=>E.F.s s fun s=>k v s
     |none=>.fail
    else .fail
   |_=>.fail
  |none=>.fail
 |_=>.fail
def mq(q:Nat)(d x:af):ai:=
 match d with
 |.cH a off len cap sz=>bif Nat.beq sz q then copyV E s k (.cH a off len cap sz) x else .fail
 |_=>.fail
def n5(zero:List af)(bytes:Nat)(l c:af):ai:=
 match ff l with
 |some l=>
  match ff c with
  |some c=>
   bif Nat.ble l c&&Nat.ble (c*bytes) 1099511627776 then
    E.F.l (List.replicate c zero).flatten fun cs=>E.F.v1 (.cH (.l s.own.length) 0 l c zero.length) fun v=>E.F.s (s.new (.cells cs)) fun s=>k v s
   else .fail
  |none=>.fail
 |none=>.fail
def fh(n:Nat)(a v:af):ai:=
 match a with
 |.ref a off=>bif v.e9&&Nat.beq v.cells.length n then h9 E s k a off v.cells else .fail
 |_=>.fail
def lU(m:Option Nat)(y:af)(n:Nat)(a v:af):ai:=
 fh E s (fun u t=>bif oP (fg s m y) (fg t m y) then k u t else .fail) n a v
def kG(d:IntKind)(v:af):ai:=
 match v with
 |.int _ n=>E.F.v1 (.int d (d.wrap n)) fun v=>k v s
 |_=>.fail
def mY(v:af):ai:=
 match v with
 |.str fo=>k (.str fo) s
 |_=>.fail
def hL(v:af):ai:=
 match v with
 |.str fo=>E.F.v1 (.bx 1 (fo.map fun b=>.int .u8 (b:Nat)) .any) fun v=>k v s
 |_=>.fail
def g3(v:af):ai:=
 match v with
 |.str _=>.fail
 |v=>
  match dw s v with
  |some (_,es)=>rL E s k ((iz es).map .str)
  |none=>.fail
def n6(c a b:af):ai:=
 match c with
 |.bool t=>E.F.n4 (bif t then a else b) fun v=>k v s
 |_=>.fail
def jz(v:af):ai:=
 match isNil v with
 |some false=>E.F.n4 v fun v=>k v s
 |_=>.fail
def nG(v:af):ai:=
 match v with
 |.cH (.l i) off len cap sz=>
  match s.own[i]? with
  |some (.cells cs)=>
   let es:=chunk sz len (cs.drop off)
   bif af.aX es&&Nat.ble (off+len*sz) cs.length&& !Nat.beq sz 0 then
    E.F.v1 (.bx sz es (if len=cap then .exact else .any)) fun v=>E.F.s {s with own:=s.own.set i .gone} fun s=>k v s
   else .fail
  |_=>.fail
 |_=>.fail
def ia(sz:Nat)(es:List af):ai:=
 bif af.aX es&&es.all (fun e=>e.e9&&Nat.beq e.cells.length sz) then E.F.v1 (.bx sz es .exact) fun v=>k v s else .fail
def il(sz:Nat)(es:List af):ai:=
 bif af.j4 s.aa es&&es.all (fun e=>e.e9&&Nat.beq e.cells.length sz) then
  E.F.v1 (.bx sz es (.cP (.l s.own.length))) fun v=>E.F.s (s.new (.tok es.length)) fun s=>k v s
 else .fail
def ki(sz:Nat)(es:List af):ai:=
 bif es.all (fun e=>e.e9&&Nat.beq e.cells.length sz) then
  E.F.l (es.flatMap af.cells) fun cs=>E.F.v1 (.cH (.l s.own.length) 0 es.length es.length sz) fun v=>E.F.s (s.new (.cells cs)) fun s=>k v s
 else .fail
def lM(f:af)(args:List af):ai:=
 match f with
 |.fn f dM=>E.F.l (args++dM) fun args=>eN E s k kp f args
 |_=>.fail
def kj(f:af)(args:List af):ai:=
 match f with
 |.fn f dM=>E.F.l (args++dM) fun args=>hX E s k f args
 |_=>.fail
def kV(xs:List (Option Nat×af))(f:af)(args:List af):ai:=
 match f with
 |.fn f dM=>E.F.l (args++dM) fun args=>iu E s k kp xs f args
 |_=>.fail
def lN(f:af→af→Option af)(xs:List af):ai:=
 match xs with
 |x::xs=>rL E s k (vO f x xs)
 |[]=>.fail
def fN(q bytes:Nat)(b:Option Loc)(x y:af):ai:=
 match b with
 |some b=>hd E s k q bytes b x y
 |none=>.fail
def ln(q bytes:Nat)(b:Option Loc)(x y:af):ai:=
 match x with
 |.bx sz es g=>fN E s k q bytes b (.bx sz es g) y
 |_=>.fail
def mZ(q bytes:Nat)(b:Option Loc)(x y:af):ai:=
 match b with
 |some b=>h3 E s k q bytes b x y
 |none=>.fail
def i7(z n:Nat)(x:af)(gz bZ jf:Option bN):ai:=
 match x with
 |.ref a off=>
  match dL E.ax ap gz 0,dL E.ax ap bZ n,dL E.ax ap jf n with
  |some l,some h,some m=>bif Nat.ble l h&&Nat.ble h m&&Nat.ble m n then E.F.v1 (.cH a (if m=l then off else off+l*z) (h-l) (m-l) z) fun v=>k v s else .fail
  |_,_,_=>.fail
 |_=>.fail
def mM(b:Option Loc):ai:=
 match b with
 |some b=>
  match s.gU b (.map []) with
  |some (l,s)=>E.F.v1 (.map l) fun v=>E.F.s s fun s=>k v s
  |none=>.fail
 |none=>.fail
def lV(ld:yo)(m x v:af):ai:=
 match m with
 |.map a=>
  match s.get a with
  |some (.map es)=>
   bif isKey ld x&&v.e9&&s.gL a [x,v] then
    match putKey x v es with
    |some es=>
     match s.set a (.map es) with
     |some s=>E.F.s s fun s=>k .dead s
     |none=>.fail
    |none=>.fail
   else .fail
  |_=>.fail
 |_=>.fail
def entriesOf:af→Option (List (af×af))
 |.fy=>some []
 |.map a=>
  match s.get a with
  |some (.map es)=>some es
  |_=>none
 |_=>none
def lW(ld:yo)(zero:af)(ok:Bool)(m x:af):ai:=
 bif isKey ld x then
  match entriesOf s m with
  |some es=>
   match findKey x es with
   |some (some v)=>E.F.v1 (bif ok then .ed [v,.bool true] else v) fun v=>k v s
   |some none=>E.F.v1 (bif ok then .ed [zero,.bool false] else zero) fun v=>k v s
   |none=>.fail
  |none=>.fail
 else .fail
def aP(op:gD):ai:=
 match op with
 |.move x=>E.F.n4 (au E.ax ap x) fun v=>k v s
 |.n2 x=>E.F.n4 (oO (au E.ax ap x)) fun v=>k v s
 |.pick c a b=>n6 E s k (au E.ax ap c) (au E.ax ap a) (au E.ax ap b)
 |.alloc zero=>E.F.v1 (.ref (.l s.own.length) 0) fun v=>E.F.s (s.new (.cells zero)) fun s=>k v s
 |.fe x=>bif (au E.ax ap x).e9 then E.F.v1 (.bk ((au E.ax ap x).ao s.aa).cells) fun v=>k v s else .fail
 |.kq x=>bif (au E.ax ap x).e9 then E.F.l ((au E.ax ap x).ao s.aa).cells fun cs=>E.F.v1 (.ref (.l s.own.length) 0) fun v=>E.F.s (s.new (.cells cs)) fun s=>k v s else .fail
 |.build zero parts=>rL E s k ((fC E.ax s.aa ap zero parts).map .agg)
 |.buildSlice sz parts=>ia E s k sz (parts.map (au E.ax ap))
 |.pD x=>nG E s k (au E.ax ap x)
 |.load n a=>dZ E s k n (au E.ax ap a)
 |.store n a v=>fh E s k n (au E.ax ap a) ((au E.ax ap v).ao s.aa)
 |.lL m y n a v=>lU E s k m (au E.ax ap y) n (au E.ax ap a) ((au E.ax ap v).ao s.aa)
 |.nilCheck x=>jz E s k (au E.ax ap x)
 |.bin op x y=>rL E s k (al op (au E.ax ap x) (au E.ax ap y))
 |.eq neg e x y=>rL E s k ((oi e (au E.ax ap x) (au E.ax ap y)).map fun b=>.bool (bif neg then !b else b))
 |.un op x=>rL E s k (kP op (au E.ax ap x))
 |.lT d x=>kG E s k d (au E.ax ap x)
 |.oL x=>mY s k (au E.ax ap x)
 |.hc x=>g3 E s k (au E.ax ap x)
 |.jv x=>hL E s k (au E.ax ap x)
 |.kc t x=>E.F.v1 (.iface t ((au E.ax ap x).ao s.aa)) fun v=>k v s
 |.kR f dM=>E.F.v1 (.fn f (dM.map fun x=>(au E.ax ap x).ao s.aa)) fun v=>k v s
 |.makeSlice zero bytes l c=>n5 E s k zero bytes (au E.ax ap l) (au E.ax ap c)
 |.kS x gz bZ=>kh E ap s k (au E.ax ap x) gz bZ
 |.slice z x gz bZ jf=>ks E ap s k z (au E.ax ap x) gz bZ jf
 |.fieldAddr off a=>hf E s k off (au E.ax ap a)
 |.field off n x=>mo E s k off n (au E.ax ap x)
 |.jw sz x i=>lf E s k sz (au E.ax ap x) (au E.ax ap i)
 |.fM sz len x i=>hG E s k sz len (au E.ax ap x) (au E.ax ap i)
 |.nE x i=>iB E s k (au E.ax ap x) (au E.ax ap i)
 |.oM sz len n x i=>kU E s k sz len n (au E.ax ap x) (au E.ax ap i)
 |.extract x i=>kF E s k i (au E.ax ap x)
 |.call f args=>E.F.l (args.map fun x=>(au E.ax ap x).ao s.aa) fun args=>eN E s k kp f args
 |.eN f args=>lM E s k kp (au E.ax ap f) (args.map fun x=>(au E.ax ap x).ao s.aa)
 |.hU f args=>E.F.l (args.map fun x=>(au E.ax ap x).ao s.aa) fun args=>hX E s k f args
 |.mm f args=>kj E s k (au E.ax ap f) (args.map fun x=>(au E.ax ap x).ao s.aa)
 |.len b x=>qL E s k b (au E.ax ap x)
 |.append q bytes b x y=>fN E s k q bytes (iA E.ax ap b) (au E.ax ap x) (au E.ax ap y)
 |.copy q d x=>mq E s k q (au E.ax ap d) (au E.ax ap x)
 |.min xs=>lN E s k min2 (xs.map fun x=>(au E.ax ap x).ao s.aa)
 |.max xs=>lN E s k max2 (xs.map fun x=>(au E.ax ap x).ao s.aa)
 |.makeMap b=>mM E s k (iA E.ax ap b)
 |.nF ld m x v=>lV E s k ld (au E.ax ap m) ((au E.ax ap x).ao s.aa) ((au E.ax ap v).ao s.aa)
 |.lookup ld zero ok m x=>lW E s k ld zero ok (au E.ax ap m) ((au E.ax ap x).ao s.aa)
 |.l8 iT f args=>E.F.l (args.map fun x=>(au E.ax ap x).ao s.aa) fun args=>iu E s k kp (iT.map fun x=>(x.1,au E.ax ap x.2)) f args
 |.kr iT f args=>kV E s k kp (iT.map fun x=>(x.1,au E.ax ap x.2)) (au E.ax ap f) (args.map fun x=>(au E.ax ap x).ao s.aa)
 |.vN neg x=>rL E s k (Ac neg (au E.ax ap x))
 |.jn z n x gz bZ jf=>i7 E ap s k z n (au E.ax ap x) gz bZ jf
 |.ke q bytes b x y=>mZ E s k q bytes (iA E.ax ap b) (au E.ax ap x) (au E.ax ap y)
 |.g0 sz parts=>il E s k sz (parts.map fun x=>(au E.ax ap x).ao s.aa)
 |.g1 sz parts=>ki E s k sz (parts.map fun x=>(au E.ax ap x).ao s.aa)
 |.kf q bytes x y=>kE E s k q bytes (Ad s (au E.ax ap x)) (au E.ax ap y)
 |.kd q bytes b x y=>ln E s k q bytes (iA E.ax ap b) (au E.ax ap x) (au E.ax ap y)
 |.no=>.fail
end
def m0(g:Option (Nat×Bool))(ap:e2)(k:Bool→ai):ai:=
 match g with
 |none=>k true
 |some (t,want)=>
  match ap.get t with
  |.bool b=>k (b==want)
  |.ed _=>k false
  |_=>.fail
def fO(E:Env):List c3→e2→ah→(e2→ah→ai)→(af→e2→ah→ai)→ai
 |[],ap,s,fin,_=>fin ap s
 |o::os,ap,s,fin,e=>
  m0 o.guard ap fun w=>
   bif w then aP E ap.get s (fun v s=>jx ap o.dst v fun ap=>fO E os ap s fin e) (fun v s=>e v ap s) o.op
   else jx ap o.dst (.ed []) fun ap=>fO E os ap s fin e
def eW(A:Nat→List Nat)(i:Nat):Nat→List Nat→List Nat
 |0,_=>[]
 |k+1,m=>bif m.elem k then(bif Nat.beq k i then eW A i k (A k++m) else k::eW A i k (A k++m)) else eW A i k m
def oQ:List af→Option (List Nat)
 |[]=>some []
 |.int .i64 n::l=>if 0≤n then(oQ l).map (n.toNat:: ·) else none
 |_::_=>none
def mr:af→Option (List Nat)
 |.agg cs=>
  match (cs[2]? :Option af) with
  |some (.bx 1 es _)=>oQ es
  |_=>none
 |_=>none
def pF:List af→Option (List (List Nat))
 |[]=>some []
 |e::es=>(mr e).bind fun a=>(pF es).map (a:: ·)
def pG(es:List af)(i:Int):Option (List af):=
 match pF es with
 |some A=>bif decide (0≤i)&&Nat.blt i.toNat es.length&&Nat.ble es.length 40&&A.all (fun l=>Nat.ble l.length 1000&&l.all (Nat.blt · es.length)) then some ((eW (A.getD · []) i.toNat (i.toNat+1) [i.toNat]).map fun k=>.int .i64 (k:Nat)) else none
 |none=>none
def qt(s:ah)(j:Nat)(dM:List af):Option (List af):=
 match j,dM with
 |0,[.bk [.int .i64 i],.bk [v]]=>(dw s v).bind fun p=>bif Nat.beq p.1 12 then pG p.2 i else none
 |_,_=>none
def fu(s s':ah):af→Bool
 |.bk [.cH a _ _ _ _]=>match s.get a,s'.get a with
  |some (.cells cs),some (.cells e)=>af.ma cs e
  |_,_=>false
 |_=>true
def fY(step:af→ah→(pw→ah→ai)→ai)(hN:ah)(dM:List af):List af→ah→(pw→ah→ai)→ai
 |[],s,k=>k .norm s
 |x::xs,s,k=>step x s fun e s=>
  match e with
  |.norm=>bif dM.all (fu hN s) then fY step hN dM xs s k else .fail
  |e=>k e s
def ms(j f:Nat)(g:af)(step:af→ah→(pw→ah→ai)→ai)(s:ah)(k:pw→ah→ai):ai:=
 match g with
 |.fn yp dM=>bif Nat.beq f yp then(match qt s j dM with
  |some xs=>fY step s dM xs s k
  |none=>.fail) else .fail
 |_=>.fail
def exec(E:Env):ad→ny
 |.skip,ap,s,k=>k .norm ap s
 |.region none ops,ap,s,k=>fO E ops ap s (fun ap s=>k .norm ap s) (fun _ _ _=>.fail)
 |.region (some n3) ops,ap,s,k=>bif n3.all (rN E.ax ap.get) then fO E ops ap s (fun ap s=>k .norm ap s) (fun _ _ _=>.fail) else .fail
 |.seq a b,ap,s,k=>exec E a ap s (gf (exec E b) k)
 |.mask m a,ap,s,k=>e2.j6 m (fun ap=>exec E a ap s k) ap
 |.cond c a b,ap,s,k=>
  match au E.ax ap.get c with
  |.bool t=>bif t then exec E a ap s k else exec E b ap s k
  |_=>.fail
 |.block id c,ap,s,k=>exec E c ap s (dN id k)
 |.loop b3 c,ap,s,k=>e2.j6 b3 (fun ap=>E.loop (exec E c) b3 ap s k) ap
 |.exit id,ap,s,k=>k (.exit id) ap s
 |.scope c,ap,s,k=>exec E c ap s k
 |.ret,ap,s,k=>k .ret ap s
 |.range j f g p a b,ap,s,k=>ms j f (au E.ax ap.get g) (fun x s l9=>jx ap (some p) x fun eF=>exec E a eF s (FJ (exec E b) fun e _ s=>l9 e s)) s fun e s=>k e ap s
def gp(s:ah)(i off len cap sz:Nat):Option af:=
 match s.own[i]? with
 |some (.cells cs)=>let es:=chunk sz len (cs.drop off);if af.aX es&&Nat.ble (off+len*sz) cs.length&& !Nat.beq sz 0 then some (.bx sz es (if len=cap then .exact else .any)) else none
 |_=>none
def fv(s:ah):af→Option af
 |.cH (.l i) off len cap sz=>gp s i off len cap sz
 |.cH (.g d i) off len cap sz=>if d=s.aa then gp s i off len cap sz else if d<s.aa then some (.cH (.g d i) off len cap sz) else none
 |.ref (.g d i) off=>if d<s.aa then some (.ref (.g d i) off) else none
 |.bx sz es (.cP (.l _))=>if af.aX es then some (.bx sz es .any) else none
 |.bx sz es (.cP (.g d i))=>if d<s.aa then some (.bx sz es (.cP (.g d i))) else if af.aX es then some (.bx sz es .any) else none
 |.map (.g d i)=>if d<s.aa then some (.map (.g d i)) else none
 |.fn f dM=>if af.aX dM then some (.fn f dM) else if Nat.blt 0 s.aa&&af.j4 (s.aa-1) dM then some (.fn f dM) else none
 |v=>if v.bb then some v else none
def e5{α β:Type}(f:α→Option β):List α→Option (List β)
 |[]=>some []
 |x::xs=>(f x).bind fun y=>(e5 f xs).map fun e=>y::e
def kk(s:ah):af→Option af
 |.agg cs=>(e5 (fv s) cs).map .agg
 |v=>fv s v
def ib(s:ah)(sz:Nat)(es:List af):Option af:=if af.aX es then some (.bx sz es .any) else(e5 (kk s) es).bind fun es=>if af.aX es then some (.bx sz es .any) else none
def et(s:ah):af→Option af
 |.bx sz es (.cP (.l _))=>ib s sz es
 |.bx sz es (.cP (.g d i))=>if d<s.aa then some (.bx sz es (.cP (.g d i))) else ib s sz es
 |v=>fv s v
def freeze(s:ah):af→Option af
 |.agg cs=>(e5 (et s) cs).map .agg
 |v=>et s v
def rO(ap:e2)(s:ah):uc→Option af
 |.t n=>some (ap.get n)
 |.cell a n=>
  match ap.get a with
  |.ref a off=>
   match s.get a,n with
   |some (.cells cs),none=>cs[off]?
   |some (.cells cs),some n=>if Nat.ble (off+n) cs.length then some (.agg ((cs.drop off).take n)) else none
   |_,_=>none
  |_=>none
def qM:List af→af
 |[v]=>v
 |vs=>.ed vs
def finish(F:a2)(fn:c8)(ap:e2)(s:ah):ai:=
 match e5 (rO ap s) fn.results with
 |some vs=>
  if fn.b3 then F.l (vs.map (af.ao s.aa)) fun vs=>.ok (qM vs) s
  else
   match e5 (freeze s) vs with
   |some vs=>
    match s.up with
    |own::up=>F.l vs fun vs=>F.s {own,up,ro:=s.ro} fun s=>.ok (qM vs) s
    |[]=>.fail
   |none=>.fail
 |none=>.fail
def Oq(F:a2)(fn:c8):fJ:=fun x ap s=>
 match x with
 |.norm=>finish F fn ap s
 |.ret=>finish F fn ap s
 |_=>.fail
def bG:List af→Nat→e2→(e2→ai)→ai
 |[],_,ap,k=>k ap
 |v::vs,i,ap,k=>ap.ju 12 i v fun ap=>bG vs (i+1) ap k
def call(F:a2)(T:Nat→Option c8)(G:Nat→af)(X:Nat→List af→ah→ai):Nat→Nat→List af→ah→ai
 |0,_,_,_=>.fail
 |n+1,f,args,s=>
  match T f with
  |none=>X f args s
  |some fn=>
   bif Nat.beq args.length fn.agd then
    bG args 0 .e fun ap=>exec {F,ax:=G,call:=call F T G X n,loop:=fun step b3=>dX step b3 n} fn.body ap
     (if fn.b3 then s else {own:=[],up:=s.own::s.up,ro:=s.ro})
     (Oq F fn)
   else .fail
theorem Loc.i9{a b:Loc}:a.same b=true↔a=b:=by cases a<;> cases b<;> simp [Loc.same]
theorem e0.i9{a b:e0}:a.same b=true↔a=b:=by cases a<;> cases b<;> simp [e0.same,Loc.i9]
mutual
theorem af.i9:∀(a b:af),a.same b=true↔a=b
 |.dead,b=>by cases b<;> simp [af.same]
 |.h7,b=>by cases b<;> simp [af.same]
 |.iq,b=>by cases b<;> simp [af.same]
 |.kO l,b=>by cases b<;> simp [af.same]
 |.fy,b=>by cases b<;> simp [af.same]
 |.h8,b=>by cases b<;> simp [af.same]
 |.bool a,b=>by cases b<;> simp [af.same]
 |.int k a,b=>by cases b<;> simp [af.same]
 |.str a,b=>by cases b<;> simp [af.same]
 |.bx z a g,b=>by cases b<;> simp [af.same,e0.i9,af.jS a,and_assoc];intro _;exact And.comm
 |.cH a x y z q,b=>by cases b<;> simp [af.same,Loc.i9,and_assoc]
 |.ref a x,b=>by cases b<;> simp [af.same,Loc.i9]
 |.bk a,b=>by cases b<;> simp [af.same,af.jS a]
 |.fn f a,b=>by cases b<;> simp [af.same,af.jS a]
 |.map a,b=>by cases b<;> simp [af.same,Loc.i9]
 |.iface t v,b=>by cases b<;> simp [af.same,af.i9 v]
 |.agg a,b=>by cases b<;> simp [af.same,af.jS a]
 |.ed a,b=>by cases b<;> simp [af.same,af.jS a]
theorem af.jS:∀(a b:List af),af.ma a b=true↔a=b
 |[],b=>by cases b<;> simp [af.ma]
 |x::xs,b=>by cases b<;> simp [af.ma,af.i9 x,af.jS xs]
end
theorem zc{a b:Option (List af)}:oP a b=true↔∃l,a=some l∧b=some l:=by cases a<;> cases b<;> simp only[oP,af.jS,b5,bt,reduceCtorEq,false_and,and_false,exists_false,exists_eq_left'];exact eq_comm
def h4(n:Nat)(k:Nat→ai):ai:=Nat.casesOn n (k 0) (fun p=>k (p+1))
def qu(n:Int)(k:Int→ai):ai:=
 match n with
 |.ofNat m=>h4 m fun m=>k (.ofNat m)
 |.negSucc m=>h4 m fun m=>k (.negSucc m)
def oR:List Nat→(List Nat→ai)→ai
 |[],k=>k []
 |x::xs,k=>h4 x fun x=>oR xs fun xs=>k (x::xs)
def rP(v:af)(k:af→ai):ai:=
 match v with
 |.dead=>k .dead
 |.bool b=>match b with
  |true=>k (.bool true)
  |false=>k (.bool false)
 |.int i n=>qu n fun n=>k (.int i n)
 |.str s=>k (.str s)
 |.bx sz es g=>k (.bx sz es g)
 |.cH a off len cap sz=>k (.cH a off len cap sz)
 |.ref a off=>k (.ref a off)
 |.bk cs=>k (.bk cs)
 |.h7=>k .h7
 |.fn f dM=>k (.fn f dM)
 |.iq=>k .iq
 |.kO l=>k (.kO l)
 |.map a=>k (.map a)
 |.fy=>k .fy
 |.iface t v=>k (.iface t v)
 |.h8=>k .h8
 |.agg cs=>k (.agg cs)
 |.ed vs=>k (.ed vs)
def mu:List af→(List af→ai)→ai
 |[],k=>k []
 |x::xs,k=>rP x fun x=>mu xs fun xs=>k (x::xs)
def mN(a:Loc)(k:Loc→ai):ai:=
 match a with
 |.l i=>h4 i fun i=>k (.l i)
 |.g d i=>h4 d fun d=>h4 i fun i=>k (.g d i)
def vQ(g:e0)(k:e0→ai):ai:=
 match g with
 |.nil=>k .nil
 |.exact=>k .exact
 |.any=>k .any
 |.cP a=>mN a fun a=>k (.cP a)
def Ae(v:af)(k:af→ai):ai:=
 match v with
 |.dead=>k .dead
 |.bool b=>match b with
  |true=>k (.bool true)
  |false=>k (.bool false)
 |.int i n=>qu n fun n=>k (.int i n)
 |.str s=>oR s fun s=>k (.str s)
 |.bx sz es g=>mu es fun es=>vQ g fun g=>k (.bx sz es g)
 |.cH a off len cap sz=>mN a fun a=>h4 off fun off=>h4 len fun len=>h4 cap fun cap=>k (.cH a off len cap sz)
 |.ref a off=>mN a fun a=>h4 off fun off=>k (.ref a off)
 |.bk cs=>mu cs fun cs=>k (.bk cs)
 |.h7=>k .h7
 |.fn f dM=>mu dM fun dM=>k (.fn f dM)
 |.iq=>k .iq
 |.kO l=>k (.kO l)
 |.map a=>mN a fun a=>k (.map a)
 |.fy=>k .fy
 |.iface t v=>rP v fun v=>k (.iface t v)
 |.h8=>k .h8
 |.agg cs=>mu cs fun cs=>k (.agg cs)
 |.ed vs=>mu vs fun vs=>k (.ed vs)
def tx(o:b4)(k:b4→ai):ai:=
 match o with
 |.cells cs=>k (.cells cs)
 |.tok n=>h4 n fun n=>k (.tok n)
 |.map es=>k (.map es)
 |.gone=>k .gone
def m1:List b4→(List b4→ai)→ai
 |[],k=>k []
 |x::xs,k=>tx x fun x=>m1 xs fun xs=>k (x::xs)
def oj:List (List b4)→(List (List b4)→ai)→ai
 |[],k=>k []
 |x::xs,k=>m1 x fun x=>oj xs fun xs=>k (x::xs)
def vR(s:ah)(k:ah→ai):ai:=m1 s.own fun own=>oj s.up fun up=>oj s.ro fun ro=>k {own,up,ro}
def a2.full:a2:={n4:=rP,v1:=Ae,l:=mu,s:=vR}
theorem kW(n:Nat)(k:Nat→ai):h4 n k=k n:=by cases n<;> rfl
theorem rQ(n:Int)(k:Int→ai):qu n k=k n:=by cases n<;> simp [qu,kW]
theorem qN:∀(l:List Nat) (k:List Nat→ai),oR l k=k l
 |[],_=>rfl
 |x::xs,k=>by simp [oR,kW,qN xs]
theorem rh(v:af)(k:af→ai):rP v k=k v:=by cases v<;> simp only[rP,rQ];split<;> rfl
theorem ri:∀(l:List af) (k:List af→ai),mu l k=k l
 |[],_=>rfl
 |x::xs,k=>by simp [mu,rh,ri xs]
theorem rR(a:Loc)(k:Loc→ai):mN a k=k a:=by cases a<;> simp [mN,kW]
theorem Ca(a:e0)(k:e0→ai):vQ a k=k a:=by cases a<;> simp [vQ,rR]
theorem FK(v:af)(k:af→ai):Ae v k=k v:=by cases v<;> simp only[Ae,rQ,qN,ri,rR,Ca,kW,rh];split<;> rfl
theorem Af(o:b4)(k:b4→ai):tx o k=k o:=by cases o<;> simp [tx,kW]
theorem n7:∀(l:List b4) (k:List b4→ai),m1 l k=k l
 |[],_=>rfl
 |x::xs,k=>by simp [m1,Af,n7 xs]
theorem rS:∀(l:List (List b4)) (k:List (List b4)→ai),oj l k=k l
 |[],_=>rfl
 |x::xs,k=>by simp [oj,n7,rS xs]
theorem Cb(s:ah)(k:ah→ai):vR s k=k s:=by simp [vR,n7,rS]
theorem a2.Cc:a2.full=a2.not:=by
 unfold a2.full a2.not;congr<;> funext v k
 ·exact rh v k
 ·exact FK v k
 ·exact ri v k
 ·exact Cb v k
def vm(f:Nat):List (Nat×c8)→Option c8
 |[]=>none
 |(g,c)::l=>bif Nat.beq f g then some c else vm f l
theorem ud{f:Nat}{c:c8}:∀{l:List (Nat×c8)},vm f l=some c→(f,c)∈l
 |[],h=>by cases h
 |(g,d)::l,h=>by
  simp only[vm] at h;cases e:Nat.beq f g with
  |true=>
   rw[e] at h
   have:=dq e;subst this;obtain rfl:=Option.some.inj h;exact List.mem_cons_self ..
  |false=>rw[e] at h;exact List.mem_cons_of_mem _ (ud h)
end Go.Ab
end
section
namespace Go.Ab
structure bq where
 F:Addr→Option Value
 n:Nat→Nat
 loc:Nat→Nat→Nat
 mb:Nat→Nat→Nat→Option (Addr×Nat×Nat)
def ja(κ:bq)(D:Nat)(sz:Nat):e0→Nat→Addr→Nat→Prop
 |.nil,_,_,_=>False
 |.exact,n,_,cap=>cap=n
 |.any,_,_,_=>True
 |.cP (.g d i),n,a,cap=>d<D∧i<κ.n d∧κ.mb d i n=some (a,cap,sz)
 |.cP (.l _),_,_,_=>False
def vS(g:e0)(es:List af):Prop:=(∀e,e∈es→e.bb=true)∨∃d j,g=.cP (.g d j)∧∀e,e∈es→e.low d=true
inductive dK (κ:bq) (D:Nat):af→Value→Prop
 |dead (x:Value):dK κ D .dead x
 |bool (b:Bool):dK κ D (.bool b) (.bool b)
 |int (k:IntKind) (n:Int):dK κ D (.int k n) (.int k n)
 |str (fo:List Nat) (s:ByteArray) (h:s.data.toList.map UInt8.toNat=fo):dK κ D (.str fo) (.string s)
 |lo (sz:Nat):dK κ D (.bx sz [] .nil) (.slice none 0 0)
 |bx (sz:Nat) (es:List af) (g:e0) (a:Addr) (cap:Nat) (dz:Nat→Value) (b2:ja κ D sz g es.length a cap) (cZ:es.length≤cap) (ba:es≠[]→a.spot=none)
   (fi:∀e,e∈es→e.cells.length=sz) (aV:vS g es)
   (iC:∀j,j<(es.flatMap af.cells).length→κ.F (a.add j)=some (dz j))
   (bX:∀(j:Nat) (c:af),(es.flatMap af.cells)[j]? =some c→dK κ D c (dz j)):dK κ D (.bx sz es g) (.slice (some a) es.length cap)
 |cH (d i off len cap mv sz:Nat) (cW:d<D) (bZ:i<κ.n d) (bU:len≤mv) (a0:mv=cap∨(cap=0∧0<len∧off=0∧κ.mb d i len=some (⟨κ.loc d i,0,none⟩,mv,sz))):dK κ D (.cH (.g d i) off len cap sz) (.slice (some ⟨κ.loc d i,off,none⟩) len mv)
 |ref (d i off:Nat) (cW:d<D) (bZ:i<κ.n d):dK κ D (.ref (.g d i) off) (.pointer (some ⟨κ.loc d i,off,none⟩))
 |bk (cs:List af) (a:Addr) (dz:Nat→Value) (ba:a.spot=none) (iC:∀j,j<cs.length→κ.F (a.add j)=some (dz j))
   (bX:∀(j:Nat) (c:af),cs[j]? =some c→dK κ D c (dz j)):dK κ D (.bk cs) (.pointer (some a))
 |h7:dK κ D .h7 (.pointer none)
 |fn (f:Nat) (cs:List af) (xs:List Value) (bU:xs.length=cs.length) (bX:∀(j:Nat) (c:af) (x:Value),cs[j]? =some c→xs[j]? =some x→dK κ D c x):dK κ D (.fn f cs) (.func (.func f) #[] xs.toArray)
 |iq:dK κ D .iq .nilFunc
 |kO (l:Nat):dK κ D (.kO l) (.func (.yield l) #[] #[])
 |fy:dK κ D .fy (.map none)
 |map (d i:Nat) (cW:d<D) (bZ:i<κ.n d):dK κ D (.map (.g d i)) (.map (some (κ.loc d i)))
 |iface (t:Nat) (v:af) (x:Value) (h:dK κ D v x):dK κ D (.iface t v) (.iface t x)
 |h8:dK κ D .h8 .nilIface
 |agg (cs:List af) (xs:List Value) (bU:xs.length=cs.length) (bX:∀(j:Nat) (c:af) (x:Value),cs[j]? =some c→xs[j]? =some x→dK κ D c x):dK κ D (.agg cs) (.agg xs.toArray)
 |ed (cs:List af) (xs:List Value) (bU:xs.length=cs.length) (bX:∀(j:Nat) (c:af) (x:Value),cs[j]? =some c→xs[j]? =some x→dK κ D c x):dK κ D (.ed cs) (.tuple xs.toArray)
def eH(κ:bq)(D:Nat)(cs:List af)(xs:List Value):Prop:=xs.length=cs.length∧∀(j:Nat) (c:af) (x:Value),cs[j]? =some c→xs[j]? =some x→dK κ D c x
structure hk (κ κ':bq) (D:Nat):Prop where
 F:∀a v,κ.F a=some v→κ'.F a=some v
 n:∀d,d<D→κ.n d≤κ'.n d
 loc:∀d i,d<D→i<κ.n d→κ'.loc d i=κ.loc d i
 mb:∀d i n x,d<D→i<κ.n d→κ.mb d i n=some x→κ'.mb d i n=some x
theorem hk.refl(κ:bq)(D:Nat):hk κ κ D:=⟨fun _ _ h=>h,fun _ _=>aC _,fun _ _ _ _=>rfl,fun _ _ _ _ _ _ h=>h⟩
theorem hk.trans{κ κ' r:bq}{D:Nat}(h:hk κ κ' D)(k:hk κ' r D):hk κ r D:=
 ⟨fun a v e=>k.F a v (h.F a v e),fun d cW=>Nat.le_trans (h.n d cW) (k.n d cW),
  fun d i cW bZ=>(k.loc d i cW (gy bZ (h.n d cW))).trans (h.loc d i cW bZ),
  fun d i n x cW bZ e=>k.mb d i n x cW (gy bZ (h.n d cW)) (h.mb d i n x cW bZ e)⟩
theorem hk.low{κ κ':bq}{D r:Nat}(h:hk κ κ' D)(e:r≤D):hk κ κ' r:=
 ⟨h.F,fun d cW=>h.n d (gy cW e),fun d i cW=>h.loc d i (gy cW e),fun d i n x cW=>h.mb d i n x (gy cW e)⟩
theorem ja.mono{κ κ':bq}{D sz n cap:Nat}{g:e0}{a:Addr}(h:ja κ D sz g n a cap)(k:hk κ κ' D):ja κ' D sz g n a cap:=by unfold ja at *;split at h<;> simp_all;obtain⟨ar,aw,bS⟩:=h;exact⟨gy aw (k.n _ ar),k.mb _ _ _ _ ar aw bS⟩
theorem dK.mono{κ κ':bq}{D:Nat}{v:af}{x:Value}(h:dK κ D v x)(k:hk κ κ' D):dK κ' D v x:=by
 induction h with
 |dead x=>exact .dead x
 |bool b=>exact .bool b
 |int k n=>exact .int k n
 |str fo s h=>exact .str fo s h
 |lo sz=>exact .lo sz
 |bx sz es g a cap dz b2 cZ ba fi aV iC bX e=>exact .bx sz es g a cap dz (b2.mono k) cZ ba fi aV (fun j cL=>k.F _ _ (iC j cL)) e
 |cH d i off len cap mv sz cW bZ bU a0=>rw[←k.loc d i cW bZ];exact .cH d i off len cap mv sz cW (gy bZ (k.n d cW)) bU (a0.imp id fun⟨ar,aw,bS,dB⟩=>⟨ar,aw,bS,by rw[k.loc d i cW bZ];exact k.mb d i len _ cW bZ dB⟩)
 |ref d i off cW bZ=>rw[←k.loc d i cW bZ];exact .ref d i off cW (gy bZ (k.n d cW))
 |bk cs a dz ba iC bX e=>exact .bk cs a dz ba (fun j cL=>k.F _ _ (iC j cL)) e
 |h7=>exact .h7
 |fn f cs xs bU bX e=>exact .fn f cs xs bU e
 |iq=>exact .iq
 |kO l=>exact .kO l
 |fy=>exact .fy
 |map d i cW bZ=>rw[←k.loc d i cW bZ];exact .map d i cW (gy bZ (k.n d cW))
 |iface t v x h e=>exact .iface t v x e
 |h8=>exact .h8
 |agg cs xs bU bX e=>exact .agg cs xs bU e
 |ed cs xs bU bX e=>exact .ed cs xs bU e
theorem dK.up{κ:bq}{D u:Nat}{v:af}{x:Value}(h:dK κ D v x)(r:D≤u):dK κ u v x:=by
 induction h with
 |dead x=>exact .dead x
 |bool b=>exact .bool b
 |int k n=>exact .int k n
 |str fo s h=>exact .str fo s h
 |lo sz=>exact .lo sz
 |bx sz es g a cap dz b2 cZ ba fi aV iC bX e=>refine .bx sz es g a cap dz ?_ cZ ba fi aV iC e;unfold ja at *;split at b2<;> simp_all;exact gy b2.1 r
 |cH d i off len cap mv sz cW bZ bU a0=>exact .cH d i off len cap mv sz (gy cW r) bZ bU a0
 |ref d i off cW bZ=>exact .ref d i off (gy cW r) bZ
 |bk cs a dz ba iC bX e=>exact .bk cs a dz ba iC e
 |h7=>exact .h7
 |fn f cs xs bU bX e=>exact .fn f cs xs bU e
 |iq=>exact .iq
 |kO l=>exact .kO l
 |fy=>exact .fy
 |map d i cW bZ=>exact .map d i (gy cW r) bZ
 |iface t v x h e=>exact .iface t v x e
 |h8=>exact .h8
 |agg cs xs bU bX e=>exact .agg cs xs bU e
 |ed cs xs bU bX e=>exact .ed cs xs bU e
theorem jg{cs:List af}(h:af.aX cs=true){j:Nat}{c:af}(a0:cs[j]? =some c):c.bb=true:=by
 induction cs generalizing j with
 |nil=>simp at a0
 |cons v vs e=>
  simp only[af.aX,bo] at h;cases j with
  |zero=>simp at a0;exact a0 ▸ h.1
  |succ j=>exact e h.2 (by simpa using a0)
theorem eA{cs:List af}:af.aX cs=true↔∀c,c∈cs→c.bb=true:=by
 induction cs with
 |nil=>simp [af.aX]
 |cons v vs e=>simp [af.aX,e]
theorem iD{e:af}(h:e.bb=true){c:af}(a0:c∈e.cells):c.bb=true:=by
 unfold af.cells at a0;split at a0
 ·exact eA.1 (by simpa [af.bb] using h) c a0
 ·simp at a0;exact a0 ▸ h
theorem dK.bb{κ:bq}{D:Nat}{v:af}{x:Value}(h:dK κ D v x)(aV:v.bb=true){κ':bq}(y:Nat)(iC:∀a v,κ.F a=some v→κ'.F a=some v):dK κ' y v x:=by
 induction h with
 |dead x=>exact .dead x
 |bool b=>exact .bool b
 |int k n=>exact .int k n
 |str fo s h=>exact .str fo s h
 |lo sz=>exact .lo sz
 |bx sz es g a cap dz b2 cZ ba fi iP u bX r=>
  refine .bx sz es g a cap dz ?_ cZ ba fi iP (fun j cL=>iC _ _ (u j cL)) (fun j c a0=>r j c a0 ?_)
  ·cases g<;> simp_all [af.bb,ja]
  ·obtain⟨e,he,A⟩:=List.mem_flatMap.1 (List.mem_of_getElem? a0);rcases iP with iP|⟨d,j,rfl,_⟩
   ·exact iD (iP e he) A
   ·simp [af.bb] at aV
 |cH d i off len cap mv sz cW bZ bU a0=>simp [af.bb] at aV
 |ref d i off cW bZ=>simp [af.bb] at aV
 |bk cs a dz ba u bX r=>exact .bk cs a dz ba (fun j cL=>iC _ _ (u j cL)) (fun j c a0=>r j c a0 (jg (by simpa [af.bb] using aV) a0))
 |h7=>exact .h7
 |fn f cs xs bU bX r=>exact .fn f cs xs bU (fun j c x a0 a1=>r j c x a0 a1 (jg (by simpa [af.bb] using aV) a0))
 |iq=>exact .iq
 |kO l=>exact .kO l
 |fy=>exact .fy
 |map d i cW bZ=>simp [af.bb] at aV
 |iface t v x h r=>exact .iface t v x (r (by simpa [af.bb] using aV))
 |h8=>exact .h8
 |agg cs xs bU bX r=>exact .agg cs xs bU (fun j c x a0 a1=>r j c x a0 a1 (jg (by simpa [af.bb] using aV) a0))
 |ed cs xs bU bX r=>exact .ed cs xs bU (fun j c x a0 a1=>r j c x a0 a1 (jg (by simpa [af.bb] using aV) a0))
theorem jT{v:af}(h:v.bb=true)(d:Nat):v.ao d=v:=by cases v<;> simp_all [af.bb,af.ao];rename_i g;cases g<;> simp_all [af.bb,e0.ao]
theorem ol{d:Nat}{cs:List af}(h:af.j4 d cs=true){j:Nat}{c:af}(a0:cs[j]? =some c):c.low d=true:=by
 induction cs generalizing j with
 |nil=>simp at a0
 |cons v vs e=>
  simp only[af.j4,bo] at h;cases j with
  |zero=>simp at a0;exact a0 ▸ h.1
  |succ j=>exact e h.2 (by simpa using a0)
theorem Loc.kH{d gg:Nat}(h:d≤gg){a:Loc}(r:a.low d=true):a.low gg=true:=by
 cases a with
 |l i=>cases r
 |g e i=>exact ec (Nat.le_trans (d9 r) h)
mutual
theorem af.kH{d gg:Nat}(h:d≤gg):∀(v:af),v.low d=true→v.low gg=true
 |.dead,_|.bool _,_|.int _ _,_|.str _,_|.h7,_|.iq,_|.kO _,_|.fy,_|.h8,_=>rfl
 |.bx sz es g,bX=>by
  cases g with
  |cP a=>exact Loc.kH h bX
  |nil=>rfl
  |exact=>rfl
  |any=>rfl
 |.cH a _ _ _ _,bX=>Loc.kH h bX
 |.ref a _,bX=>Loc.kH h bX
 |.map a,bX=>Loc.kH h bX
 |.bk cs,bX=>af.m2 h cs bX
 |.fn _ cs,bX=>af.m2 h cs bX
 |.agg cs,bX=>af.m2 h cs bX
 |.ed cs,bX=>af.m2 h cs bX
 |.iface _ v,bX=>af.kH h v bX
theorem af.m2{d gg:Nat}(h:d≤gg):∀(vs:List af),af.j4 d vs=true→af.j4 gg vs=true
 |[],_=>rfl
 |v::vs,bX=>by simp only[af.j4,bo] at bX ⊢;exact⟨af.kH h v bX.1,af.m2 h vs bX.2⟩
end
mutual
theorem af.mw(d:Nat):∀(v:af),v.bb=true→v.low d=true
 |.dead,_|.bool _,_|.int _ _,_|.str _,_|.h7,_|.iq,_|.kO _,_|.fy,_|.h8,_=>rfl
 |.bx sz es g,bX=>by
  cases g with
  |cP a=>simp [af.bb] at bX
  |nil=>rfl
  |exact=>rfl
  |any=>rfl
 |.cH a _ _ _ _,bX=>by simp [af.bb] at bX
 |.ref a _,bX=>by simp [af.bb] at bX
 |.map a,bX=>by simp [af.bb] at bX
 |.bk cs,bX=>af.jh d cs bX
 |.fn _ cs,bX=>af.jh d cs bX
 |.agg cs,bX=>af.jh d cs bX
 |.ed cs,bX=>af.jh d cs bX
 |.iface _ v,bX=>af.mw d v bX
theorem af.jh(d:Nat):∀(vs:List af),af.aX vs=true→af.j4 d vs=true
 |[],_=>rfl
 |v::vs,bX=>by simp only[af.aX,bo] at bX;simp only[af.j4,bo];exact⟨af.mw d v bX.1,af.jh d vs bX.2⟩
end
theorem lp{d:Nat}{cs:List af}:af.j4 d cs=true↔∀c,c∈cs→c.low d=true:=by
 induction cs with
 |nil=>simp [af.j4]
 |cons v vs e=>simp [af.j4,e]
theorem vT{d:Nat}{e:af}(h:e.low d=true){c:af}(a0:c∈e.cells):c.low d=true:=by
 unfold af.cells at a0;split at a0
 ·exact lp.1 (by simpa [af.low] using h) c a0
 ·simp at a0;exact a0 ▸ h
theorem dK.lower{κ:bq}{D d:Nat}{v:af}{x:Value}(h:dK κ D v x)(bU:v.low d=true):dK κ (d+1) v x:=by
 induction h with
 |dead x=>exact .dead x
 |bool b=>exact .bool b
 |int k n=>exact .int k n
 |str fo s h=>exact .str fo s h
 |lo sz=>exact .lo sz
 |bx sz es g a cap dz b2 cZ ba fi iP y bX r=>
  refine .bx sz es g a cap dz ?_ cZ ba fi iP y (fun j c a0=>?_)
  ·cases g with
   |cP l=>
    cases l with
    |l i=>simp [af.low,Loc.low] at bU
    |g e i=>exact⟨Nat.lt_succ_of_le (d9 (by simpa [af.low,Loc.low] using bU)),b2.2⟩
   |nil=>exact b2
   |exact=>exact b2
   |any=>exact b2
  ·obtain⟨e,he,A⟩:=List.mem_flatMap.1 (List.mem_of_getElem? a0);rcases iP with iP|⟨gg,hZ,rfl,iP⟩
   ·exact(bX j c a0).bb (iD (iP e he) A) _ (fun _ _ h=>h)
   ·exact r j c a0 (af.kH (d9 (by simpa [af.low,Loc.low] using bU)) c (vT (iP e he) A))
 |cH e i off len cap mv sz cW bZ u a0=>exact .cH e i off len cap mv sz (Nat.lt_succ_of_le (d9 (by simpa [af.low,Loc.low] using bU))) bZ u a0
 |ref e i off cW bZ=>exact .ref e i off (Nat.lt_succ_of_le (d9 (by simpa [af.low,Loc.low] using bU))) bZ
 |bk cs a dz ba y bX r=>exact .bk cs a dz ba y (fun j c a0=>r j c a0 (ol (by simpa [af.low] using bU) a0))
 |h7=>exact .h7
 |fn f cs xs u bX r=>exact .fn f cs xs u (fun j c x a0 a1=>r j c x a0 a1 (ol (by simpa [af.low] using bU) a0))
 |iq=>exact .iq
 |kO l=>exact .kO l
 |fy=>exact .fy
 |map e i cW bZ=>exact .map e i (Nat.lt_succ_of_le (d9 (by simpa [af.low,Loc.low] using bU))) bZ
 |iface t v x h r=>exact .iface t v x (r (by simpa [af.low] using bU))
 |h8=>exact .h8
 |agg cs xs u bX r=>exact .agg cs xs u (fun j c x a0 a1=>r j c x a0 a1 (ol (by simpa [af.low] using bU) a0))
 |ed cs xs u bX r=>exact .ed cs xs u (fun j c x a0 a1=>r j c x a0 a1 (ol (by simpa [af.low] using bU) a0))
def aba(jA:Nat×Nat)(n:Nat):Prop:=∀j,j<n→¬(jA.1≤j∧j<jA.2)
def m3(κ:bq)(D:Nat)(es:List (af×af))(fD:List MapEntry):Prop:=
 fD.length=es.length∧∀(j:Nat) (p:af×af) (e:MapEntry),es[j]? =some p→fD[j]? =some e→dK κ D p.1 e.key∧dK κ D p.2 e.val
theorem m3.mono{κ κ':bq}{D:Nat}{es:List (af×af)}{fD:List MapEntry}(h:m3 κ D es fD)(k:hk κ κ' D):m3 κ' D es fD:=
 ⟨h.1,fun j p e fS he=>⟨(h.2 j p e fS he).1.mono k,(h.2 j p e fS he).2.mono k⟩⟩
def B7(κ:bq)(d i:Nat)(w:World):b4→Prop
 |.cells cs=>(∃C e jA,w.heap[κ.loc d i]? =some (.cells C e jA)∧aba jA C.size∧eH κ (d+1) cs (C.toList.take cs.length)∧∀m b cap sz,κ.mb d i m=some (b,cap,sz)→cap*sz≤C.size)∧∀o,κ.F ⟨κ.loc d i,o,none⟩=none
 |.tok n=>∃b cap sz,κ.mb d i n=some (⟨b,0,none⟩,cap,sz)∧n≤cap∧(∃C e jA,w.heap[b]? =some (.cells C e jA)∧C.size=cap*sz∧aba jA C.size)∧(∀o,n*sz≤o→κ.F ⟨b,o,none⟩=none)∧∀m,n<m→κ.mb d i m=none
 |.gone=>True
 |.map es=>∃fD clock,w.heap[κ.loc d i]? =some (.map fD clock)∧m3 κ (d+1) es fD.toList
def bp(κ:bq)(d i:Nat):b4→Option Nat
 |.cells _|.map _=>some (κ.loc d i)
 |.tok n=>(κ.mb d i n).map (·.1.block)
 |.gone=>none
def ah.ap(s:ah)(d:Nat):Option (List b4):=if d=s.aa then some s.own else if d<s.aa then(s.up++s.ro)[s.aa-1-d]? else none
theorem ah.m4(s:ah)(d i:Nat):s.get (.g d i)=(s.ap d).bind (·[i]?):=by
 unfold ah.get ah.ap;by_cases h:d=s.aa
 ·simp [h]
 ·by_cases e:d<s.aa<;> simp [h,e]
theorem ah.ic(s:ah)(a:Loc):s.get (a.ao s.aa)=s.get a:=by
 cases a with
 |l i=>simp [Loc.ao,ah.get]
 |g d i=>rfl
structure db (κ:bq) (s:ah) (w:World):Prop where
 jb:∀a v,κ.F a=some v→a.spot=none∧w.cell? a=some v
 len:∀d l,s.ap d=some l→l.length=κ.n d
 obj:∀d i o,s.get (.g d i)=some o→B7 κ d i w o
 inj:∀d i o gg hZ o' b,s.get (.g d i)=some o→s.get (.g gg hZ)=some o'→bp κ d i o=some b→bp κ gg hZ o'=some b→d=gg∧i=hZ
def Live(κ:bq)(s:ah)(b:Nat):Prop:=∃d i o,s.get (.g d i)=some o∧bp κ d i o=some b
structure fP (κ:bq) (s:ah) (w:World) (κ':bq) (s':ah) (w':World):Prop where
 k:hk κ κ' (s.aa+1)
 aa:s'.aa=s.aa
 size:w.heap.size≤w'.heap.size
 os:w'.os=w.os
 tape:w'.tape=w.tape
 output:w'.output=w.output
 lq:∀b,b<w.heap.size→¬Live κ s b→w'.heap[b]? =w.heap[b]?
 live:∀b,b<w.heap.size→Live κ' s' b→Live κ s b
 pH:∀a,κ'.F a≠none→κ.F a≠none∨w.heap.size≤a.block∨Live κ s a.block
theorem fP.refl(κ:bq)(s:ah)(w:World):fP κ s w κ s w:=
 ⟨.refl _ _,rfl,aC _,rfl,rfl,rfl,fun _ _ _=>rfl,fun _ _ h=>h,fun _ h=>.inl h⟩
theorem fP.trans{κ r u:bq}{s y A:ah}{w B F:World}(h:fP κ s w r y B)(k:fP r y B u A F):fP κ s w u A F:=by
 refine⟨h.k.trans (h.aa ▸ k.k),k.aa.trans h.aa,Nat.le_trans h.size k.size,k.os.trans h.os,k.tape.trans h.tape,k.output.trans h.output,fun b e bU=>?_,fun b e bU=>?_,fun a H=>?_⟩
 ·rw[k.lq b (gy e h.size) (fun I=>bU (h.live b e I)),h.lq b e bU]
 ·exact h.live b e (k.live b (gy e h.size) bU)
 ·rcases k.pH a H with ar|ar|ar
  ·exact h.pH a ar
  ·exact .inr (.inl (Nat.le_trans h.size ar))
  ·by_cases e:a.block<w.heap.size
   ·exact .inr (.inr (h.live _ e ar))
   ·exact .inr (.inl (by omega))
def yk(κ:bq)(s:ah)(ap:Nat→af)(a:Act):Prop:=∀t,dK κ (s.aa+1) ((ap t).ao s.aa) (a.tmps.getD t undef)
theorem yk.ext{κ κ':bq}{s s':ah}{w w':World}{ap:Nat→af}{a:Act}(h:yk κ s ap a)(e:fP κ s w κ' s' w'):yk κ' s' ap a:=by
 intro t
 have:=(h t).mono e.k;rw[e.aa];exact this
theorem gu{a:Addr}(h:a.spot=none)(j:Nat):a.add j=⟨a.block,a.off+j,none⟩:=by
 unfold Addr.add;split
 ·subst_vars;cases a;simp_all
 ·cases a;simp_all
theorem add_add{a:Addr}(i j:Nat):(a.add i).add j=a.add (i+j):=by unfold Addr.add;by_cases bZ:i=0<;> by_cases cL:j=0<;> simp_all<;> omega
theorem m5{a:Addr}(h:a.spot=none)(j:Nat):(a.add j).spot=none:=by rw[gu h]
theorem gh{α:Type}(vs:List α):∀(cs:List α) (o:Nat),(dE cs o vs).length=cs.length:=by
 induction vs with
 |nil=>intro cs o;rfl
 |cons v vs e=>intro cs o;simp [dE,e]
theorem hg{α:Type}(vs:List α):∀(cs:List α) (o:Nat),o+vs.length≤cs.length→∀j,(dE cs o vs)[j]? =if o≤j∧j<o+vs.length then vs[j-o]? else cs[j]?:=by
 induction vs with
 |nil=>intro cs o _ j;simp [dE];omega
 |cons v vs e=>
  intro cs o h j;simp only[bT] at h;simp only[dE];rw[e (cs.set o v) (o+1) (by simp;omega)];by_cases cL:j=o
  ·subst cL;rw[if_neg (by omega),if_pos (by simp)];simp only[Nat.sub_self,List.getElem?_cons_zero];rw[List.getElem?_set_self (by omega)]
  ·by_cases ar:o+1≤j∧j<o+1+vs.length
   ·rw[if_pos ar,if_pos (by simp;omega)];obtain⟨m,rfl⟩:∃m,j=o+1+m:=⟨j-(o+1),by omega⟩;simp only[show o+1+m-(o+1)=m by omega,show o+1+m-o=m+1 by omega,List.getElem?_cons_succ]
   ·rw[if_neg ar,if_neg (by simp;omega)];rw[ix (by omega)]
theorem m6(vs:List Value):∀(w:World) (b o:Nat) (C:Array Value) (e:TypeId) (jA:Nat×Nat),w.heap[b]? =some (.cells C e jA)→o+vs.length≤C.size→
  ∀h,(w.setCells b o vs).heap[h]? =if h=b then some (.cells (dE C.toList o vs).toArray e jA) else w.heap[h]?:=by
 induction vs with
 |nil=>intro w b o C e jA r _ h;simp only[World.setCells,dE];split<;> simp_all
 |cons v vs u=>
  intro w b o C e jA r y h;simp only[bT] at y;have ar:(w.setCell ⟨b,o,none⟩ v).heap[b]? =some (.cells (C.setIfInBounds o v) e jA):=by simp [World.setCell,Array.getElem?_modify,r]
  rw[World.setCells,u _ b (o+1) _ e jA ar (by simp;omega)];split
  ·simp [dE,Array.toList_setIfInBounds]
  ·rename_i eu;simp [World.setCell,Array.getElem?_modify,Ne.symm eu]
theorem m7(vs:List Value):∀(w:World) (b o:Nat),(w.setCells b o vs).heap.size=w.heap.size:=by
 induction vs with
 |nil=>intro w b o;rfl
 |cons v vs e=>intro w b o;simp [World.setCells,e]
theorem m8(vs:List Value):∀(w:World) (b o:Nat),(w.setCells b o vs).os=w.os∧(w.setCells b o vs).tape=w.tape∧(w.setCells b o vs).output=w.output:=by
 induction vs with
 |nil=>intro w b o;exact⟨rfl,rfl,rfl⟩
 |cons v vs e=>intro w b o;simp only[World.setCells];exact e _ b (o+1)
theorem gi{w:World}{b o:Nat}{C:Array Value}{e:TypeId}{jA:Nat×Nat}(h:w.heap[b]? =some (.cells C e jA)):w.cell? ⟨b,o,none⟩=C[o]?:=by simp [World.cell?,h]
theorem g4{w w':World}{a:Addr}(h:w'.heap[a.block]? =w.heap[a.block]?):w'.cell? a=w.cell? a:=by simp [World.cell?,h]
theorem pI{w:World}{a:Addr}{v:Value}(h:w.cell? a=some v):a.block<w.heap.size:=by
 unfold World.cell? at h;split at h
 ·rename_i e;exact(Array.getElem?_eq_some_iff.1 e).1
 ·cases h
theorem eH.get{κ:bq}{D:Nat}{cs:List af}{xs:List Value}(h:eH κ D cs xs){j:Nat}{c:af}(a0:cs[j]? =some c):∃x,xs[j]? =some x∧dK κ D c x:=by
 have cL:j<xs.length:=by rw[h.1];exact(dy.1 a0).1
 exact⟨xs[j],eb cL,h.2 j c _ a0 (eb cL)⟩
theorem eH.mono{κ κ':bq}{D:Nat}{cs:List af}{xs:List Value}(h:eH κ D cs xs)(k:hk κ κ' D):eH κ' D cs xs:=
 ⟨h.1,fun j c x a0 a1=>(h.2 j c x a0 a1).mono k⟩
theorem eH.up{κ:bq}{D e:Nat}{cs:List af}{xs:List Value}(h:eH κ D cs xs)(k:D≤e):eH κ e cs xs:=
 ⟨h.1,fun j c x a0 a1=>(h.2 j c x a0 a1).up k⟩
theorem eH.nil(κ:bq)(D:Nat):eH κ D [] []:=⟨rfl,fun j c x a0=>by simp at a0⟩
theorem eH.cons{κ:bq}{D:Nat}{c:af}{x:Value}{cs:List af}{xs:List Value}(h:dK κ D c x)(ba:eH κ D cs xs):eH κ D (c::cs) (x::xs):=by
 refine⟨by simp [ba.1],fun j oK kT a0 a1=>?_⟩;cases j with
 |zero=>simp at a0 a1;exact a0 ▸ a1 ▸ h
 |succ j=>exact ba.2 j oK kT (by simpa using a0) (by simpa using a1)
theorem eH.append{κ:bq}{D:Nat}{cs iE:List af}{xs e:List Value}(h:eH κ D cs xs)(k:eH κ D iE e):eH κ D (cs++iE) (xs++e):=by
 refine⟨by simp [h.1,k.1],fun j c x a0 a1=>?_⟩;by_cases cL:j<cs.length
 ·rw[fB cL] at a0;rw[fB (by rw[h.1];exact cL)] at a1;exact h.2 j c x a0 a1
 ·rw[jt (by omega)] at a0;rw[jt (by rw[h.1];omega),h.1] at a1;exact k.2 _ c x a0 a1
theorem eH.vn{κ:bq}{D:Nat}{c:af}{cs:List af}{xs:List Value}(h:eH κ D (c::cs) xs):∃x e,xs=x::e∧dK κ D c x∧eH κ D cs e:=by
 cases xs with
 |nil=>have:=h.1;simp at this
 |cons x e=>exact⟨x,e,rfl,h.2 0 c x rfl rfl,by simpa using h.1,fun j oK kT a0 a1=>h.2 (j+1) oK kT (by simpa using a0) (by simpa using a1)⟩
theorem eH.drop{κ:bq}{D:Nat}{cs:List af}{xs:List Value}(h:eH κ D cs xs)(n:Nat):eH κ D (cs.drop n) (xs.drop n):=
 ⟨by simp [h.1],fun j c x a0 a1=>h.2 (n+j) c x (by simpa using a0) (by simpa using a1)⟩
theorem eH.take{κ:bq}{D:Nat}{cs:List af}{xs:List Value}(h:eH κ D cs xs)(n:Nat):eH κ D (cs.take n) (xs.take n):=by refine⟨by simp [h.1],fun j c x a0 a1=>?_⟩;simp only[List.getElem?_take] at a0 a1;split at a0<;> simp_all;exact h.2 j c x a0 a1
theorem eH.dE{κ:bq}{D:Nat}{cs vs:List af}{xs e:List Value}(h:eH κ D cs xs)(k:eH κ D vs e){o:Nat}(r:o+vs.length≤cs.length):eH κ D (dE cs o vs) (Ab.dE xs o e):=by
 refine⟨by simp [gh,h.1],fun j c x a0 a1=>?_⟩;rw[hg _ _ _ r] at a0;rw[hg _ _ _ (by rw[k.1,h.1];exact r),k.1] at a1;split at a0
 ·rw[if_pos (by assumption)] at a1;exact k.2 _ _ _ a0 a1
 ·rw[if_neg (by assumption)] at a1;exact h.2 _ _ _ a0 a1
theorem eH.bb{κ:bq}{D:Nat}{cs:List af}{xs:List Value}(h:eH κ D cs xs)(aV:af.aX cs=true){κ':bq}(e:Nat)(iC:∀a v,κ.F a=some v→κ'.F a=some v):eH κ' e cs xs:=
 ⟨h.1,fun j c x a0 a1=>(h.2 j c x a0 a1).bb (jg aV a0) e iC⟩
theorem B7.block{κ:bq}{d i:Nat}{w:World}{o:b4}{b:Nat}(h:B7 κ d i w o)(r:bp κ d i o=some b):∃u,w.heap[b]? =some u:=by
 cases o with
 |cells cs=>simp only[bp,bt] at r;subst r;obtain⟨⟨C,e,jA,ar,_⟩,_⟩:=h;exact⟨_,ar⟩
 |tok n=>obtain⟨y,cap,sz,ar,_,⟨C,e,jA,aw,_⟩,_⟩:=h;simp only[bp,ar,ep,bt] at r;subst r;exact⟨_,aw⟩
 |map es=>simp only[bp,bt] at r;subst r;obtain⟨fD,clock,ar,_⟩:=h;exact⟨_,ar⟩
 |gone=>simp [bp] at r
theorem db.kl{κ:bq}{s:ah}{w:World}(ba:db κ s w){b:Nat}(h:Live κ s b):b<w.heap.size:=by obtain⟨d,i,o,e,r⟩:=h;obtain⟨y,u⟩:=(ba.obj d i o e).block r;exact(Array.getElem?_eq_some_iff.1 u).1
theorem B7.b3{κ κ':bq}{d i:Nat}{w w':World}{o:b4}(h:B7 κ d i w o)(bZ:i<κ.n d)(cK:hk κ κ' (d+1))(eo:∀m,κ'.mb d i m=κ.mb d i m)(u:∀b,bp κ d i o=some b→w'.heap[b]? =w.heap[b]?∧∀x,κ'.F ⟨b,x,none⟩=κ.F ⟨b,x,none⟩):
  B7 κ' d i w' o∧bp κ' d i o=bp κ d i o:=by
 cases o with
 |cells cs=>obtain⟨⟨C,e,jA,ar,aw,bS,y⟩,dB⟩:=h;have bU:=cK.loc d i (Nat.lt_succ_self d) bZ;obtain⟨dn,r⟩:=u _ rfl;refine⟨⟨⟨C,e,jA,by rw[bU,dn,ar],aw,bS.mono cK,fun m b cap sz hm=>y m b cap sz (by rw[←eo];exact hm)⟩,fun o=>by rw[bU,r,dB]⟩,by simp [bp,bU]⟩
 |tok n=>obtain⟨b,cap,sz,ar,eO,⟨C,e,jA,aw,bS,dB⟩,y,A⟩:=h;have bU:=cK.mb d i n _ (Nat.lt_succ_self d) bZ ar;obtain⟨dn,r⟩:=u b (by simp [bp,ar]);exact⟨⟨b,cap,sz,bU,eO,⟨C,e,jA,by rw[dn,aw],bS,dB⟩,fun o B=>by rw[r,y o B],fun m hm=>by rw[eo,A m hm]⟩,by simp [bp,ar,bU]⟩
 |map es=>obtain⟨fD,clock,ar,aw⟩:=h;have bU:=cK.loc d i (Nat.lt_succ_self d) bZ;obtain⟨dn,r⟩:=u _ rfl;exact⟨⟨fD,clock,by rw[bU,dn,ar],aw.mono cK⟩,by simp [bp,bU]⟩
 |gone=>exact⟨trivial,rfl⟩
theorem db.om{κ:bq}{s:ah}{w:World}(ba:db κ s w){d i:Nat}{o:b4}(h:s.get (.g d i)=some o):i<κ.n d:=by
 rw[ah.m4] at h;cases bU:s.ap d with
 |none=>simp [bU] at h
 |some l=>rw[bU] at h;rw[←ba.len d l bU];exact(dy.1 h).1
theorem ah.gV{s:ah}{d i:Nat}{o:b4}(h:s.get (.g d i)=some o):d≤s.aa:=by
 rcases Nat.lt_trichotomy d s.aa with ar|ar|ar
 ·omega
 ·omega
 ·have aw:d≠s.aa:=by omega
  have bS:¬d<s.aa:=by omega
  simp [ah.get,aw,bS] at h
theorem db.IV{κ:bq}{s:ah}{w:World}(ba:db κ s w){d i:Nat}{o:b4}(h:s.get (.g d i)=some o):d<s.aa+1∧i<κ.n d:=⟨by have:=ah.gV h;omega,ba.om h⟩
theorem db.world{κ κ':bq}{s:ah}{w w':World}(ba:db κ s w)(cK:hk κ κ' (s.aa+1))(cZ:κ'.n=κ.n)(eo:κ'.mb=κ.mb)(iC:∀a v,κ'.F a=some v→a.spot=none∧w'.cell? a=some v)
  (u:∀b,Live κ s b→w'.heap[b]? =w.heap[b]?∧∀x,κ'.F ⟨b,x,none⟩=κ.F ⟨b,x,none⟩):db κ' s w':=by
 have key:∀d i o,s.get (.g d i)=some o→B7 κ' d i w' o∧bp κ' d i o=bp κ d i o:=fun d i o h=>(ba.obj d i o h).b3 (ba.om h) (cK.low (by have:=ah.gV h;omega)) (fun m=>by rw[eo]) (fun b y=>u b ⟨d,i,o,h,y⟩)
 refine⟨iC,fun d l h=>by rw[cZ];exact ba.len d l h,fun d i o h=>(key d i o h).1,fun d i o gg hZ o' b h r e im=>?_⟩;rw[(key d i o h).2] at e;rw[(key gg hZ o' r).2] at im;exact ba.inj d i o gg hZ o' b h r e im
def bq.freeze(κ:bq)(b gz:Nat)(C:Array Value):bq:=
 {κ with F:=fun a=>if a.block=b∧a.spot=none∧gz≤a.off∧a.off<C.size then C[a.off]? else κ.F a}
theorem oS{κ:bq}{b gz j:Nat}{C:Array Value}(h:gz≤j)(cL:j<C.size):(κ.freeze b gz C).F ⟨b,j,none⟩=some C[j]:=by simp [bq.freeze,h,cL]
theorem hk.freeze{κ:bq}{b gz:Nat}{C:Array Value}(e:∀j,gz≤j→κ.F ⟨b,j,none⟩=none)(D:Nat):hk κ (κ.freeze b gz C) D:=by
 refine⟨fun a v h=>?_,fun _ _=>aC _,fun _ _ _ _=>rfl,fun _ _ _ _ _ _ h=>h⟩;simp only[bq.freeze];split
 ·rename_i a0;have ar:=e a.off a0.2.2.1
  have:a=⟨b,a.off,none⟩:=by cases a;simp_all
  rw[this,ar] at h;cases h
 ·exact h
theorem db.rj{κ:bq}{s:ah}{w:World}(ba:db κ s w){a:Addr}(h:w.heap.size≤a.block):κ.F a=none:=by
 cases e:κ.F a with
 |none=>rfl
 |some v=>have:=pI (ba.jb a v e).2;omega
theorem db.rT{κ:bq}{s:ah}{w w':World}(ba:db κ s w)(C:Array Value)(e:TypeId)(jA:Nat×Nat)(hw:w'.heap=w.heap.push (.cells C e jA))(u:w'.os=w.os)(eo:w'.tape=w.tape)(hu:w'.output=w.output):
  db (κ.freeze w.heap.size 0 C) s w'∧fP κ s w (κ.freeze w.heap.size 0 C) s w':=by
 have hold:∀b,b<w.heap.size→w'.heap[b]? =w.heap[b]?:=fun b r=>by rw[hw,Array.getElem?_push];simp [Nat.ne_of_lt r]
 have y:w'.heap[w.heap.size]? =some (.cells C e jA):=by rw[hw];simp
 have cK:∀D,hk κ (κ.freeze w.heap.size 0 C) D:=fun D=>hk.freeze (fun j _=>ba.rj (aC _)) D
 refine⟨ba.world (cK _) rfl rfl (fun a v h=>?_) (fun b r=>⟨hold b (ba.kl r),fun x=>?_⟩),⟨cK _,rfl,by rw[hw];simp,u,eo,hu,fun b r _=>hold b r,fun b _ h=>h,fun a h=>?_⟩⟩
 ·simp only[bq.freeze] at h;split at h
  ·rename_i a0;refine⟨a0.2.1,?_⟩;have A:a=⟨w.heap.size,a.off,none⟩:=by cases a;simp_all
   rw[A,gi y];exact h
  ·obtain⟨ar,aw⟩:=ba.jb a v h;exact⟨ar,by rw[g4 (hold _ (pI aw))];exact aw⟩
 ·have:=ba.kl r;simp [bq.freeze,Nat.ne_of_lt this]
 ·simp only[bq.freeze] at h;split at h
  ·rename_i a0;exact .inr (.inl (by omega))
  ·exact .inl h
theorem db.same{κ:bq}{s:ah}{w w':World}(ba:db κ s w)(hw:w'.heap=w.heap)(e:w'.os=w.os)(eo:w'.tape=w.tape)(hu:w'.output=w.output):db κ s w'∧fP κ s w κ s w':=by refine⟨ba.world (.refl _ _) rfl rfl (fun a v h=>?_) (fun b _=>⟨by rw[hw],fun _=>rfl⟩),⟨.refl _ _,rfl,by rw[hw];exact aC _,e,eo,hu,fun b _ _=>by rw[hw],fun _ _ h=>h,fun _ h=>.inl h⟩⟩;obtain⟨ar,aw⟩:=ba.jb a v h;exact⟨ar,by rw[g4 (w:=w) (by rw[hw])];exact aw⟩
theorem ah.FL(s:ah)(o:b4):(s.new o).aa=s.aa:=rfl
theorem ah.Ul(s:ah)(o:b4)(d:Nat):(s.new o).ap d=if d=s.aa then some (s.own++[o]) else s.ap d:=by
 unfold ah.ap;simp only[ah.FL];by_cases cW:d=s.aa
 ·simp [cW,ah.new]
 ·simp only[cW,↓reduceIte];rfl
structure iW (s s':ah) (d i:Nat) (o:b4):Prop where
 aa:s'.aa=s.aa
 le:d≤s.aa
 ap:∀gg,s'.ap gg=if gg=d then(s.ap gg).map (· ++ [o]) else s.ap gg
 here:∃l,s.ap d=some l∧l.length=i
theorem iW.new(s:ah)(o:b4):iW s (s.new o) s.aa s.own.length o:=by
 refine⟨rfl,aC _,fun gg=>?_,s.own,by simp [ah.ap],rfl⟩;rw[ah.Ul];split
 ·rename_i h;subst h;simp [ah.ap]
 ·rfl
theorem iW.get{s s':ah}{d i:Nat}{o:b4}(h:iW s s' d i o)(gg hZ:Nat):s'.get (.g gg hZ)=if gg=d∧hZ=i then some o else s.get (.g gg hZ):=by
 rw[ah.m4,ah.m4,h.ap];obtain⟨l,ar,aw⟩:=h.here;by_cases cW:gg=d
 ·subst cW;simp only[↓reduceIte,ar,ep,fp,true_and];by_cases bZ:hZ=i
  ·subst bZ;simp [aw]
  ·rw[if_neg bZ];by_cases e:hZ<l.length
   ·rw[fB e]
   ·rw[List.getElem?_eq_none (by simp;omega),List.getElem?_eq_none (by omega)]
 ·simp [cW]
theorem iW.by{s s':ah}{a l:Loc}{o:b4}(h:s.gU a o=some (l,s')):∃d i,l.ao s.aa=.g d i∧iW s s' d i o:=by
 cases a with
 |l j=>simp only[ah.gU,bt,fb] at h;obtain⟨rfl,rfl⟩:=h;exact⟨_,_,rfl,iW.new s o⟩
 |g d j=>
  simp only[ah.gU] at h;split at h
  ·simp only[bt,fb] at h;obtain⟨rfl,rfl⟩:=h;exact⟨_,_,rfl,iW.new s o⟩
  ·rename_i eu;split at h
   ·rename_i a0;cases bU:s.up[s.aa-1-d]? with
    |none=>rw[bU] at h;cases h
    |some tz=>
     rw[bU] at h;simp only[bt,fb] at h;obtain⟨rfl,rfl⟩:=h;have hlen:s.aa=s.up.length+s.ro.length:=rfl;have r:s.aa-1-d<s.up.length:=by omega
     have A:s.ap d=some tz:=by simp only[ah.ap,eu,↓reduceIte,a0.1];rw[fB r,bU]
     have y:({s with up:=s.up.modify (s.aa-1-d) (· ++ [o])}:ah).aa=s.aa:=by simp [ah.aa]
     refine⟨d,tz.length,rfl,y,by omega,fun gg=>?_,tz,A,rfl⟩;unfold ah.ap;rw[y];by_cases ar:gg=s.aa
     ·have:¬s.aa=d:=fun e=>eu e.symm
      simp [ar,this]
     ·by_cases bS:gg<s.aa
      ·simp only[ar,↓reduceIte,bS];by_cases dB:gg=d
       ·subst dB;simp only[↓reduceIte];rw[fB (by simpa using r),fB r,List.getElem?_modify];simp
       ·simp only[dB,↓reduceIte];by_cases u:s.aa-1-gg<s.up.length
        ·rw[fB (by simpa using u),fB u,List.getElem?_modify];have fz:¬s.aa-1-d=s.aa-1-gg:=by omega
         simp [fz]
        ·rw[jt (by simpa using u),jt (by omega)];simp
      ·have:¬gg=d:=by omega
       simp [ar,bS,this]
   ·cases h
theorem db.newObj{κ κ':bq}{s:ah}{w w':World}(ba:db κ s w)(o:b4)(cK:hk κ κ' (s.aa+1)){s':ah}{B M:Nat}(y:iW s s' B M o)(cZ:∀d,κ'.n d=if d=B then κ.n d+1 else κ.n d)(V:∀d i m,i<κ.n d→κ'.mb d i m=κ.mb d i m)
  (iC:κ'.F=κ.F∨∃gz C,(κ'.F=(κ.freeze w.heap.size gz C).F)∧∃N e jA,w'.heap[w.heap.size]? =some (.cells N e jA)∧∀(j:Nat) (x:Value),C[j]? =some x→N[j]? =some x)(hold:∀b,b<w.heap.size→w'.heap[b]? =w.heap[b]?)(fi:w.heap.size≤w'.heap.size)(Y:w'.os=w.os)(eo:w'.tape=w.tape)(hu:w'.output=w.output)
  (Z:B7 κ' B M w' o)(u:∀b,bp κ' B M o=some b→w.heap.size≤b):db κ' s' w'∧fP κ s w κ' s' w':=by
 have ab:∀b x,b<w.heap.size→κ'.F ⟨b,x,none⟩=κ.F ⟨b,x,none⟩:=by
  intro b x u;rcases iC with iC|⟨gz,C,iC,_⟩
  ·rw[iC]
  ·rw[iC];simp [bq.freeze,Nat.ne_of_lt u]
 have key:∀d i o,s.get (.g d i)=some o→B7 κ' d i w' o∧bp κ' d i o=bp κ d i o:=fun d i o h=>(ba.obj d i o h).b3 (ba.om h) (cK.low (by have:=ah.gV h;omega)) (fun m=>V d i m (ba.om h)) (fun b U=>by have H:=ba.kl ⟨d,i,o,h,U⟩;exact⟨hold b H,fun x=>ab b x H⟩)
 refine⟨⟨fun a v h=>?_,fun d l h=>?_,fun d i o' h=>?_,fun d i I gg hZ J b h r e im=>?_⟩,⟨cK,y.aa,fi,Y,eo,hu,fun b u _=>hold b u,fun b U bU=>?_,fun a A=>?_⟩⟩
 ·rcases iC with iC|⟨gz,C,iC,N,e,jA,g5,ac⟩
  ·rw[iC] at h;obtain⟨ar,aw⟩:=ba.jb a v h;exact⟨ar,by rw[g4 (hold _ (pI aw))];exact aw⟩
  ·rw[iC] at h;simp only[bq.freeze] at h;split at h
   ·rename_i a0;refine⟨a0.2.1,?_⟩;have A:a=⟨w.heap.size,a.off,none⟩:=by cases a;simp_all
    rw[A,gi g5];exact ac _ _ h
   ·obtain⟨ar,aw⟩:=ba.jb a v h;exact⟨ar,by rw[g4 (hold _ (pI aw))];exact aw⟩
 ·rw[y.ap] at h;rw[cZ];split at h
  ·rename_i cW;cases bA:s.ap d with
   |none=>rw[bA] at h;cases h
   |some l'=>rw[bA] at h;simp only[ep,bt] at h;rw[←h,if_pos cW,←ba.len d l' bA];simp
  ·rename_i cW;rw[if_neg cW];exact ba.len d l h
 ·rw[y.get] at h;split at h
  ·rename_i a0;obtain⟨rfl,rfl⟩:=a0;simp only[bt] at h;exact h ▸ Z
  ·exact(key d i o' h).1
 ·rw[y.get] at h r;split at h
  ·rename_i a0;obtain⟨rfl,rfl⟩:=a0;simp only[bt] at h;subst h;split at r
   ·rename_i lr;exact⟨lr.1.symm,lr.2.symm⟩
   ·rw[(key gg hZ J r).2] at im
    have:=ba.kl ⟨gg,hZ,J,r,im⟩
    have:=u b e;omega
  ·split at r
   ·rename_i lr;obtain⟨rfl,rfl⟩:=lr;simp only[bt] at r;subst r;rw[(key d i I h).2] at e
    have:=ba.kl ⟨d,i,I,h,e⟩
    have:=u b im;omega
   ·rw[(key d i I h).2] at e;rw[(key gg hZ J r).2] at im;exact ba.inj d i I gg hZ J b h r e im
 ·obtain⟨d,i,o',b2,O⟩:=bU;rw[y.get] at b2;split at b2
  ·rename_i a0;obtain⟨rfl,rfl⟩:=a0;simp only[bt] at b2;subst b2
   have:=u b O;omega
  ·rw[(key d i o' b2).2] at O;exact⟨d,i,o',b2,O⟩
 ·by_cases H:a.block<w.heap.size
  ·left
   rcases iC with iC|⟨gz,C,iC,_⟩
   ·rwa [iC] at A
   ·rw[iC] at A;simpa [bq.freeze,Nat.ne_of_lt H] using A
  ·exact .inr (.inl (by omega))
theorem db.pJ{κ:bq}{s:ah}{w w':World}(ba:db κ s w)(cs:List af)(C:Array Value)(e:TypeId)(a0:eH κ (s.aa+1) cs C.toList)(hw:w'.heap=w.heap.push (.cells C e (0,0)))(u:w'.os=w.os)(eo:w'.tape=w.tape)(hu:w'.output=w.output):
  ∃κ',db κ' (s.new (.cells cs)) w'∧fP κ s w κ' (s.new (.cells cs)) w'∧κ'.loc s.aa s.own.length=w.heap.size∧s.own.length<κ'.n s.aa:=by
 have y:s.own.length=κ.n s.aa:=ba.len s.aa s.own (by simp [ah.ap])
 let κ':bq:={κ with n:=fun d=>if d=s.aa then κ.n d+1 else κ.n d,loc:=fun d i=>if d=s.aa∧i=s.own.length then w.heap.size else κ.loc d i,mb:=fun d i m=>if d=s.aa∧i=s.own.length then none else κ.mb d i m}
 have eu:∀d i,i<κ.n d→¬(d=s.aa∧i=s.own.length):=by
  rintro d i bZ ⟨rfl,rfl⟩
  omega
 have cK:hk κ κ' (s.aa+1):=by
  refine⟨fun _ _ h=>h,fun d _=>?_,fun d i _ bZ=>?_,fun d i n x _ bZ h=>?_⟩
  ·simp only[κ'];split<;> omega
  ·simp only[κ'];rw[if_neg (eu d i bZ)]
  ·simp only[κ'];rw[if_neg (eu d i bZ)];exact h
 have A:w'.heap[w.heap.size]? =some (.cells C e (0,0)):=by rw[hw];simp
 refine⟨κ',?_⟩
 have:=ba.newObj (κ':=κ') (w':=w') (.cells cs) cK (iW.new s _) (fun d=>rfl) (fun d i m bZ=>if_neg (eu d i bZ)) (.inl rfl) (fun b r=>by rw[hw,Array.getElem?_push];simp [Nat.ne_of_lt r]) (by rw[hw];simp) u eo hu
  ⟨⟨C,e,(0,0),by simp [κ',A],fun j _=>by simp,by rw[show C.toList.take cs.length=C.toList from iV (by rw[a0.1];exact aC _)];exact a0.mono cK,fun m b cap sz h=>by simp [κ'] at h⟩,fun o=>ba.rj (by simp [κ'])⟩ (fun b r=>by simp [bp,κ'] at r;omega)
 exact⟨this.1,this.2,by simp [κ'],by simp [κ',y]⟩
theorem ah.lX(s:ah)(a:Loc)(o:b4):s.set (a.ao s.aa) o=s.set a o:=by
 cases a with
 |l i=>simp [Loc.ao,ah.set]
 |g d i=>rfl
theorem ue(l:List (List b4))(n i:Nat)(o:b4)(m:Nat):(l.modify n (·.set i o))[m]? =if m=n then(l[m]?).map (·.set i o) else l[m]?:=by
 rw[List.getElem?_modify];by_cases h:m=n
 ·simp [h]
 ·simp [h,Ne.symm h]
theorem ah.vU{s s':ah}{d i:Nat}{o:b4}(h:s.set (.g d i) o=some s'):s'.aa=s.aa∧∀gg,s'.ap gg=if gg=d then(s.ap gg).map (·.set i o) else s.ap gg:=by
 by_cases cW:d=s.aa
 ·simp only[ah.set,cW,↓reduceIte,bt] at h;subst h;refine⟨rfl,fun gg=>?_⟩;by_cases ar:gg=s.aa
  ·simp [ah.ap,ah.aa,ar,cW]
  ·have A:¬gg=s.up.length+s.ro.length:=ar;simp only[ah.ap,ah.aa,A,cW,↓reduceIte];rfl
 ·by_cases aw:d<s.aa∧s.ro.length≤d
  ·simp only[ah.set,cW,↓reduceIte,aw,and_self,bt] at h;subst h;have u:({s with up:=s.up.modify (s.aa-1-d) (·.set i o)}:ah).aa=s.aa:=by simp [ah.aa]
   refine⟨u,fun gg=>?_⟩;unfold ah.ap;rw[u];by_cases ar:gg=s.aa
   ·have:¬s.aa=d:=fun e=>cW e.symm
    simp [ar,this]
   ·by_cases bS:gg<s.aa
    ·have hlen:s.aa=s.up.length+s.ro.length:=rfl;have y:s.aa-1-d<s.up.length:=by omega
     simp only[ar,↓reduceIte,bS];by_cases dB:gg=d
     ·subst dB;simp only[↓reduceIte];rw[fB (by simpa using y),fB y,ue];simp
     ·simp only[dB,↓reduceIte];by_cases r:s.aa-1-gg<s.up.length
      ·rw[fB (by simpa using r),fB r,ue,if_neg (by omega)]
      ·rw[jt (by simpa using r),jt (by omega)];simp
    ·by_cases dB:gg=d
     ·exact absurd (dB ▸ aw.1) bS
     ·simp [ar,bS,dB]
  ·have bS:¬(d<s.aa∧s.ro.length≤d):=aw;simp [ah.set,cW,bS] at h
theorem ah.vV{s s':ah}{d i:Nat}{o u:b4}(h:s.set (.g d i) o=some s')(b2:s.get (.g d i)=some u)(gg hZ:Nat):s'.get (.g gg hZ)=if gg=d∧hZ=i then some o else s.get (.g gg hZ):=by
 rw[ah.m4,(ah.vU h).2 gg,ah.m4];by_cases cW:gg=d
 ·subst cW;rw[ah.m4] at b2;cases bA:s.ap gg with
  |none=>simp [bA] at b2
  |some l=>
   rw[bA] at b2;simp only[fp] at b2;have bZ:i<l.length:=(dy.1 b2).1;simp only[↓reduceIte,ep,fp,true_and];by_cases r:hZ=i
   ·subst r;simp [bZ]
   ·rw[if_neg r,ix (fun e=>r e.symm)]
 ·simp [cW]
theorem db.setObj{κ κ':bq}{s s':ah}{w w':World}(ba:db κ s w){d i:Nat}{o o':b4}(b2:s.get (.g d i)=some o)(V:s.set (.g d i) o'=some s')(cK:hk κ κ' (s.aa+1))(cZ:κ'.n=κ.n)
  (ac:∀gg hZ m,¬(gg=d∧hZ=i)→κ'.mb gg hZ m=κ.mb gg hZ m)(iC:∀a v,κ'.F a=some v→a.spot=none∧w'.cell? a=some v)
  (hold:∀b,b<w.heap.size→bp κ d i o≠some b→w'.heap[b]? =w.heap[b]?∧∀x,κ'.F ⟨b,x,none⟩=κ.F ⟨b,x,none⟩)
  (fi:w.heap.size≤w'.heap.size)(ad:w'.os=w.os)(eo:w'.tape=w.tape)(hu:w'.output=w.output)
  (ae:B7 κ' d i w' o')(B:∀b,bp κ' d i o'=some b→bp κ d i o=some b∨w.heap.size≤b):db κ' s' w'∧fP κ s w κ' s' w':=by
 have M:=ah.vV V b2;obtain⟨af,cd⟩:=ah.vU V;have key:∀r u y,¬(r=d∧u=i)→s.get (.g r u)=some y→B7 κ' r u w' y∧bp κ' r u y=bp κ r u y:=fun r u y eu h=>(ba.obj r u y h).b3 (ba.om h) (cK.low (by have:=ah.gV h;omega)) (fun m=>ac r u m eu) (fun b N=>by have O:=ba.kl ⟨r,u,y,h,N⟩;exact hold b O (fun e=>eu (ba.inj r u y d i o b h b2 N e)))
 refine⟨⟨iC,fun r l h=>?_,fun r u y h=>?_,fun r u y H I J b h A e im=>?_⟩,⟨cK,af,fi,ad,eo,hu,fun b B bU=>(hold b B (fun e=>bU ⟨d,i,o,b2,e⟩)).1,fun b N bU=>?_,fun a Y=>?_⟩⟩
 ·rw[cd] at h;rw[cZ];split at h
  ·cases bA:s.ap r with
   |none=>simp [bA] at h
   |some l'=>rw[bA] at h;simp only[ep,bt] at h;rw[←h];simpa using ba.len r l' bA
  ·exact ba.len r l h
 ·rw[M] at h;split at h
  ·rename_i a0;obtain⟨rfl,rfl⟩:=a0;simp only[bt] at h;exact h ▸ ae
  ·rename_i a0;exact(key r u y a0 h).1
 ·rw[M] at h A;split at h
  ·rename_i a0;obtain⟨rfl,rfl⟩:=a0;simp only[bt] at h;subst h;split at A
   ·rename_i lr;exact⟨lr.1.symm,lr.2.symm⟩
   ·rename_i lr;rw[(key H I J lr A).2] at im;rcases B b e with ar|ar
    ·obtain⟨aw,bS⟩:=ba.inj H I J _ _ o b A b2 im ar;exact absurd ⟨aw,bS⟩ lr
    ·have:=ba.kl ⟨H,I,J,A,im⟩;omega
  ·rename_i a0;rw[(key r u y a0 h).2] at e;split at A
   ·rename_i lr;obtain⟨rfl,rfl⟩:=lr;simp only[bt] at A;subst A;rcases B b im with ar|ar
    ·obtain⟨aw,bS⟩:=ba.inj r u y _ _ o b h b2 e ar;exact absurd ⟨aw,bS⟩ a0
    ·have:=ba.kl ⟨r,u,y,h,e⟩;omega
   ·rename_i lr;rw[(key H I J lr A).2] at im;exact ba.inj r u y H I J b h A e im
 ·obtain⟨r,u,y,h,U⟩:=bU;rw[M] at h;split at h
  ·rename_i a0;obtain⟨rfl,rfl⟩:=a0;simp only[bt] at h;subst h;rcases B b U with ar|ar
   ·exact⟨_,_,o,b2,ar⟩
   ·omega
  ·rename_i a0;rw[(key r u y a0 h).2] at U;exact⟨r,u,y,h,U⟩
 ·by_cases O:a.block<w.heap.size
  ·by_cases Z:bp κ d i o=some a.block
   ·exact .inr (.inr ⟨d,i,o,b2,Z⟩)
   ·left
    cases a1:κ'.F a with
    |none=>exact absurd a1 Y
    |some v=>
     have ag:=(iC a v a1).1;have ar:=(hold a.block O Z).2 a.off;have ab:a=⟨a.block,a.off,none⟩:=by cases a;simp_all
     rw[ab,←ar,←ab];exact Y
  ·exact .inr (.inl (by omega))
theorem rU{α:Type}:∀(l:List α) (off:Nat) (xs:List α) (n:Nat),off+xs.length≤n→(dE l off xs).take n=dE (l.take n) off xs
 |l,off,[],n,_=>rfl
 |l,off,x::xs,n,h=>by simp only[dE];rw[rU _ _ xs n (by simp at h;omega)];congr 1;rw[List.take_set]
theorem db.store{κ:bq}{s s':ah}{w:World}(ba:db κ s w){d i off:Nat}{cs vs:List af}{xs:List Value}(b2:s.get (.g d i)=some (.cells cs))(y:s.set (.g d i) (.cells (dE cs off vs))=some s')
  (bX:eH κ (d+1) vs xs)(A:off+vs.length≤cs.length):db κ s' (w.setCells (κ.loc d i) off xs)∧fP κ s w κ s' (w.setCells (κ.loc d i) off xs):=by
 obtain⟨⟨C,e,jA,ar,aw,bS,B⟩,dB⟩:=ba.obj d i _ b2;have J:xs.length=vs.length:=bX.1;have M:cs.length≤C.size:=by have:=bS.1;simp at this;omega
 have r:=m6 xs w (κ.loc d i) off C e jA ar (by omega);obtain⟨px,rk,Cd⟩:=m8 xs w (κ.loc d i) off;refine ba.setObj b2 y (.refl _ _) rfl (fun _ _ _ _=>rfl) (fun a v h=>?_) (fun b _ u=>⟨?_,fun _=>rfl⟩) (by rw[m7];exact aC _) px rk Cd ⟨⟨(dE C.toList off xs).toArray,e,jA,by rw[r];simp,by simpa [gh] using aw,by simpa [gh,rU C.toList off xs cs.length (by omega)] using bS.dE bX A,fun m b cap sz hm=>by simpa [gh] using B m b cap sz hm⟩,dB⟩ (fun b u=>.inl u)
 ·obtain⟨F,H⟩:=ba.jb a v h;refine⟨F,?_⟩;rw[g4 (w:=w) ?_]
  ·exact H
  ·rw[r,if_neg];intro dn;have I:a=⟨κ.loc d i,a.off,none⟩:=by cases a;simp_all
   rw[I,dB] at h;cases h
 ·rw[r,if_neg (fun dn=>u (by simp [bp,dn]))]
theorem db.vW{κ:bq}{s s':ah}{w:World}(ba:db κ s w){d i:Nat}{cs:List af}(b2:s.get (.g d i)=some (.cells cs))(u:s.set (.g d i) .gone=some s'):
  ∃C e jA,w.heap[κ.loc d i]? =some (.cells C e jA)∧eH κ (d+1) cs (C.toList.take cs.length)∧db (κ.freeze (κ.loc d i) 0 C) s' w∧fP κ s w (κ.freeze (κ.loc d i) 0 C) s' w:=by
 obtain⟨⟨C,e,jA,ar,aw,bS,_⟩,dB⟩:=ba.obj d i _ b2;refine⟨C,e,jA,ar,bS,?_⟩;refine ba.setObj b2 u (hk.freeze (fun j _=>dB j) _) rfl (fun _ _ _ _=>rfl) (fun a v h=>?_) (fun b _ r=>⟨rfl,fun x=>?_⟩) (aC _) rfl rfl rfl trivial (fun b r=>by simp [bp] at r)
 ·simp only[bq.freeze] at h;split at h
  ·rename_i a0;refine⟨a0.2.1,?_⟩;have y:a=⟨κ.loc d i,a.off,none⟩:=by cases a;simp_all
   rw[y,gi ar];exact h
  ·exact ba.jb a v h
 ·simp only[bp,ne_eq,bt] at r;simp [bq.freeze,Ne.symm r]
theorem db.Um{κ:bq}{s s':ah}{w w':World}(ba:db κ s w){r u:Nat}(A:iW s s' r u (.map []))(hw:w'.heap=w.heap.push (.map #[] 0))(B:w'.os=w.os)(eo:w'.tape=w.tape)(hu:w'.output=w.output):
  ∃κ',db κ' s' w'∧fP κ s w κ' s' w'∧κ'.loc r u=w.heap.size∧u<κ'.n r:=by
 have F:u=κ.n r:=by obtain⟨l,ar,aw⟩:=A.here;rw[←aw];exact ba.len r l ar
 let κ':bq:={κ with n:=fun d=>if d=r then κ.n d+1 else κ.n d,loc:=fun d i=>if d=r∧i=u then w.heap.size else κ.loc d i}
 have cK:hk κ κ' (s.aa+1):=by
  refine⟨fun _ _ h=>h,fun d _=>?_,fun d i _ bZ=>?_,fun _ _ _ _ _ _ h=>h⟩
  ·simp only[κ'];split<;> omega
  ·simp only[κ'];rw[if_neg]
   rintro ⟨rfl,rfl⟩
   omega
 have H:w'.heap[w.heap.size]? =some (.map #[] 0):=by rw[hw];simp
 refine⟨κ',?_⟩
 have:=ba.newObj (κ':=κ') (w':=w') (.map []) cK A (fun d=>rfl) (fun _ _ _ _=>rfl) (.inl rfl) (fun b y=>by rw[hw,Array.getElem?_push];simp [Nat.ne_of_lt y]) (by rw[hw];simp) B eo hu
  ⟨#[],0,by simp [κ',H],rfl,fun j p e fS=>by simp at fS⟩ (fun b y=>by simp [bp,κ'] at y;omega)
 exact⟨this.1,this.2,by simp [κ'],by simp [κ',F]⟩
theorem db.IW{κ:bq}{s s':ah}{w:World}(ba:db κ s w){d i:Nat}{es A:List (af×af)}{fD:Array MapEntry}{clock:Nat}(b2:s.get (.g d i)=some (.map es))(B:s.set (.g d i) (.map A)=some s')(hm:m3 κ (d+1) A fD.toList):
  db κ s' {w with heap:=w.heap.setIfInBounds (κ.loc d i) (.map fD clock)}∧fP κ s w κ s' {w with heap:=w.heap.setIfInBounds (κ.loc d i) (.map fD clock)}:=by
 obtain⟨I,J,ar,aw⟩:=ba.obj d i _ b2;have F:κ.loc d i<w.heap.size:=(Array.getElem?_eq_some_iff.1 ar).1;have u:∀b,(w.heap.setIfInBounds (κ.loc d i) (.map fD clock))[b]? =if b=κ.loc d i then some (.map fD clock) else w.heap[b]?:=by
  intro b;rw[Array.getElem?_setIfInBounds];by_cases r:κ.loc d i=b
  ·subst r;simp [F]
  ·have:¬b=κ.loc d i:=fun e=>r e.symm
   simp [r,this]
 refine ba.setObj (w':={w with heap:=w.heap.setIfInBounds (κ.loc d i) (.map fD clock)}) b2 B (.refl _ _) rfl (fun _ _ _ _=>rfl) (fun a v h=>?_) (fun b _ r=>⟨?_,fun _=>rfl⟩) (by simp) rfl rfl rfl ⟨fD,clock,by simp [u],hm⟩ (fun b r=>.inl r)
 ·obtain⟨H,y⟩:=ba.jb a v h;refine⟨H,?_⟩;rw[g4 (w:=w) ?_]
  ·exact y
  ·show(w.heap.setIfInBounds _ _)[_]? =_;rw[u,if_neg];intro dn
   have:w.cell? a=none:=by simp [World.cell?,dn,ar]
   rw[this] at y;cases y
 ·show(w.heap.setIfInBounds _ _)[_]? =_;rw[u,if_neg (fun dn=>r (by simp [bp,dn]))]
theorem db.IX{κ:bq}{s:ah}{w w':World}(ba:db κ s w){s':ah}{r u:Nat}(C:Array Value)(e:TypeId)(n sz cap:Nat)(A:iW s s' r u (.tok n))(g5:C.size=cap*sz)(cZ:n≤cap)(hw:w'.heap=w.heap.push (.cells C e (0,0)))(I:w'.os=w.os)(eo:w'.tape=w.tape)(hu:w'.output=w.output):
  ∃κ',db κ' s' w'∧fP κ s w κ' s' w'∧u<κ'.n r∧κ'.mb r u n=some (⟨w.heap.size,0,none⟩,cap,sz)∧∀j,j<n*sz→κ'.F ⟨w.heap.size,j,none⟩=C[j]?:=by
 have J:u=κ.n r:=by obtain⟨l,ar,aw⟩:=A.here;rw[←aw];exact ba.len r l ar
 have hle:n*sz≤C.size:=by rw[g5];exact gn _ cZ
 have B:((C.toList.take (n*sz)).toArray).size=n*sz:=by simp;omega
 let κ':bq:={(κ.freeze w.heap.size 0 (C.toList.take (n*sz)).toArray) with n:=fun d=>if d=r then κ.n d+1 else κ.n d,mb:=fun d i m=>if d=r∧i=u then(if m=n then some (⟨w.heap.size,0,none⟩,cap,sz) else none) else κ.mb d i m}
 have cK:hk κ κ' (s.aa+1):=by
  refine⟨fun a v h=>?_,fun d _=>?_,fun _ _ _ _=>rfl,fun d i m x _ bZ h=>?_⟩
  ·exact(hk.freeze (fun j _=>ba.rj (aC _)) (s.aa+1)).F a v h
  ·simp only[κ'];split<;> omega
  ·simp only[κ'];rw[if_neg]
   ·exact h
   ·rintro ⟨rfl,rfl⟩;omega
 have H:w'.heap[w.heap.size]? =some (.cells C e (0,0)):=by rw[hw];simp
 have M:∀j,j<n*sz→κ'.F ⟨w.heap.size,j,none⟩=C[j]?:=by intro j cL;simp only[κ',bq.freeze];rw[if_pos (⟨trivial,trivial,Nat.zero_le _,by rw[B];exact cL⟩:True∧True∧0≤j∧j<((C.toList.take (n*sz)).toArray).size)];simp [cL]
 have hold:∀b,b<w.heap.size→w'.heap[b]? =w.heap[b]?:=fun b y=>by rw[hw,Array.getElem?_push];simp [Nat.ne_of_lt y]
 refine⟨κ',?_⟩;have main:=ba.newObj (κ':=κ') (w':=w') (.tok n) cK A (fun d=>rfl) (fun d i m bZ=>?_) ?iC hold (by rw[hw];simp) I eo hu
  ⟨w.heap.size,cap,sz,by simp [κ'],cZ,⟨C,e,(0,0),H,g5,fun j _=>by simp⟩,fun o ar=>?_,fun m hm=>?_⟩ (fun b y=>?_)
 case iC=>exact .inr ⟨0,(C.toList.take (n*sz)).toArray,rfl,C,e,(0,0),H,fun j x a1=>by
  rw[List.getElem?_toArray,List.getElem?_take] at a1;split at a1
  ·simpa using a1
  ·cases a1⟩
 ·exact⟨main.1,main.2,by simp [κ',J],by simp [κ'],M⟩
 ·simp only[κ'];rw[if_neg]
  rintro ⟨rfl,rfl⟩
  omega
 ·simp only[κ',bq.freeze];rw[if_neg (by intro h;have:=h.2.2.2;rw[B] at this;omega)];exact ba.rj (aC _)
 ·simp only[κ'];rw[if_pos (by simp),if_neg (by omega)]
 ·simp [bp,κ'] at y;omega
theorem db.Ot{κ:bq}{s s':ah}{w:World}(ba:db κ s w){d i n m b cap sz:Nat}(b2:s.get (.g d i)=some (.tok n))(B:κ.mb d i n=some (⟨b,0,none⟩,cap,sz))(U:s.set (.g d i) (.tok m)=some s')
  (V:n<m)(hm:m≤cap)(xs:List Value)(a1:xs.length=(m-n)*sz):
  ∃κ',db κ' s' (w.setCells b (n*sz) xs)∧fP κ s w κ' s' (w.setCells b (n*sz) xs)∧κ'.mb d i m=some (⟨b,0,none⟩,cap,sz)∧∀j x,xs[j]? =some x→κ'.F ⟨b,n*sz+j,none⟩=some x:=by
 obtain⟨I,ab,ac,ar,eO,⟨C,e,jA,aw,bS,dB⟩,J,M⟩:=ba.obj d i _ b2;rw[B] at ar;simp only[bt,fb,Addr.mk.injEq,and_true] at ar;obtain⟨rfl,rfl,rfl⟩:=ar;obtain⟨ad,ae⟩:=ba.IV b2;have hmul:n*sz+(m-n)*sz=m*sz:=by rw[←fq];congr 1;omega
 have hle:m*sz≤C.size:=by rw[bS];exact gn _ hm
 have u:=m6 xs w b (n*sz) C e jA aw (by omega);obtain⟨px,rk,Cd⟩:=m8 xs w b (n*sz)
 let E:Array Value:=((dE C.toList (n*sz) xs).take (m*sz)).toArray
 have bB:E.size=m*sz:=by simp [E,gh];omega
 have N:∀j,n*sz≤j→j<m*sz→E[j]? =xs[j-n*sz]?:=by intro j cL vX;simp only[E,List.getElem?_toArray,List.getElem?_take,vX,↓reduceIte];rw[hg _ _ _ (by simp;omega),if_pos ⟨cL,by omega⟩]
 let κ':bq:={(κ.freeze b (n*sz) E) with mb:=fun gg hZ jU=>if gg=d∧hZ=i∧jU=m then some (⟨b,0,none⟩,cap,sz) else κ.mb gg hZ jU}
 have cK:hk κ κ' (s.aa+1):=by
  refine⟨fun a v h=>(hk.freeze (fun j cL=>J j cL) (s.aa+1)).F a v h,fun _ _=>aC _,fun _ _ _ _=>rfl,fun gg hZ jU x _ _ h=>?_⟩;simp only[κ'];split
  ·rename_i a0;obtain⟨rfl,rfl,rfl⟩:=a0;rw[M _ V] at h;cases h
  ·exact h
 have iC:∀a v,κ'.F a=some v→a.spot=none∧(w.setCells b (n*sz) xs).cell? a=some v:=by
  intro a v h;simp only[κ',bq.freeze] at h;split at h
  ·rename_i a0;obtain⟨af,Y,O,ls⟩:=a0;rw[bB] at ls;refine⟨Y,?_⟩;have y:a=⟨b,a.off,none⟩:=by cases a;simp_all
   rw[y,gi (by rw[u,if_pos rfl])];rw[N _ O ls] at h;rw[List.getElem?_toArray,hg _ _ _ (by simp;omega),if_pos ⟨O,by omega⟩];exact h
  ·obtain⟨H,r⟩:=ba.jb a v h;refine⟨H,?_⟩;by_cases Z:a.block=b
   ·have y:a=⟨b,a.off,none⟩:=by cases a;simp_all
    have ag:a.off<n*sz:=by
     rcases Nat.lt_or_ge a.off (n*sz) with q|q
     ·exact q
     ·rw[y,J _ q] at h;cases h
    rw[y,gi aw] at r;rw[y,gi (by rw[u,if_pos rfl]),List.getElem?_toArray,hg _ _ _ (by simp;omega),if_neg (by omega)];simpa using r
   ·rw[g4 (w:=w) (by rw[u,if_neg Z])];exact r
 refine⟨κ',?_⟩;have main:=ba.setObj (κ':=κ') (w':=w.setCells b (n*sz) xs) b2 U cK rfl (fun gg hZ jU eu=>?_) iC (fun I _ A=>⟨?_,fun x=>?_⟩) (by rw[m7];exact aC _) px rk Cd
  ⟨b,cap,sz,by simp [κ'],hm,⟨(dE C.toList (n*sz) xs).toArray,e,jA,by rw[u];simp,by simp [gh,bS],by simpa [gh] using dB⟩,fun o ai=>?_,fun jU aj=>?_⟩ (fun I A=>?_)
 ·refine⟨main.1,main.2,by simp [κ'],fun j x cL=>?_⟩;have ak:j<xs.length:=(dy.1 cL).1;have H:n*sz≤n*sz+j:=Nat.le_add_right _ _;have r:n*sz+j<m*sz:=by omega
  simp only[κ',bq.freeze];rw[if_pos (⟨trivial,trivial,H,by rw[bB];exact r⟩:True∧True∧n*sz≤n*sz+j∧n*sz+j<E.size),N _ H r,Nat.add_sub_cancel_left,cL]
 ·simp only[κ'];rw[if_neg]
  rintro ⟨rfl,rfl,_⟩
  exact eu ⟨rfl,rfl⟩
 ·rw[u,if_neg]
  rintro rfl
  exact A (by simp [bp,B])
 ·have:I≠b:=by rintro rfl;exact A (by simp [bp,B])
  simp [κ',bq.freeze,this]
 ·simp only[κ',bq.freeze];rw[if_neg]
  ·exact J o (by omega)
  ·rintro ⟨_,_,_,q⟩
   rw[bB] at q;omega
 ·simp only[κ'];rw[if_neg (by omega)];exact M jU (by omega)
 ·left
  simp [bp,κ'] at A;simp [bp,B,A]
theorem db.Ou{κ:bq}{s s':ah}{w w':World}(ba:db κ s w){d i n m:Nat}(b2:s.get (.g d i)=some (.tok n))(I:s.set (.g d i) (.tok m)=some s')(J:n<m)
  (C:Array Value)(e:TypeId)(cap sz:Nat)(g5:C.size=cap*sz)(hm:m≤cap)(hw:w'.heap=w.heap.push (.cells C e (0,0)))(M:w'.os=w.os)(eo:w'.tape=w.tape)(hu:w'.output=w.output):
  ∃κ',db κ' s' w'∧fP κ s w κ' s' w'∧κ'.mb d i m=some (⟨w.heap.size,0,none⟩,cap,sz)∧∀j,j<m*sz→κ'.F ⟨w.heap.size,j,none⟩=C[j]?:=by
 obtain⟨b,Z,ab,ar,eO,⟨ac,im,ad,aw,bS,dB⟩,ae,y⟩:=ba.obj d i _ b2;obtain⟨af,ag⟩:=ba.IV b2;have hle:m*sz≤C.size:=by rw[g5];exact gn _ hm
 have u:((C.toList.take (m*sz)).toArray).size=m*sz:=by simp;omega
 have hold:∀b,b<w.heap.size→w'.heap[b]? =w.heap[b]?:=fun b N=>by rw[hw,Array.getElem?_push];simp [Nat.ne_of_lt N]
 have A:w'.heap[w.heap.size]? =some (.cells C e (0,0)):=by rw[hw];simp
 let κ':bq:={(κ.freeze w.heap.size 0 (C.toList.take (m*sz)).toArray) with mb:=fun gg hZ jU=>if gg=d∧hZ=i∧jU=m then some (⟨w.heap.size,0,none⟩,cap,sz) else κ.mb gg hZ jU}
 have cK:hk κ κ' (s.aa+1):=by
  refine⟨fun a v h=>(hk.freeze (fun j cL=>ba.rj (aC _)) (s.aa+1)).F a v h,fun _ _=>aC _,fun _ _ _ _=>rfl,fun gg hZ jU x _ _ h=>?_⟩;simp only[κ'];split
  ·rename_i a0;obtain⟨rfl,rfl,rfl⟩:=a0;rw[y _ J] at h;cases h
  ·exact h
 have O:∀j,j<m*sz→κ'.F ⟨w.heap.size,j,none⟩=C[j]?:=by intro j cL;simp only[κ',bq.freeze];rw[if_pos (⟨trivial,trivial,Nat.zero_le _,by rw[u];exact cL⟩:True∧True∧0≤j∧j<((C.toList.take (m*sz)).toArray).size)];simp [cL]
 refine⟨κ',?_⟩;have main:=ba.setObj (κ':=κ') (w':=w') b2 I cK rfl (fun gg hZ jU eu=>?_) (fun a v h=>?_) (fun B r _=>⟨hold B r,fun x=>?_⟩) (by rw[hw];simp) M eo hu
  ⟨w.heap.size,cap,sz,by simp [κ'],hm,⟨C,e,(0,0),A,g5,fun j _=>by simp⟩,fun o ai=>?_,fun jU aj=>?_⟩ (fun B r=>?_)
 ·exact⟨main.1,main.2,by simp [κ'],O⟩
 ·simp only[κ'];rw[if_neg]
  rintro ⟨rfl,rfl,_⟩
  exact eu ⟨rfl,rfl⟩
 ·simp only[κ',bq.freeze] at h;split at h
  ·rename_i a0;obtain⟨ak,U,al,ls⟩:=a0;rw[u] at ls;refine⟨U,?_⟩;have V:a=⟨w.heap.size,a.off,none⟩:=by cases a;simp_all
   rw[V,gi A];rw[List.getElem?_toArray,List.getElem?_take] at h;simpa [ls] using h
  ·obtain⟨Y,H⟩:=ba.jb a v h;exact⟨Y,by rw[g4 (hold _ (pI H))];exact H⟩
 ·simp [κ',bq.freeze,Nat.ne_of_lt r]
 ·simp only[κ',bq.freeze];rw[if_neg (by intro h;have:=h.2.2.2;rw[u] at this;omega)];exact ba.rj (aC _)
 ·simp only[κ'];rw[if_neg (by omega)];exact y jU (by omega)
 ·right
  simp [bp,κ'] at r;omega
def ah.push(s:ah):ah:={own:=[],up:=s.own::s.up,ro:=s.ro}
theorem ah.jB(s:ah):s.push.aa=s.aa+1:=by simp [ah.push,ah.aa];omega
theorem ah.rV(s:ah)(d:Nat):s.push.ap d=if d=s.aa+1 then some [] else s.ap d:=by
 unfold ah.ap;rw[ah.jB];by_cases ar:d=s.aa+1
 ·simp [ar,ah.push]
 ·simp only[ar,↓reduceIte];by_cases aw:d=s.aa
  ·simp [aw,ah.push]
  ·by_cases bS:d<s.aa
   ·have dB:d<s.aa+1:=by omega
    simp only[aw,bS,dB,↓reduceIte,ah.push];rw[show s.aa+1-1-d=(s.aa-1-d)+1 by omega,List.cons_append,List.getElem?_cons_succ]
   ·have dB:¬d<s.aa+1:=by omega
    simp [aw,bS,dB]
theorem ah.oo(s:ah)(d i:Nat):s.push.get (.g d i)=s.get (.g d i):=by
 rw[ah.m4,ah.m4,ah.rV];by_cases h:d=s.aa+1
 ·subst h;have ar:s.ap (s.aa+1)=none:=by
   have q:¬s.aa+1<s.aa:=by omega
   simp [ah.ap,q]
  simp [ar]
 ·simp [h]
theorem db.push{κ:bq}{s:ah}{w:World}(ba:db κ s w):∃κ',db κ' s.push w∧hk κ κ' (s.aa+1)∧κ'.F=κ.F∧∀d i o,s.get (.g d i)=some o→bp κ' d i o=bp κ d i o:=by
 refine⟨{κ with n:=fun d=>if d=s.aa+1 then 0 else κ.n d},?_⟩;have cK:hk κ {κ with n:=fun d=>if d=s.aa+1 then 0 else κ.n d} (s.aa+1):=by refine⟨fun _ _ h=>h,fun d cW=>?_,fun _ _ _ _=>rfl,fun _ _ _ _ _ _ h=>h⟩;simp only;rw[if_neg (by omega)];exact aC _
 have key:∀d i o,s.get (.g d i)=some o→B7 {κ with n:=fun d=>if d=s.aa+1 then 0 else κ.n d} d i w o∧bp {κ with n:=fun d=>if d=s.aa+1 then 0 else κ.n d} d i o=bp κ d i o:=fun d i o h=>(ba.obj d i o h).b3 (ba.om h) (cK.low (by have:=ah.gV h;omega)) (fun m=>rfl) (fun b _=>⟨rfl,fun _=>rfl⟩)
 refine⟨⟨ba.jb,fun d l h=>?_,fun d i o h=>?_,fun d i o gg hZ o' b h r e im=>?_⟩,cK,rfl,fun d i o h=>(key d i o h).2⟩
 ·rw[ah.rV] at h;split at h
  ·rename_i cW;simp only[bt] at h;simp [←h,cW]
  ·rename_i cW;simp only[cW,↓reduceIte];exact ba.len d l h
 ·rw[ah.oo] at h;exact(key d i o h).1
 ·rw[ah.oo] at h r;rw[(key d i o h).2] at e;rw[(key gg hZ o' r).2] at im;exact ba.inj d i o gg hZ o' b h r e im
theorem ah.vY{s:ah}{own:List b4}{up:List (List b4)}(h:s.up=own::up):({own,up,ro:=s.ro}:ah).push= {s with own:=[]}:=by simp [ah.push,h]
theorem ah.rW{s:ah}{own:List b4}{up:List (List b4)}(h:s.up=own::up){d i:Nat}{o:b4}(b2:({own,up,ro:=s.ro}:ah).get (.g d i)=some o):s.get (.g d i)=some o:=by
 have cW:=ah.gV b2;rw[←ah.oo,ah.vY h] at b2;have r:s.aa=({own,up,ro:=s.ro}:ah).aa+1:=by simp [ah.aa,h];omega
 have eu:d≠s.aa:=by omega
 unfold ah.get at b2 ⊢;have e:({s with own:=[]}:ah).aa=s.aa:=rfl;rw[e] at b2;simp only[eu,↓reduceIte] at b2 ⊢;exact b2
theorem db.pop{κ:bq}{s:ah}{w:World}(ba:db κ s w){own:List b4}{up:List (List b4)}(h:s.up=own::up):db κ {own,up,ro:=s.ro} w:=by
 refine⟨ba.jb,fun d l cW=>?_,fun d i o b2=>ba.obj d i o (ah.rW h b2),fun d i o gg hZ o' b b2 r=>ba.inj d i o gg hZ o' b (ah.rW h b2) (ah.rW h r)⟩;have A:s.aa=({own,up,ro:=s.ro}:ah).aa+1:=by simp [ah.aa,h];omega
 have B:d≤({own,up,ro:=s.ro}:ah).aa:=by
  rcases Nat.lt_or_ge ({own,up,ro:=s.ro}:ah).aa d with q|q
  ·have u:d≠({own,up,ro:=s.ro}:ah).aa:=by omega
   have y:¬d<({own,up,ro:=s.ro}:ah).aa:=by omega
   simp [ah.ap,u,y] at cW
  ·exact q
 have q:({own,up,ro:=s.ro}:ah).push.ap d=some l:=by rw[ah.rV,if_neg (by omega)];exact cW
 rw[ah.vY h] at q;refine ba.len d l ?_;unfold ah.ap at q ⊢;have e:({s with own:=[]}:ah).aa=s.aa:=rfl;rw[e] at q;have eu:d≠s.aa:=by omega
 simp only[eu,↓reduceIte] at q ⊢;exact q
theorem db.empty{κ:bq}{s:ah}{w:World}(ba:db κ s w):db {κ with n:=fun _=>0} {own:=[],up:=[],ro:=[]} w:=by
 have e:∀d i,({own:=[],up:=[],ro:=[]}:ah).get (.g d i)=none:=by intro d i;simp [ah.get]
 refine⟨ba.jb,fun d l h=>?_,fun d i o h=>?_,fun d i o gg hZ o' b h=>?_⟩
 ·unfold ah.ap at h;simp at h;simp [h]
 ·rw[e] at h;cases h
 ·rw[e] at h;cases h
def vZ:List af→e0→Value→Bool
 |[],.nil,.slice none 0 0=>true
 |_,_,_=>false
theorem v0{es:List af}{g:e0}{x:Value}(h:vZ es g x=true):es=[]∧g=.nil∧x=.slice none 0 0:=by
 unfold vZ at h;split at h
 ·exact⟨rfl,rfl,rfl⟩
 ·cases h
def Ag:Value→Bool
 |.pointer none=>true
 |_=>false
theorem yq{x:Value}(h:Ag x=true):x=.pointer none:=by
 unfold Ag at h;split at h
 ·rfl
 ·cases h
def Ah:Value→Bool
 |.map none=>true
 |_=>false
theorem yr{x:Value}(h:Ah x=true):x=.map none:=by
 unfold Ah at h;split at h
 ·rfl
 ·cases h
mutual
def hM:af→Value→Bool
 |.bool a,.bool b=>a==b
 |.int k a,.int l9 b=>decide (k=l9)&&a==b
 |.str fo,.string s=>fo==s.data.toList.map UInt8.toNat
 |.bx _ es g,x=>vZ es g x
 |.h7,x=>Ag x
 |.iq,.nilFunc=>true
 |.fy,x=>Ah x
 |.h8,.nilIface=>true
 |.agg cs,.agg xs=>nH cs xs.toList
 |.ed [],.tuple xs=>xs.size==0
 |_,_=>false
def nH:List af→List Value→Bool
 |[],[]=>true
 |c::cs,x::xs=>hM c x&&nH cs xs
 |_,_=>false
end
mutual
theorem oT:∀(v:af) (x:Value),hM v x=true→(∀κ D,dK κ D v x)∧v.bb=true
 |.bool a,x,h=>by cases x<;> simp [hM] at h;subst h;exact⟨fun _ _=>.bool a,rfl⟩
 |.int k a,x,h=>by cases x<;> simp [hM] at h;obtain⟨rfl,rfl⟩:=h;exact⟨fun _ _=>.int k a,rfl⟩
 |.str fo,x,h=>by cases x<;> simp [hM] at h;exact⟨fun _ _=>.str fo _ h.symm,rfl⟩
 |.bx sz es g,x,h=>by simp only[hM] at h;obtain⟨rfl,rfl,rfl⟩:=v0 h;exact⟨fun _ _=>.lo sz,rfl⟩
 |.h7,x,h=>by simp only[hM] at h;rw[yq h];exact⟨fun _ _=>.h7,rfl⟩
 |.iq,x,h=>by cases x<;> simp [hM] at h;exact⟨fun _ _=>.iq,rfl⟩
 |.fy,x,h=>by simp only[hM] at h;rw[yr h];exact⟨fun _ _=>.fy,rfl⟩
 |.h8,x,h=>by cases x<;> simp [hM] at h;exact⟨fun _ _=>.h8,rfl⟩
 |.agg cs,x,h=>by cases x<;> simp [hM] at h;rename_i xs;obtain⟨ar,aw⟩:=n8 cs xs.toList h;exact⟨fun κ D=>by simpa using dK.agg cs xs.toList (ar κ D).1 (ar κ D).2,by simpa [af.bb] using aw⟩
 |.ed cs,x,h=>by
  cases cs with
  |nil=>cases x<;> simp [hM] at h;rename_i xs;subst h;exact⟨fun κ D=>.ed [] [] rfl (fun j c x a0=>by simp at a0),rfl⟩
  |cons c cs=>cases x<;> simp [hM] at h
 |.dead,x,h=>by cases x<;> simp [hM] at h
 |.cH ..,x,h=>by cases x<;> simp [hM] at h
 |.ref ..,x,h=>by cases x<;> simp [hM] at h
 |.bk ..,x,h=>by cases x<;> simp [hM] at h
 |.fn ..,x,h=>by cases x<;> simp [hM] at h
 |.map ..,x,h=>by cases x<;> simp [hM] at h
 |.iface ..,x,h=>by cases x<;> simp [hM] at h
theorem n8:∀(cs:List af) (xs:List Value),nH cs xs=true→(∀κ D,eH κ D cs xs)∧af.aX cs=true
 |[],[],_=>⟨fun κ D=>.nil κ D,rfl⟩
 |[],x::xs,h=>by simp [nH] at h
 |c::cs,[],h=>by simp [nH] at h
 |c::cs,x::xs,h=>by simp only[nH,bo] at h;obtain⟨ar,aw⟩:=oT c x h.1;obtain⟨bS,dB⟩:=n8 cs xs h.2;exact⟨fun κ D=>.cons (ar κ D) (bS κ D),by simp [af.aX,aw,dB]⟩
end
def cQ:bN→Operand→Bool
 |.t n,.tmp m=>n==m
 |.c v,.const x=>hM v x
 |.c (.fn f []),.func g=>f==g
 |.g n,.global m=>n==m
 |.at n _ _,.tmp m=>n==m
 |_,_=>false
def dH:List bN→List Operand→Bool
 |[],[]=>true
 |x::xs,y::e=>cQ x y&&dH xs e
 |_,_=>false
def fQ:Option bN→Option Operand→Bool
 |none,none=>true
 |some x,some y=>cQ x y
 |_,_=>false
def kQ(κ:bq)(G:Nat→af):Prop:=∀n,dK κ 0 (G n) (.pointer (some ⟨n,0,none⟩))∧(G n).bb=true
theorem kQ.mono{κ κ':bq}{G:Nat→af}(h:kQ κ G){D:Nat}(k:hk κ κ' D):kQ κ' G:=fun n=>⟨(h n).1.mono (k.low (Nat.zero_le D)),(h n).2⟩
theorem bF{κ:bq}{s:ah}{ap:Nat→af}{a:Act}{G:Nat→af}(bA:yk κ s ap a)(d8:kQ κ G){x:bN}{y:Operand}(h:cQ x y=true):dK κ (s.aa+1) ((au G ap x).ao s.aa) (a.eval y):=by
 cases x with
 |t n=>cases y<;> simp [cQ] at h;subst h;exact bA n
 |c v=>
  cases y with
  |const x=>
   have r:hM v x=true:=by cases v<;> simpa [cQ] using h
   obtain⟨ar,aw⟩:=oT v x r;simp only[au,jT aw,Act.eval];exact ar _ _
  |func g=>
   cases v<;> simp [cQ] at h;rename_i f dM;cases dM with
   |nil=>simp [cQ] at h;subst h;exact .fn f [] [] rfl (fun j c x a0=>by simp at a0)
   |cons c cs=>simp [cQ] at h
  |tmp m=>cases v<;> simp [cQ] at h
  |global m=>cases v<;> simp [cQ] at h
 |g n=>cases y<;> simp [cQ] at h;subst h;obtain⟨ar,aw⟩:=d8 n;simp only[au,jT aw,Act.eval];exact ar.up (Nat.zero_le _)
 | «at» n b off=>
  cases y<;> simp [cQ] at h;subst h;simp only[au];rcases IU (ap n) (ap b) off with e|⟨e,_⟩
  ·rw[e];exact .dead _
  ·rw[e];exact bA n
 |Uj b off=>cases y<;> simp [cQ] at h
section
variable{κ:bq}{D:Nat}{x:Value}
theorem dK.eP{k:IntKind}{n:Int}(h:dK κ D (.int k n) x):x=.int k n:=by cases h;rfl
theorem dK.ho{b:Bool}(h:dK κ D (.bool b) x):x=.bool b:=by cases h;rfl
theorem dK.iF{fo:List Nat}(h:dK κ D (.str fo) x):∃s,x=.string s∧s.data.toList.map UInt8.toNat=fo:=by cases h;exact⟨_,rfl,by assumption⟩
theorem dK.m9{cs:List af}(h:dK κ D (.agg cs) x):∃xs:List Value,x=.agg xs.toArray∧eH κ D cs xs:=by cases h;exact⟨_,rfl,by assumption,by assumption⟩
theorem dK.v3{cs:List af}(h:dK κ D (.ed cs) x):∃xs:List Value,x=.tuple xs.toArray∧eH κ D cs xs:=by cases h;exact⟨_,rfl,by assumption,by assumption⟩
theorem dK.vo{f:Nat}{cs:List af}(h:dK κ D (.fn f cs) x):∃xs:List Value,x=.func (.func f) #[] xs.toArray∧eH κ D cs xs:=by cases h;exact⟨_,rfl,by assumption,by assumption⟩
theorem dK.tA{cs:List af}(h:dK κ D (.bk cs) x):∃(a:Addr) (dz:Nat→Value),x=.pointer (some a)∧a.spot=none∧(∀j,j<cs.length→κ.F (a.add j)=some (dz j))∧∀(j:Nat) (c:af),cs[j]? =some c→dK κ D c (dz j):=by cases h;exact⟨_,_,rfl,by assumption,by assumption,by assumption⟩
theorem dK.na{d i off:Nat}(h:dK κ D (.ref (.g d i) off) x):x=.pointer (some ⟨κ.loc d i,off,none⟩)∧d<D∧i<κ.n d:=by cases h;exact⟨rfl,by assumption,by assumption⟩
theorem dK.km{d i off len cap sz:Nat}(h:dK κ D (.cH (.g d i) off len cap sz) x):∃mv,x=.slice (some ⟨κ.loc d i,off,none⟩) len mv∧d<D∧i<κ.n d∧len≤mv∧(mv=cap∨(cap=0∧0<len∧off=0∧κ.mb d i len=some (⟨κ.loc d i,0,none⟩,mv,sz))):=by cases h;exact⟨_,rfl,by assumption,by assumption,by assumption,by assumption⟩
theorem dK.MI{d i off len cap sz:Nat}(h:dK κ D (.cH (.g d i) off len cap sz) x)(bU:len≤cap):x=.slice (some ⟨κ.loc d i,off,none⟩) len cap∧d<D∧i<κ.n d:=by
 obtain⟨mv,rfl,ar,aw,bS,dB⟩:=h.km;rcases dB with rfl |⟨e,r,_⟩
 ·exact⟨rfl,ar,aw⟩
 ·omega
theorem dK.FM{t:Nat}{v:af}(h:dK κ D (.iface t v) x):∃y,x=.iface t y∧dK κ D v y:=by cases h;exact⟨_,rfl,by assumption⟩
end
theorem dK.cells{κ:bq}{D:Nat}{v:af}{x:Value}(h:dK κ D v x)(bX:v.e9=true):eH κ D v.cells x.cells.toList:=by
 cases h<;> simp [af.e9] at bX<;> simp only[af.cells,Value.cells]
 case agg cs xs bU e=>exact⟨by simpa using bU,by simpa using e⟩
 all_goals
  refine .cons ?_ (.nil _ _)
  first
   |exact .bool _|exact .int _ _|exact .str _ _ (by assumption)|exact .lo _
   |exact .bx _ _ _ _ _ _ (by assumption) (by assumption) (by assumption) (by assumption) (by assumption) (by assumption) (by assumption)
   |exact .cH _ _ _ _ _ _ _ (by assumption) (by assumption) (by assumption) (by assumption)|exact .ref _ _ _ (by assumption) (by assumption)
   |exact .bk _ _ _ (by assumption) (by assumption) (by assumption)|exact .h7|exact .fn _ _ _ (by assumption) (by assumption)
   |exact .iq|exact .kO _|exact .fy|exact .map _ _ (by assumption) (by assumption)|exact .iface _ _ _ (by assumption)|exact .h8
theorem v5(v:af)(d:Nat):(v.ao d).e9=v.e9:=by cases v<;> rfl
theorem dK.Ov{κ:bq}{D:Nat}{v:af}{x:Value}(h:dK κ D v x)(bX:v.en=true):x.oneCell'=true:=by cases h<;> simp [af.en] at bX<;> rfl
theorem bytes_inj{a b:List UInt8}(h:a.map UInt8.toNat=b.map UInt8.toNat):a=b:=by have:=List.map_inj_right (f:=UInt8.toNat) (l:=a) (l':=b) (fun x y e=>UInt8.toNat_inj.1 e);exact this.1 h
theorem Ai(a b:List UInt8):(a.map UInt8.toNat==b.map UInt8.toNat)=(a==b):=by rw[Bool.eq_iff_iff];simp only[beq_iff_eq];exact⟨bytes_inj,fun h=>by rw[h]⟩
theorem pK:∀(a b:List UInt8),kg (a.map UInt8.toNat) (b.map UInt8.toNat)=Op.bytesLess a b
 |_,[]=>by simp [kg,Op.bytesLess]
 |[],_::_=>by simp [kg,Op.bytesLess]
 |a::x,b::y=>by
  simp only[fc,kg,Op.bytesLess,pK x y];have ar:Nat.blt a.toNat b.toNat=decide (a<b):=by rw[Bool.eq_iff_iff];simp [Nat.blt_eq,UInt8.lt_iff_toNat_lt]
  have aw:Nat.beq a.toNat b.toNat=(a==b):=by rw[Bool.eq_iff_iff];simp [Nat.beq_eq,UInt8.toNat_inj]
  rw[ar,aw]
def dT(P:Program)(o:Op)(ty:TypeId)(ρ:Operand→Value)(κ:bq)(s:ah)(w:World)(v:af)(s':ah):Prop:=
 ∃x κ' w',((∀dst pos after guard,(execOp ρ ⟨dst,o,ty,pos,after,guard⟩).run P w=.ok (.value x) w')∨((∀dst pos after guard,(execOp ρ ⟨dst,o,ty,pos,after,guard⟩).run P w=.ok .skip w')∧x=undef))∧
  fP κ s w κ' s' w'∧db κ' s' w'∧dK κ' (s.aa+1) (v.ao s.aa) x
theorem bQ{P:Program}{o:Op}{ty:TypeId}{ρ:Operand→Value}{κ:bq}{s:ah}{w:World}{v:af}(ba:db κ s w)(x:Value)
  (h:∀dst pos after guard,(execOp ρ ⟨dst,o,ty,pos,after,guard⟩).run P w=.ok (.value x) w)(a1:dK κ (s.aa+1) (v.ao s.aa) x):dT P o ty ρ κ s w v s:=
 ⟨x,κ,w,.inl h,.refl _ _ _,ba,a1⟩
section
variable{P:Program}{ty:TypeId}{ρ:Operand→Value}{κ:bq}{s:ah}{w:World}(ba:db κ s w)
include ba
theorem uf{v:af}{x:Operand}(h:dK κ (s.aa+1) (v.ao s.aa) (ρ x)):dT P (.move x) ty ρ κ s w v s:=
 bQ ba _ (fun _ _ _ _=>by simp [execOp]) h
theorem qO{v:af}{x:Operand}(h:dK κ (s.aa+1) (v.ao s.aa) (ρ x)):dT P (.assign x) ty ρ κ s w v s:=
 bQ ba _ (fun _ _ _ _=>by simp [execOp]) h
theorem Ce{t:Bool}{a b:af}{c x y:Operand}(a0:ρ c=.bool t)(ar:dK κ (s.aa+1) (a.ao s.aa) (ρ x))(aw:dK κ (s.aa+1) (b.ao s.aa) (ρ y)):
  dT P (.pick c x y) ty ρ κ s w (bif t then a else b) s:=by
 refine bQ ba (if t then ρ x else ρ y) (fun _ _ _ _=>by simp [execOp,a0,asBool]) ?_;cases t<;> assumption
theorem v7{op:BinOp}{k:IntKind}{m n:Int}{t yt:TypeId}{x y:Operand}{v:af}(a1:ρ x=.int k m)(ez:ρ y=.int k n)(h:gS op k m n=some v):dT P (.binOp op t x y yt) ty ρ κ s w v s:=by
 have key:∃z,(binOp op t (.int k m) (.int k n)).run P w=.ok z w∧dK κ (s.aa+1) (v.ao s.aa) z:=by
  cases op<;> simp only[gS,bt,reduceCtorEq] at h
  case quo=>
   by_cases cZ:n=0
   ·simp [cZ] at h
   ·simp only[cZ,↓reduceIte,bt] at h;subst h;exact⟨_,by simp only[binOp,Op.intDiv,cZ,ne_eq,not_true_eq_false,↓reduceIte];rfl,.int k _⟩
  case rem=>
   by_cases cZ:n=0
   ·simp [cZ] at h
   ·simp only[cZ,↓reduceIte,bt] at h;subst h;exact⟨_,by simp only[binOp,Op.intDiv,cZ,ne_eq,not_true_eq_false,↓reduceIte];rfl,.int k _⟩
  case add=>subst h;exact⟨_,by simp only[binOp,Op.intArith,ne_eq,not_true_eq_false,↓reduceIte];rfl,.int k _⟩
  case sub=>subst h;exact⟨_,by simp only[binOp,Op.intArith,ne_eq,not_true_eq_false,↓reduceIte];rfl,.int k _⟩
  case mul=>subst h;exact⟨_,by simp only[binOp,Op.intArith,ne_eq,not_true_eq_false,↓reduceIte];rfl,.int k _⟩
  case and=>subst h;exact⟨_,by simp only[binOp,Op.intBits,ne_eq,not_true_eq_false,↓reduceIte];rfl,.int k _⟩
  case or=>subst h;exact⟨_,by simp only[binOp,Op.intBits,ne_eq,not_true_eq_false,↓reduceIte];rfl,.int k _⟩
  case xor=>subst h;exact⟨_,by simp only[binOp,Op.intBits,ne_eq,not_true_eq_false,↓reduceIte];rfl,.int k _⟩
  case andNot=>subst h;exact⟨_,by simp only[binOp,Op.intBits,ne_eq,not_true_eq_false,↓reduceIte];rfl,.int k _⟩
  all_goals (subst h;exact⟨_,by simp only[binOp,Op.intCmp,ne_eq,not_true_eq_false,↓reduceIte];rfl,.bool _⟩)
 obtain⟨z,gA,bX⟩:=key;refine bQ ba z (fun _ _ _ _=>?_) bX;have b2:(eqGuard op t x y (.int k m) (.int k n)).run P w=.ok () w:=by unfold eqGuard;split<;> rfl
 simp [execOp,a1,ez,b2,gA]
theorem rX{op:BinOp}{k l9:IntKind}{m n:Int}{t yt:TypeId}{x y:Operand}{v:af}(a1:ρ x=.int k m)(ez:ρ y=.int l9 n)(e:op=.shl∨op=.shr)(h:mn op k m n=some v):dT P (.binOp op t x y yt) ty ρ κ s w v s:=by
 unfold mn at h;split at h
 ·cases h
 ·rename_i cZ;rcases e with rfl |rfl <;> simp only[bt] at h<;> subst h<;> exact bQ ba _ (fun _ _ _ _=>by simp only[execOp,a1,ez,eqGuard,binOp,Op.shift,cZ];rfl) (.int k _)
theorem ys{k:IntKind}{n:Int}{t:TypeId}{x:Operand}(a1:ρ x=.int k n):dT P (.unOp .neg t x) ty ρ κ s w (.int k (k.wrap (0-n))) s:=
 bQ ba _ (fun _ _ _ _=>by simp only[execOp,a1,Op.unary,Op.intArith];rfl) (.int k _)
theorem yu{k:IntKind}{n:Int}{t:TypeId}{x:Operand}(a1:ρ x=.int k n):dT P (.unOp .xor t x) ty ρ κ s w (.int k (k.wrap (BitVec.ofInt k.bits (if k.signed then -1 else k.max) ^^^ BitVec.ofInt k.bits n).toNat)) s:=
 bQ ba _ (fun _ _ _ _=>by simp only[execOp,a1,Op.unary,Op.intBits];rfl) (.int k _)
theorem yv{b:Bool}{t:TypeId}{x:Operand}(a1:ρ x=.bool b):dT P (.unOp .not t x) ty ρ κ s w (.bool (!b)) s:=
 bQ ba _ (fun _ _ _ _=>by simp [execOp,a1,Op.unary]) (.bool _)
theorem v8{op:BinOp}{as fo:List Nat}{t yt:TypeId}{x y:Operand}{v:af}(a1:dK κ (s.aa+1) (.str as) (ρ x))(ez:dK κ (s.aa+1) (.str fo) (ρ y))(h:Aa op as fo=some v):dT P (.binOp op t x y yt) ty ρ κ s w v s:=by
 obtain⟨a,a1,e⟩:=a1.iF;obtain⟨b,ez,r⟩:=ez.iF;have u:(a.toList==b.toList)=(as==fo):=by rw[Go.ByteArray.toList_eq,Go.ByteArray.toList_eq,←e,←r,Ai]
 have A:Op.bytesLess a.toList b.toList=kg as fo:=by rw[Go.ByteArray.toList_eq,Go.ByteArray.toList_eq,←e,←r,pK]
 have key:∃z,(binOp op t (.string a) (.string b)).run P w=.ok z w∧dK κ (s.aa+1) (v.ao s.aa) z:=by
  cases op<;> simp only[Aa,bt,reduceCtorEq] at h
  case add=>
   split at h
   ·rename_i hle;simp only[bt] at h;subst h;have bU:=d9 hle;have B:a.size=as.length:=by have:=congrArg List.length e;rw[d0,Array.length_toList] at this;exact this
    have F:b.size=fo.length:=by have:=congrArg List.length r;rw[d0,Array.length_toList] at this;exact this
    refine⟨.string (a++b),?_,.str _ _ ?_⟩
    ·have:¬(((a.size+b.size:Nat):Int)>IntKind.i64.max):=by rw[B,F];show¬_>(9223372036854775807:Int);omega
     simp only[binOp,Op.stringOp,this,↓reduceIte];rfl
    ·rw[←e,←r,←List.map_append];simp
   ·cases h
  all_goals (subst h;refine⟨_,by simp only[binOp,Op.stringOp,u,A];rfl,?_⟩;exact .bool _)
 obtain⟨z,gA,bX⟩:=key;refine bQ ba z (fun _ _ _ _=>?_) bX;have b2:(eqGuard op t x y (.string a) (.string b)).run P w=.ok () w:=by unfold eqGuard;split<;> rfl
 simp [execOp,a1,ez,b2,gA]
theorem v9{k l9:IntKind}{n:Int}{src dst:TypeId}{x:Operand}{d:TypeDesc}(e:P.underlying src=some d)(h:P.underlying dst=some (.int k))(a1:ρ x=.int l9 n):dT P (.convert src dst x) ty ρ κ s w (.int k (k.wrap n)) s:=
 bQ ba _ (fun _ _ _ _=>by simp [execOp,convert,run_underlying e,run_underlying h,a1,Conv.intToInt]) (.int k _)
theorem yw{fo:List Nat}{src dst:TypeId}{x:Operand}{d:TypeDesc}(e:P.underlying src=some d)(h:P.underlying dst=some .string)(a1:dK κ (s.aa+1) (.str fo) (ρ x)):dT P (.convert src dst x) ty ρ κ s w (.str fo) s:=by obtain⟨a,r,u⟩:=a1.iF;exact bQ ba _ (fun _ _ _ _=>by simp [execOp,convert,run_underlying e,run_underlying h,r]) (.str _ _ u)
theorem wa{v:af}{t:TypeId}{x:Operand}{d:TypeDesc}(eo:P.underlying t=some d)(cW:(d matches .interface _)=false)(a1:dK κ (s.aa+1) (v.ao s.aa) (ρ x)):dT P (.makeInterface t x) ty ρ κ s w (.iface t (v.ao s.aa)) s:=
 bQ ba (.iface t (ρ x)) (fun _ _ _ _=>by simp only[execOp,Instr.makeInterface,map_eq_pure_bind,Sem.run_bind,run_underlying eo,Result.andThen_ok];cases d<;> simp at cW ⊢) (.iface t _ _ a1)
theorem wb{vs:List af}{i:Nat}{x:Operand}{v:af}(a1:dK κ (s.aa+1) (.ed vs) (ρ x))(bX:vs[i]? =some v)(fS:v.ao s.aa=v):dT P (.extract x i) ty ρ κ s w v s:=by obtain⟨xs,r,bU,h⟩:=a1.v3;have bZ:=(dy.1 bX).1;have e:xs[i]? =some xs[i]:=eb (by omega);exact bQ ba xs[i] (fun _ _ _ _=>by simp [execOp,Instr.extract,r,e]) (by rw[fS];exact h i v _ bX e)
end
def Cf:TypeDesc→Bool
 |.struct _|.array _ _=>true
 |_=>false
def lv(P:Program)(t:TypeId):Option Bool:=(P.underlying t).map Cf
def fw(P:Program)(t:TypeId):Option Nat:=(P.info? t).map (·.size)
theorem jC{P:Program}{t:TypeId}{b:Bool}(h:lv P t=some b)(w:World):(isAgg t).run P w=.ok b w:=by
 unfold lv at h;cases cW:P.underlying t with
 |none=>simp [cW] at h
 |some d=>simp only[cW,ep,bt] at h;subst h;simp only[isAgg,Sem.run_bind,run_underlying cW,Result.andThen_ok];cases d<;> rfl
theorem eQ{P:Program}{t:TypeId}{n:Nat}(h:fw P t=some n)(w:World):(sizeOf t).run P w=.ok n w:=by
 unfold fw at h;cases cW:P.info? t with
 |none=>simp [cW] at h
 |some i=>simp only[cW,ep,bt] at h;subst h;simp [sizeOf,typeInfo,cW]
section
variable{P:Program}{ty:TypeId}{ρ:Operand→Value}{κ:bq}{s:ah}{w:World}(ba:db κ s w)
include ba
def Reads(κ:bq)(D:Nat)(w:World)(a:Addr)(cs:List af):Prop:=∃dz:Nat→Value,(∀j,j<cs.length→w.cell? (a.add j)=some (dz j))∧∀(j:Nat) (c:af),cs[j]? =some c→dK κ D c (dz j)
omit ba in
theorem Reads.drop{D:Nat}{a:Addr}{cs:List af}(h:Reads κ D w a cs)(n:Nat):Reads κ D w (a.add n) (cs.drop n):=by obtain⟨dz,ar,aw⟩:=h;refine⟨fun j=>dz (n+j),fun j cL=>?_,fun j c a0=>aw _ c (by simpa using a0)⟩;rw[add_add];exact ar _ (by simp at cL;omega)
theorem Cg{D:Nat}{cs:List af}{x:Value}(h:dK κ D (.bk cs) x):∃a,x=.pointer (some a)∧a.spot=none∧Reads κ D w a cs:=by obtain⟨a,dz,rfl,ar,aw,bS⟩:=h.tA;exact⟨a,rfl,ar,dz,fun j cL=>(ba.jb _ _ (aw j cL)).2,bS⟩
theorem oU{d i:Nat}{cs:List af}(h:s.get (.g d i)=some (.cells cs))(off:Nat):Reads κ (d+1) w ⟨κ.loc d i,off,none⟩ (cs.drop off):=by
 obtain⟨⟨C,e,jA,ar,aw,bS,_⟩,dB⟩:=ba.obj d i _ h;have bU:cs.length≤C.size:=by have:=bS.1;simp at this;omega
 refine⟨fun j=>C.getD (off+j) undef,fun j cL=>?_,fun j c a0=>?_⟩
 ·rw[gu rfl,gi ar];simp at cL;simp [Array.getD,show off+j<C.size by omega]
 ·obtain⟨x,a1,bX⟩:=bS.get (show cs[off+j]? =some c by simpa using a0);have r:off+j<cs.length:=(dy.1 (show cs[off+j]? =some c by simpa using a0)).1
  have:C.getD (off+j) undef=x:=by
   rw[List.getElem?_take,if_pos r] at a1;have u:C[off+j]? =some x:=by simpa using a1
   simp [Array.getD_eq_getD_getElem?,u]
  simpa [this] using bX
omit ba in
theorem tB{D e:Nat}{a:Addr}{cs:List af}(h:Reads κ D w a cs)(r:D≤e):Reads κ e w a cs:=by obtain⟨v,ar,aw⟩:=h;exact⟨v,ar,fun j c a0=>(aw j c a0).up r⟩
omit ba in
theorem ug{D:Nat}{a:Addr}{cs:List af}(h:Reads κ D w a cs){n:Nat}(cZ:n≤cs.length):∃xs:List Value,(loadCells a n).run P w=.ok xs.toArray w∧eH κ D (cs.take n) xs:=by
 obtain⟨dz,ar,aw⟩:=h;refine⟨(List.range n).map dz,run_loadCells w a n dz (fun j cL=>ar j (by omega)),by simp;omega,fun j c x a0 a1=>?_⟩;simp only[gb,List.getElem?_range] at a1;rw[List.getElem?_take] at a0;by_cases cL:j<n
 ·simp only[cL,↓reduceIte] at a0;have e:(List.range n)[j]? =some j:=by simp [cL]
  rw[e] at a1;simp only[ep,bt] at a1;exact a1 ▸ aw j c a0
 ·simp [cL] at a0
omit ba in
theorem tC{D:Nat}{a:Addr}{cs:List af}(h:Reads κ D w a cs){n:Nat}(cZ:n≤cs.length){t:TypeId}(ar:lv P t=some true)(aw:fw P t=some n):∃x,(loadVar t a).run P w=.ok x w∧dK κ D (.agg (cs.take n)) x:=by obtain⟨xs,e,bX⟩:=ug (P:=P) h cZ;refine⟨.agg xs.toArray,by simp [loadVar,jC ar,eQ aw,e],.agg _ xs bX.1 bX.2⟩
omit ba in
theorem tD{D:Nat}{a:Addr}{c:af}{cs:List af}(h:Reads κ D w a (c::cs)){t:TypeId}(ar:lv P t=some false):∃x,(loadVar t a).run P w=.ok x w∧dK κ D c x:=by obtain⟨dz,e,bX⟩:=h;have ml:=e 0 (by simp);simp only[Addr.add,↓reduceIte] at ml;exact⟨dz 0,by simp [loadVar,jC ar,ml],bX 0 c rfl⟩
def kt(P:Program)(t:TypeId):Option Nat→Bool
 |none=>lv P t==some false
 |some n=>lv P t==some true&&fw P t==some n
omit ba in
theorem tE{D:Nat}{a:Addr}{cs:List af}(h:Reads κ D w a cs){n:Option Nat}{t:TypeId}(cZ:kt P t n=true){E:Env}(bB:E.F=.not){k:af→ah→ai}{r:ai}(aV:e3 E s k n cs=r)(bA:r≠.fail):
  ∃v x,k v s=r∧(loadVar t a).run P w=.ok x w∧dK κ D v x:=by
 cases n with
 |none=>
  cases cs with
  |nil=>simp [e3] at aV;exact absurd aV.symm bA
  |cons c cs=>simp only[e3,bB,a2.not] at aV;obtain⟨x,a1,bX⟩:=tD (P:=P) h (by simpa [kt] using cZ);exact⟨c,x,aV,a1,bX⟩
 |some n=>
  simp only[kt,bo,beq_iff_eq] at cZ;simp only[e3,bB,a2.not] at aV;by_cases bU:n≤cs.length
  ·rw[ec bU,bD] at aV;obtain⟨x,a1,bX⟩:=tC (P:=P) h bU cZ.1 cZ.2;exact⟨_,x,aV,a1,bX⟩
  ·have:Nat.ble n cs.length=false:=by
    cases e:Nat.ble n cs.length with
    |false=>rfl
    |true=>exact absurd (d9 e) bU
   rw[this,cond_false] at aV;exact absurd aV.symm bA
omit ba in
theorem ja.ao{D sz n cap:Nat}{g:e0}{a:Addr}(h:ja κ D sz g n a cap)(d:Nat):g.ao d=g:=by
 cases g with
 |cP a=>cases a with
  |l i=>simp [ja] at h
  |g d i=>rfl
 |_=>rfl
omit ba in
theorem vp{D:Nat}{v:af}{x:Value}(h:dK κ D v x)(d:Nat):v.ao d=v:=by
 cases h<;> try rfl
 simp only[af.ao];rw[ja.ao (by assumption)]
theorem Ch{E:Env}(bB:E.F=.not){k:af→ah→ai}{r:ai}(bA:r≠.fail){n:Option Nat}{t:TypeId}{x:Operand}{v:af}(cZ:kt P t n=true)(a1:dK κ (s.aa+1) (v.ao s.aa) (ρ x))
  (aV:dZ E s k n v=r):∃f7,k f7 s=r∧dT P (.load t x) ty ρ κ s w f7 s:=by
 cases v<;> simp only[af.ao] at a1<;> simp only[dZ] at aV<;> try exact absurd aV.symm bA
 case bk cs=>obtain⟨a,e,_,h⟩:=Cg ba a1;obtain⟨f7,y,ar,aw,bS⟩:=tE h cZ bB aV bA;exact⟨f7,ar,bQ ba y (fun _ _ _ _=>by simp [execOp,Instr.loadAt,e,Instr.sureAddr,aw]) (by rw[vp bS];exact bS)⟩
 case ref a off=>
  rw[←ah.ic] at aV;cases u:a.ao s.aa with
  |l i=>cases a<;> simp [Loc.ao] at u
  |g d i=>
   rw[u] at aV a1;obtain⟨e,cW,_⟩:=a1.na;cases b2:s.get (.g d i) with
   |none=>rw[b2] at aV;exact absurd aV.symm bA
   |some o=>
    rw[b2] at aV;cases o<;> try exact absurd aV.symm bA
    rename_i cs;have h:=tB (oU ba b2 off) (show d+1≤s.aa+1 by omega);obtain⟨f7,y,ar,aw,bS⟩:=tE h cZ bB aV bA;exact⟨f7,ar,bQ ba y (fun _ _ _ _=>by simp [execOp,Instr.loadAt,e,Instr.sureAddr,aw]) (by rw[vp bS];exact bS)⟩
end
theorem jD{v:af}{n:Nat}(h:ff v=some n):∃k,v=.int k n:=by cases v<;> simp [ff] at h;rename_i k m;exact⟨k,by rw[←h.2,Int.toNat_of_nonneg h.1]⟩
theorem FN{n m:Nat}{r:ai}{x:ai}(h:(bif Nat.ble n m then x else .fail)=r)(bA:r≠.fail):n≤m∧x=r:=by
 cases e:Nat.ble n m with
 |true=>rw[e] at h;exact⟨d9 e,h⟩
 |false=>rw[e] at h;exact absurd h.symm bA
theorem c9{b:Bool}{r:ai}{x:ai}(h:(bif b then x else .fail)=r)(bA:r≠.fail):b=true∧x=r:=by
 cases b with
 |true=>exact⟨rfl,h⟩
 |false=>exact absurd h.symm bA
section
variable{P:Program}{ty:TypeId}{ρ:Operand→Value}{κ:bq}{s:ah}{w:World}(ba:db κ s w)
include ba
theorem tF{E:Env}(bB:E.F=.not){k:af→ah→ai}{r:ai}(bA:r≠.fail){t:TypeId}{x:Operand}{v:af}{i off:Nat}{kb:Array Field}{f:Field}(eo:P.underlying t=some (.struct kb))(u:kb[i]? =some f)(y:f.offset=off)
  {n:Nat}(gA:fw P f.type=some n)(cZ:n≠0)(a1:dK κ (s.aa+1) (v.ao s.aa) (ρ x))(aV:hf E s k off v=r):∃f7,k f7 s=r∧dT P (.fieldAddr t x i) ty ρ κ s w f7 s:=by
 have run:∀(a:Addr),ρ x=.pointer (some a)→∀dst pos after guard,(execOp ρ ⟨dst,.fieldAddr t x i,ty,pos,after,guard⟩).run P w=.ok (.value (.pointer (some (a.add off)))) w:=by intro a h dst pos after guard;simp [execOp,Instr.fieldAt,run_underlying eo,u,h,Instr.sureAddr,fieldPlace,eQ gA,cZ,y]
 cases v<;> simp only[af.ao] at a1<;> simp only[hf,bB,a2.not] at aV<;> try exact absurd aV.symm bA
 case bk cs=>obtain⟨a,dz,e,ar,aw,bS⟩:=a1.tA;refine⟨_,aV,bQ ba _ (run a e) ?_⟩;refine .bk _ _ (fun j=>dz (off+j)) (m5 ar _) (fun j cL=>?_) (fun j c a0=>bS _ c (by simpa using a0));rw[add_add];exact aw _ (by simp at cL;omega)
 case ref a o=>
  refine⟨_,aV,?_⟩;cases h:a.ao s.aa with
  |l i=>cases a<;> simp [Loc.ao] at h
  |g d j=>rw[h] at a1;obtain⟨e,cW,cL⟩:=a1.na;refine bQ ba _ (run _ e) ?_;simp only[af.ao,h,gu (show(⟨κ.loc d j,o,none⟩:Addr).spot=none from rfl)];exact .ref d j _ cW cL
omit ba in
theorem zd{cs:List af}{xs:List Value}{D off:Nat}(h:eH κ D cs xs){t:TypeId}{n:Option Nat}(cZ:kt P t n=true){E:Env}(bB:E.F=.not){k:af→ah→ai}{r:ai}(aV:e3 E s k n (cs.drop off)=r)(bA:r≠.fail):
  ∃v x,k v s=r∧(part t xs.toArray off).run P w=.ok x w∧dK κ D v x:=by
 have cW:=h.drop off;cases n with
 |none=>
  cases a0:cs.drop off with
  |nil=>rw[a0] at aV;simp [e3] at aV;exact absurd aV.symm bA
  |cons c u=>
   rw[a0] at aV;simp only[e3,bB,a2.not] at aV;rw[a0] at cW;obtain⟨x,y,gv,bX,_⟩:=cW.vn;refine⟨c,x,aV,?_,bX⟩;have e:xs[off]? =some x:=by have:=congrArg (fun l:List Value=>l[0]?) gv;simpa using this
   simp [part,jC (show lv P t=some false by simpa [kt] using cZ),e]
 |some n=>
  simp only[kt,bo,beq_iff_eq] at cZ;simp only[e3,bB,a2.not] at aV;obtain⟨bU,cK⟩:=FN aV bA;refine⟨_,.agg ((xs.drop off).take n).toArray,cK,?_,.agg _ _ (cW.take n).1 (cW.take n).2⟩
  have:xs.toArray.extract off (off+n)=((xs.drop off).take n).toArray:=by rw[List.extract_toArray];congr 1;simp [List.extract_eq_take_drop]
  simp [part,jC cZ.1,eQ cZ.2,this]
theorem Aj{E:Env}(bB:E.F=.not){k:af→ah→ai}{r:ai}(bA:r≠.fail){t:TypeId}{x:Operand}{v:af}{i off:Nat}{n:Option Nat}{kb:Array Field}{f:Field}(eo:P.underlying t=some (.struct kb))(u:kb[i]? =some f)(A:f.offset=off)
  (cZ:kt P f.type n=true)(a1:dK κ (s.aa+1) (v.ao s.aa) (ρ x))(aV:mo E s k off n v=r):∃f7,k f7 s=r∧dT P (.field t x i) ty ρ κ s w f7 s:=by
 cases v<;> simp only[af.ao] at a1<;> simp only[mo] at aV<;> try exact absurd aV.symm bA
 obtain⟨xs,e,h⟩:=a1.m9;obtain⟨f7,y,ar,aw,bS⟩:=zd (w:=w) h cZ bB aV bA;exact⟨f7,ar,bQ ba y (fun _ _ _ _=>by simp [execOp,Instr.field,run_underlying eo,u,e,asAgg,A,aw]) (by rw[vp bS];exact bS)⟩
theorem yx{E:Env}(bB:E.F=.not){k:af→ah→ai}{r:ai}(bA:r≠.fail){t e:TypeId}{x y:Operand}{v i:af}{sz len:Nat}{n:Option Nat}(eo:P.underlying t=some (.array len e))(gA:fw P e=some sz)
  (cZ:kt P e n=true)(a1:dK κ (s.aa+1) (v.ao s.aa) (ρ x))(bZ:dK κ (s.aa+1) (i.ao s.aa) (ρ y))(aV:kU E s k sz len n v i=r):∃f7,k f7 s=r∧dT P (.index t x y) ty ρ κ s w f7 s:=by
 cases v<;> simp only[af.ao] at a1<;> simp only[kU] at aV<;> try exact absurd aV.symm bA
 rename_i cs;obtain⟨xs,ex,h⟩:=a1.m9;cases u:ff i with
 |none=>rw[u] at aV;exact absurd aV.symm bA
 |some m=>
  rw[u] at aV;obtain⟨eG,rfl⟩:=jD u;have A:=bZ.eP;obtain⟨B,aV⟩:=c9 aV bA;have hm:m<len:=by simpa [Nat.blt_eq] using B
  obtain⟨f7,z,ar,aw,bS⟩:=zd (w:=w) h cZ bB aV bA;refine⟨f7,ar,bQ ba z (fun _ _ _ _=>?_) (by rw[vp bS];exact bS)⟩;simp [execOp,Instr.index,run_underlying eo,ex,A,asIntOf,hm,eQ gA,aw]
theorem yy{E:Env}(bB:E.F=.not){k:af→ah→ai}{r:ai}(bA:r≠.fail){t:TypeId}{x y:Operand}{v i:af}(eo:P.underlying t=some .string)
  (a1:dK κ (s.aa+1) (v.ao s.aa) (ρ x))(bZ:dK κ (s.aa+1) (i.ao s.aa) (ρ y))(aV:iB E s k v i=r):∃f7,k f7 s=r∧dT P (.index t x y) ty ρ κ s w f7 s:=by
 cases v<;> simp only[af.ao] at a1<;> simp only[iB] at aV<;> try exact absurd aV.symm bA
 rename_i fo;obtain⟨a,ex,h⟩:=a1.iF;cases u:ff i with
 |none=>rw[u] at aV;exact absurd aV.symm bA
 |some m=>
  rw[u] at aV;obtain⟨eG,rfl⟩:=jD u;have B:=bZ.eP;cases e:fo[m]? with
  |none=>simp only[e] at aV;exact absurd aV.symm bA
  |some b=>
   simp only[e,bB,a2.not] at aV;refine⟨_,aV,bQ ba (.int .u8 b) (fun _ _ _ _=>?_) (.int _ _)⟩;rw[←h,gb] at e;cases a0:a.data.toList[m]? with
   |none=>simp [a0] at e
   |some c=>
    simp only[a0,ep,bt] at e;subst e;have A:=(dy.1 a0).1;have H:a[m]? =some c:=by
     have fi:m<a.size:=by rw[Array.length_toList] at A;exact A
     rw[getElem?_pos a m fi];have aw:=(dy.1 a0).2;rw[ByteArray.getElem_eq_getElem_data];simpa using aw
    have key:(Instr.index t (.string a) (.int eG m)).run P w=.ok (.int .u8 c.toNat) w:=by simp only[Instr.index,Sem.run_bind,asIntOf,Sem.run_pure,Result.andThen_ok,run_underlying eo,Int.natCast_nonneg,↓reduceIte,Int.toNat_natCast,H]
    simp only[execOp,ex,B,Sem.run_bind,key,Result.andThen_ok,Sem.run_pure]
omit ba in
theorem hY{D:Nat}{v:af}{x:Value}(h:dK κ D v x):(∀sz es g,v=.bx sz es g→∃a c,x=.slice a es.length c)∧∀a off len cap sz,v=.cH a off len cap sz→∃p c,x=.slice p len c:=by cases h<;> refine⟨fun sz es g e=>?_,fun a off len cap sz e=>?_⟩<;> cases e<;> exact⟨_,_,rfl⟩
theorem wc{E:Env}(bB:E.F=.not){k:af→ah→ai}{r:ai}(bA:r≠.fail){b:Bool}{t:TypeId}{d:TypeDesc}{x:Operand}{v:af}(eo:P.underlying t=some d)(cW:(b=true∧d=.string)∨(b=false∧∃e,d=.slice e))
  (a1:dK κ (s.aa+1) (v.ao s.aa) (ρ x))(aV:qL E s k b v=r):∃f7,k f7 s=r∧dT P (.call {callee:=.builtin .len,args:= #[x],argTypes:= #[t]}) ty ρ κ s w f7 s:=by
 have u:=hY a1;cases v<;> simp only[af.ao] at a1 u<;> rcases cW with⟨rfl,rfl⟩|⟨rfl,e,rfl⟩<;> simp only[qL,bB,a2.not] at aV<;> try exact absurd aV.symm bA
 case str.inl fo=>
  obtain⟨a,ex,h⟩:=a1.iF;refine⟨_,aV,bQ ba (.int .i64 fo.length) (fun _ _ _ _=>?_) (.int _ _)⟩
  have:a.size=fo.length:=by have:=congrArg List.length h;rw[d0,Array.length_toList] at this;exact this
  simp [execOp,resolve,invoke,builtin,Builtin.len_,run_underlying eo,ex,goInt,this]
 case bx.inr sz es g=>refine⟨_,aV,bQ ba (.int .i64 es.length) (fun _ _ _ _=>?_) (.int _ _)⟩;obtain⟨a,c,ex⟩:=u.1 _ _ _ rfl;simp [execOp,resolve,invoke,builtin,Builtin.len_,run_underlying eo,ex,goInt]
 case cH.inr a off len cap sz=>refine⟨_,aV,bQ ba (.int .i64 len) (fun _ _ _ _=>?_) (.int _ _)⟩;obtain⟨p,mv,ex⟩:=u.2 _ _ _ _ _ rfl;simp [execOp,resolve,invoke,builtin,Builtin.len_,run_underlying eo,ex,goInt]
end
theorem oq:∀(es:List af) (sz i:Nat) (e:af),(∀e,e∈es→e.cells.length=sz)→es[i]? =some e→∀j,j<sz→(es.flatMap af.cells)[i*sz+j]? =e.cells[j]?
 |[],_,_,_,_,h,_,_=>by simp at h
 |x::es,sz,i,e,bU,h,j,cL=>by
  have a1:=bU x (by simp);simp only[List.flatMap_cons];cases i with
  |zero=>simp at h;subst h;rw[fB (by omega)];simp
  |succ i=>rw[jt (by rw[a1,Nat.succ_mul];omega),a1,show(i+1)*sz+j-sz=i*sz+j by rw[Nat.succ_mul];omega];exact oq es sz i e (fun e he=>bU e (by simp [he])) (by simpa using h) j cL
theorem fl:∀(es:List af) (sz:Nat),(∀e,e∈es→e.cells.length=sz)→(es.flatMap af.cells).length=es.length*sz
 |[],sz,_=>by simp
 |x::es,sz,bU=>by simp only[List.flatMap_cons,fW,bT,bU x (by simp),fl es sz (fun e he=>bU e (by simp [he])),Nat.succ_mul];omega
theorem dK.hY{κ:bq}{D sz:Nat}{es:List af}{g:e0}{x:Value}(h:dK κ D (.bx sz es g) x):(es=[]∧g=.nil∧x=.slice none 0 0)∨
  ∃(a:Addr) (cap:Nat) (dz:Nat→Value),x=.slice (some a) es.length cap∧ja κ D sz g es.length a cap∧es.length≤cap∧(es≠[]→a.spot=none)∧(∀e,e∈es→e.cells.length=sz)∧vS g es∧
   (∀j,j<(es.flatMap af.cells).length→κ.F (a.add j)=some (dz j))∧∀(j:Nat) (c:af),(es.flatMap af.cells)[j]? =some c→dK κ D c (dz j):=by
 cases h with
 |lo=>exact .inl ⟨rfl,rfl,rfl⟩
 |bx=>exact .inr ⟨_,_,_,rfl,by assumption,by assumption,by assumption,by assumption,by assumption,by assumption,by assumption⟩
section
variable{P:Program}{ty:TypeId}{ρ:Operand→Value}{κ:bq}{s:ah}{w:World}(ba:db κ s w)
include ba
theorem Ak{E:Env}(bB:E.F=.not){k:af→ah→ai}{r:ai}(bA:r≠.fail){t e:TypeId}{x y:Operand}{v i:af}{sz:Nat}(eo:P.underlying t=some (.slice e))(gA:fw P e=some sz)
  (a1:dK κ (s.aa+1) (v.ao s.aa) (ρ x))(bZ:dK κ (s.aa+1) (i.ao s.aa) (ρ y))(aV:lf E s k sz v i=r):∃f7,k f7 s=r∧dT P (.indexAddr t x y) ty ρ κ s w f7 s:=by
 unfold lf at aV;cases B:ff i with
 |none=>rw[B] at aV;exact absurd aV.symm bA
 |some m=>
  rw[B] at aV;obtain⟨eG,rfl⟩:=jD B;have H:=bZ.eP;have run:∀(a:Addr) (len cap:Nat),ρ x=.slice (some a) len cap→m<len→∀dst pos after guard,(execOp ρ ⟨dst,.indexAddr t x y,ty,pos,after,guard⟩).run P w=.ok (.value (.pointer (some (a.add (m*sz))))) w:=by intro a len cap u hm dst pos after guard;simp [execOp,Instr.indexAt,run_underlying eo,u,H,asIntOf,hm,eQ gA]
  cases v<;> simp only[af.ao] at a1<;> simp only[bB,a2.not] at aV<;> try exact absurd aV.symm bA
  case bx z es g=>
   obtain⟨A,h⟩:=c9 aV bA;clear aV;obtain rfl:z=sz:=dq A;cases he:es[m]? with
   |none=>rw[he] at h;exact absurd h.symm bA
   |some el=>
    rw[he] at h;simp only at h;refine⟨_,h,?_⟩;have hm:=(dy.1 he).1;rcases a1.hY with⟨rfl,_,_⟩|⟨a,cap,dz,ex,ar,aw,bS,dB,N,I,J⟩
    ·simp at he
    ·refine bQ ba _ (run a _ _ ex hm) ?_;have iQ:=dB el (List.mem_of_getElem? he);have M:=fl es z dB;refine .bk _ _ (fun j=>dz (m*z+j)) (m5 (bS (fun ml=>by simp_all)) _) (fun j cL=>?_) (fun j c a0=>?_)
     ·rw[add_add];refine I _ ?_;rw[M]
      have:(m+1)*z≤es.length*z:=gn _ hm;rw[Nat.succ_mul] at this;omega
     ·have cL:j<z:=by rw[←iQ];exact(dy.1 a0).1
      exact J _ c (by rw[oq es z m el dB he j cL];exact a0)
  case cH a off len cap z=>
   obtain⟨A,h⟩:=c9 aV bA;clear aV;rw[bo] at A;obtain rfl:z=sz:=dq A.1;have hm:m<len:=by simpa [Nat.blt_eq] using A.2
   refine⟨_,h,?_⟩;cases u:a.ao s.aa with
   |l i=>cases a<;> simp [Loc.ao] at u
   |g d j=>rw[u] at a1;obtain⟨mv,im,cW,cL,_⟩:=a1.km;refine bQ ba _ (run _ _ _ im hm) ?_;simp only[af.ao,u,gu (show(⟨κ.loc d j,off,none⟩:Addr).spot=none from rfl)];exact .ref d j _ cW cL
theorem yz{E:Env}(bB:E.F=.not){k:af→ah→ai}{r:ai}(bA:r≠.fail){t e:TypeId}{x y:Operand}{v i:af}{sz len:Nat}(eo:P.underlying t=some (.array len e))(gA:fw P e=some sz)
  (a1:dK κ (s.aa+1) (v.ao s.aa) (ρ x))(bZ:dK κ (s.aa+1) (i.ao s.aa) (ρ y))(aV:hG E s k sz len v i=r):∃f7,k f7 s=r∧dT P (.indexAddr t x y) ty ρ κ s w f7 s:=by
 unfold hG at aV;cases A:ff i with
 |none=>rw[A] at aV;exact absurd aV.symm bA
 |some m=>
  rw[A] at aV;obtain⟨eG,rfl⟩:=jD A;have B:=bZ.eP;obtain⟨H,u⟩:=c9 aV bA;clear aV;have hm:m<len:=by simpa [Nat.blt_eq] using H
  have run:∀(a:Addr),ρ x=.pointer (some a)→∀dst pos after guard,(execOp ρ ⟨dst,.indexAddr t x y,ty,pos,after,guard⟩).run P w=.ok (.value (.pointer (some (a.add (m*sz))))) w:=by intro a h dst pos after guard;simp [execOp,Instr.indexAt,run_underlying eo,h,B,asIntOf,hm,eQ gA,Instr.sureAddr]
  cases v<;> simp only[af.ao] at a1<;> simp only[bB,a2.not] at u<;> try exact absurd u.symm bA
  case bk cs=>obtain⟨a,dz,im,ar,aw,bS⟩:=a1.tA;refine⟨_,u,bQ ba _ (run a im) ?_⟩;refine .bk _ _ (fun j=>dz (m*sz+j)) (m5 ar _) (fun j cL=>?_) (fun j c a0=>bS _ c (by simpa using a0));rw[add_add];exact aw _ (by simp at cL;omega)
  case ref a o=>
   refine⟨_,u,?_⟩;cases h:a.ao s.aa with
   |l i=>cases a<;> simp [Loc.ao] at h
   |g d j=>rw[h] at a1;obtain⟨im,cW,cL⟩:=a1.na;refine bQ ba _ (run _ im) ?_;simp only[af.ao,h,gu (show(⟨κ.loc d j,o,none⟩:Addr).spot=none from rfl)];exact .ref d j _ cW cL
omit ba in
theorem tG{v:af}{m y:Nat}{x:Value}{D:Nat}(h:ff v=some m)(a1:dK κ D v x)(hm:m≤y)(code:BoundsCode):(Instr.sliceBound x y code).run P w=.ok m w:=by obtain⟨eG,rfl⟩:=jD h;rw[a1.eP];simp [Instr.sliceBound,asIntOf,hm]
omit ba in
theorem FO{v:af}{m:Nat}(h:ff v=some m)(d:Nat):v.ao d=v:=by obtain⟨eG,rfl⟩:=jD h;rfl
omit ba in
theorem Ci{G:Nat→af}{ap:Nat→af}{a:Act}(cd:yk κ s ap a)(d8:kQ κ G){o:Option bN}{p:Option Operand}(h:fQ o p=true){r m:Nat}(e:dL G ap o r=some m):
  (o=none∧p=none∧m=r)∨∃x y v,o=some x∧p=some y∧ff v=some m∧dK κ (s.aa+1) v (a.eval y):=by
 cases o with
 |none=>cases p with
  |none=>simp [dL] at e;exact .inl ⟨rfl,rfl,e.symm⟩
  |some y=>simp [fQ] at h
 |some x=>cases p with
  |none=>simp [fQ] at h
  |some y=>simp only[dL] at e;have bX:=bF cd d8 (show cQ x y=true by simpa [fQ] using h);rw[FO e] at bX;exact .inr ⟨x,y,_,rfl,rfl,e,bX⟩
omit ba in
theorem rl{G:Nat→af}{ap:Nat→af}{a:Act}(cd:yk κ s ap a)(d8:kQ κ G){o:Option bN}{p:Option Operand}(h:fQ o p=true){e m:Nat}(r:dL G ap o e=some m):
  (o=none∧p=none∧m=e)∨∃x y,o=some x∧p=some y∧∀(Y:Nat) (code:BoundsCode),m≤Y→(Instr.sliceBound (a.eval y) Y code).run P w=.ok m w:=by
 rcases Ci cd d8 h r with ar|⟨x,y,v,ar,aw,bS,dB⟩
 ·exact .inl ar
 ·exact .inr ⟨x,y,ar,aw,fun Y code hm=>tG bS dB hm code⟩
omit ba in
theorem hQ{G:Nat→af}{ap:Nat→af}{a:Act}(cd:yk κ s ap a)(d8:kQ κ G){gz bZ jf:Option bN}{e r u:Option Operand}(y:fQ gz e=true)(A:fQ bZ r=true)(B:fQ jf u=true)
  {l h m len cap:Nat}(mc:dL G ap gz 0=some l)(F:dL G ap bZ len=some h)(H:dL G ap jf cap=some m)(ar:l≤h)(aw:h≤m)(bS:m≤cap)(I:jf.isSome=true→bZ.isSome=true)(J:Bool):
  (Instr.sliceBounds J len cap (e.map a.eval) (r.map a.eval) (u.map a.eval)).run P w=.ok (l,h,m) w:=by
 have M:h≤cap:=by omega
 rcases rl (P:=P) (w:=w) cd d8 y mc with⟨rfl,rfl,rfl⟩|⟨N,O,rfl,rfl,U⟩ <;>
 rcases rl (P:=P) (w:=w) cd d8 A F with⟨rfl,rfl,rfl⟩|⟨V,Y,rfl,rfl,Z⟩ <;>
 rcases rl (P:=P) (w:=w) cd d8 B H with⟨rfl,rfl,rfl⟩|⟨aa,ab,rfl,rfl,ac⟩ <;>
 first
  |(simp at I;done)
  |simp (discharger:=omega) [Instr.sliceBounds, *]
end
section
variable{P:Program}{ty:TypeId}{ρ:Operand→Value}{κ:bq}{s:ah}{w:World}(ba:db κ s w)
theorem ot(a:ByteArray)(l h:Nat):(a.extract l h).data.toList=(a.data.toList.drop l).take (h-l):=by simp [List.extract_eq_take_drop]
include ba
theorem yA{E:Env}(bB:E.F=.not){k:af→ah→ai}{r:ai}(bA:r≠.fail){ap:Nat→af}{a:Act}(cd:yk κ s ap a)(d8:kQ κ E.ax){t:TypeId}{x:bN}{y:Operand}{gz bZ:Option bN}{A B:Option Operand}(eo:P.underlying t=some .string)
  (I:cQ x y=true)(J:fQ gz A=true)(M:fQ bZ B=true)(aV:kh E ap s k (au E.ax ap x) gz bZ=r):∃f7,k f7 s=r∧dT P (.slice t y A B none) ty a.eval κ s w f7 s:=by
 have a1:=bF cd d8 I;generalize bX:au E.ax ap x=v at a1 aV;cases v<;> simp only[af.ao] at a1<;> simp only[kh] at aV<;> try exact absurd aV.symm bA
 rename_i fo;cases mc:dL E.ax ap gz 0 with
 |none=>simp only[mc] at aV;exact absurd aV.symm bA
 |some l=>
  cases e:dL E.ax ap bZ fo.length with
  |none=>simp only[mc,e] at aV;exact absurd aV.symm bA
  |some h=>
   simp only[mc,e,bB,a2.not] at aV;obtain⟨u,N⟩:=c9 aV bA;rw[bo] at u;have ar:=d9 u.1;have aw:=d9 u.2;obtain⟨c,ex,a0⟩:=a1.iF;have fi:c.size=fo.length:=by have:=congrArg List.length a0;rw[d0,Array.length_toList] at this;exact this
   refine⟨_,N,bQ ba (.string (c.extract l h)) (fun _ _ _ _=>?_) (.str _ _ ?_)⟩
   ·have H:=hQ (P:=P) (w:=w) cd d8 J M (show fQ none none=true from rfl) (len:=c.size) (cap:=c.size) mc (by rw[fi];exact e) (m:=c.size) rfl ar (by omega) (aC _) (by simp) false;simp only[Option.map_none] at H;simp [execOp,Instr.sliceAt,Instr.slice,run_underlying eo,ex,H]
   ·rw[ot,List.map_take,List.map_drop,a0]
theorem yB{E:Env}(bB:E.F=.not){k:af→ah→ai}{r:ai}(bA:r≠.fail){ap:Nat→af}{a:Act}(cd:yk κ s ap a)(d8:kQ κ E.ax){t e:TypeId}{sz n:Nat}{x:bN}{y:Operand}{gz bZ jf:Option bN}{B H I:Option Operand}(eo:P.underlying t=some (.array n e))(gA:fw P e=some sz)
  (O:cQ x y=true)(U:fQ gz B=true)(V:fQ bZ H=true)(Y:fQ jf I=true)(Z:jf.isSome=true→bZ.isSome=true)(aV:i7 E ap s k sz n (au E.ax ap x) gz bZ jf=r):∃f7,k f7 s=r∧dT P (.slice t y B H I) ty a.eval κ s w f7 s:=by
 have a1:=bF cd d8 O;generalize bX:au E.ax ap x=v at a1 aV;have run:∀(A:Addr) (l h m:Nat),a.eval y=.pointer (some A)→(Instr.sliceBounds false n n (B.map a.eval) (H.map a.eval) (I.map a.eval)).run P w=.ok (l,h,m) w→∀dst pos after guard,(execOp a.eval ⟨dst,.slice t y B H I,ty,pos,after,guard⟩).run P w=.ok (.value (.slice (some (if m=l then A else A.add (l*sz))) (h-l) (m-l))) w:=by intro A l h m ex u dst pos after guard;simp [execOp,Instr.sliceAt,run_underlying eo,ex,u,eQ gA,Instr.sureAddr]
 cases v<;> simp only[af.ao] at a1<;> simp only[i7] at aV<;> try exact absurd aV.symm bA
 rename_i b off;cases mc:dL E.ax ap gz 0 with
 |none=>simp only[mc] at aV;exact absurd aV.symm bA
 |some l=>
  cases J:dL E.ax ap bZ n with
  |none=>simp only[mc,J] at aV;exact absurd aV.symm bA
  |some h=>
   cases M:dL E.ax ap jf n with
   |none=>simp only[mc,J,M] at aV;exact absurd aV.symm bA
   |some m=>
    simp only[mc,J,M,bB,a2.not] at aV;obtain⟨u,ab⟩:=c9 aV bA;simp only[bo] at u;have ar:=d9 u.1.1;have aw:=d9 u.1.2;have bS:=d9 u.2;refine⟨_,ab,?_⟩;cases N:b.ao s.aa with
    |l i=>cases b<;> simp [Loc.ao] at N
    |g d j=>
     rw[N] at a1;obtain⟨ex,cW,cL⟩:=a1.na;have ac:=hQ (P:=P) (w:=w) cd d8 U V Y (len:=n) (cap:=n) mc J M ar aw bS Z false;refine bQ ba _ (run _ _ _ _ ex ac) ?_;simp only[af.ao,N]
     have:(if m=l then(⟨κ.loc d j,off,none⟩:Addr) else(⟨κ.loc d j,off,none⟩:Addr).add (l*sz))=⟨κ.loc d j,if m=l then off else off+l*sz,none⟩:=by
      split
      ·rfl
      ·simp [gu]
     rw[this];exact .cH d j _ _ _ _ sz cW cL (by omega) (.inl rfl)
omit ba in
theorem vS.left{g:e0}{es:List af}(h:vS g es)(b2:∀d j,g≠.cP (.g d j)):∀e,e∈es→e.bb=true:=by
 rcases h with h|⟨d,j,e,_⟩
 ·exact h
 ·exact absurd e (b2 d j)
omit ba in
theorem vS.part{g':e0}{es:List af}(h:∀e,e∈es→e.bb=true)(l n:Nat):vS g' ((es.drop l).take n):=.inl fun e he=>h e (List.mem_of_mem_drop (List.mem_of_mem_take he))
theorem Al{E:Env}(bB:E.F=.not){k:af→ah→ai}{r:ai}(bA:r≠.fail){ap:Nat→af}{a:Act}(cd:yk κ s ap a)(d8:kQ κ E.ax){t e:TypeId}{sz:Nat}{x:bN}{y:Operand}{gz bZ jf:Option bN}{ac ad O:Option Operand}(eo:P.underlying t=some (.slice e))(gA:fw P e=some sz)
  (av:cQ x y=true)(ae:fQ gz ac=true)(ag:fQ bZ ad=true)(U:fQ jf O=true)(am:jf.isSome=true→bZ.isSome=true)(aV:ks E ap s k sz (au E.ax ap x) gz bZ jf=r):∃f7,k f7 s=r∧dT P (.slice t y ac ad O) ty a.eval κ s w f7 s:=by
 have a1:=bF cd d8 av;generalize bX:au E.ax ap x=v at a1 aV;have run:∀(A:Option Addr) (len cap l h m:Nat),a.eval y=.slice A len cap→(Instr.sliceBounds true len cap (ac.map a.eval) (ad.map a.eval) (O.map a.eval)).run P w=.ok (l,h,m) w→∀dst pos after guard,(execOp a.eval ⟨dst,.slice t y ac ad O,ty,pos,after,guard⟩).run P w=.ok (.value (.slice (if m=l then A else A.map (·.add (l*sz))) (h-l) (m-l))) w:=by intro A len cap l h m ex u dst pos after guard;simp [execOp,Instr.sliceAt,Instr.slice,run_underlying eo,ex,u,eQ gA]
 cases v<;> simp only[af.ao] at a1<;> simp only[ks] at aV<;> try exact absurd aV.symm bA
 case bx z es g=>
  cases mc:dL E.ax ap gz 0 with
  |none=>simp only[mc] at aV;exact absurd aV.symm bA
  |some l=>
   cases B:dL E.ax ap bZ es.length with
   |none=>simp only[mc,B] at aV;exact absurd aV.symm bA
   |some h=>
    simp only[mc,B,bB,a2.not] at aV;have part:∀(A:Addr) (cap:Nat) (dz:Nat→Value) (g':e0),(es≠[]→A.spot=none)→(∀e,e∈es→e.cells.length=sz)→vS (g'.ao s.aa) ((es.drop l).take (h-l))→
      (∀j,j<(es.flatMap af.cells).length→κ.F (A.add j)=some (dz j))→(∀(j:Nat) (c:af),(es.flatMap af.cells)[j]? =some c→dK κ (s.aa+1) c (dz j))→l≤h→h≤es.length→∀m,h≤m→
      ja κ (s.aa+1) sz (g'.ao s.aa) (h-l) (if m=l then A else A.add (l*sz)) (m-l)→g'.ao s.aa≠.nil→
      dK κ (s.aa+1) ((af.bx sz ((es.drop l).take (h-l)) g').ao s.aa) (.slice (some (if m=l then A else A.add (l*sz))) (h-l) (m-l)):=by
     intro A cap dz g' hR dB H V Y aJ ay m aK b2 I;have hlen:((es.drop l).take (h-l)).length=h-l:=by simp;omega
     simp only[af.ao];have kI:∀e,e∈(es.drop l).take (h-l)→e∈es:=fun e he=>List.mem_of_mem_drop (List.mem_of_mem_take he)
     have az:=fl es sz dB;have an:=fl _ sz (fun e he=>dB e (kI e he));have aA:∀j,j<(h-l)*sz→((((es.drop l).take (h-l))).flatMap af.cells)[j]? =(es.flatMap af.cells)[l*sz+j]?:=by
      intro j cL;have aB:0<sz:=Nat.pos_of_ne_zero (fun eO=>by rw[eO] at cL;simp at cL);have fz:j/sz<h-l:=Nat.div_lt_of_lt_mul (by rw[eM];exact cL);have iP:j%sz<sz:=Nat.mod_lt _ aB;have vX:j=j/sz*sz+j%sz:=by rw[eM];exact(Nat.div_add_mod j sz).symm
      have hle:l+j/sz<es.length:=by omega
      have dn:((es.drop l).take (h-l))[j/sz]? =some es[l+j/sz]:=by rw[List.getElem?_take,if_pos fz,List.getElem?_drop,eb hle]
      have aD:es[l+j/sz]? =some es[l+j/sz]:=eb hle;have f1:=oq _ sz _ _ (fun e he=>dB e (kI e he)) dn (j%sz) iP;have f2:=oq es sz _ _ dB aD (j%sz) iP;rw[←vX] at f1;rw[f1,←f2];congr 1;rw[fq];omega
     by_cases aq:m=l
     ·have eO:h-l=0:=by omega
      rw[if_pos aq] at b2 ⊢;have aE:(es.drop l).take (h-l)=[]:=by rw[eO];simp
      rw[aE];rw[eO] at b2 ⊢;exact .bx sz [] _ A _ dz b2 (Nat.zero_le _) (fun h=>absurd rfl h) (fun e he=>by simp at he) (.inl fun e he=>by simp at he) (fun j cL=>by simp at cL) (fun j c a0=>by simp at a0)
     ·rw[if_neg aq] at b2 ⊢;have key:dK κ (s.aa+1) (af.bx sz ((es.drop l).take (h-l)) (g'.ao s.aa)) (.slice (some (A.add (l*sz))) ((es.drop l).take (h-l)).length (m-l)):=by
       refine .bx sz _ _ _ _ (fun j=>dz (l*sz+j)) (by rw[hlen];exact b2) (by rw[hlen];omega) (fun eu=>m5 (hR (fun ml=>eu (by simp [ml]))) _) (fun e he=>dB e (kI e he)) H (fun j cL=>?_) (fun j c a0=>?_)
       ·rw[add_add];refine V _ ?_;rw[an,hlen] at cL;rw[az]
        have:h*sz≤es.length*sz:=gn _ ay;have aL:l*sz+(h-l)*sz=h*sz:=by rw[←fq];congr 1;omega
        omega
       ·have cL:=(dy.1 a0).1;rw[an,hlen] at cL;rw[aA j cL] at a0;exact Y _ c a0
      rw[hlen] at key;exact key
    cases jf with
    |none=>
     cases O with
     |some y=>simp [fQ] at U
     |none=>
     simp only at aV;obtain⟨u,Z⟩:=c9 aV bA;rw[bo,bo,bo] at u;have ab:z=sz:=(dq u.1.1.1).symm;subst ab;have ar:=d9 u.1.1.2;have aw:=d9 u.1.2;have aj:=u.2;refine⟨_,Z,?_⟩;rcases a1.hY with⟨rfl,b2,ex⟩|⟨A,cap,dz,ex,b2,cZ,hR,dB,H,V,Y⟩
     ·have I:g=.nil:=by cases g<;> simp_all [e0.ao]
      subst I;simp only[ca,Nat.le_zero_eq] at aw;subst aw;simp only[Nat.le_zero_eq] at ar;subst ar;have M:=hQ (P:=P) (w:=w) cd d8 ae ag U (len:=0) (cap:=0) mc B (m:=0) rfl (aC _) (aC _) (aC _) (by simp) true;exact bQ ba _ (run _ _ _ _ _ _ ex M) (by simp;exact .lo z)
     ·have M:=hQ (P:=P) (w:=w) cd d8 ae ag U (len:=es.length) (cap:=cap) mc B (m:=cap) rfl ar (by omega) (aC _) (by simp) true;refine bQ ba _ (run _ _ _ _ _ _ ex M) ?_;have fS:=fun g' aF ak I=>part A cap dz g' hR dB aF V Y ar aw cap (by omega) ak I
      have dn:(if cap=l then some A else Option.map (fun x=>x.add (l*z)) (some A))=some (if cap=l then A else A.add (l*z)):=by split<;> rfl
      rw[dn];cases g with
      |nil=>simp [e0.ao,ja] at b2
      |any=>exact fS .any (.part (H.left (by simp [e0.ao])) l (h-l)) trivial (by simp [e0.ao])
      |exact=>
       simp only[e0.ao,ja] at b2;subst b2;by_cases J:h=es.length
       ·subst J;simp only[↓reduceIte];exact fS .exact (.part (H.left (by simp [e0.ao])) l _) rfl (by simp [e0.ao])
       ·simp only[J,↓reduceIte];exact fS .any (.part (H.left (by simp [e0.ao])) l (h-l)) trivial (by simp [e0.ao])
      |cP b=>
       by_cases J:l=0∧h=es.length
       ·obtain⟨rfl,rfl⟩:=J;simp only[true_and,↓reduceIte];refine fS (.cP b) (by simpa using H) ?_ (by simp [e0.ao]);simp only[Nat.sub_zero,Nat.zero_mul,Addr.add,↓reduceIte];simpa using b2
       ·have py:∀e,e∈es→e.bb=true:=by
         simp only[qs,Bool.or_eq_true,bo] at aj;rcases aj with⟨aG,aH⟩|q
         ·exact absurd ⟨dq aG,dq aH⟩ J
         ·exact eA.1 q
        simp only[J,↓reduceIte];exact fS .any (.part py l (h-l)) trivial (by simp [e0.ao])
    |some aI=>
     cases O with
     |none=>simp [fQ] at U
     |some aM=>
     cases N:ff (au E.ax ap aI) with
     |none=>simp only[N] at aV;cases g<;> simp only at aV<;> exact absurd aV.symm bA
     |some m=>
      simp only[N] at aV;have I:g≠.nil:=by rintro rfl;exact absurd aV.symm bA
      have iP:(bif Nat.beq sz z&&Nat.ble l h&&Nat.ble h m&&Nat.ble m es.length&&vP g es then k (.bx z ((es.drop l).take (h-l)) (if h=m then .exact else .any)) s else .fail)=r:=by cases g<;> first|exact absurd rfl I|exact aV
      obtain⟨u,Z⟩:=c9 iP bA;simp only[bo] at u;have ab:z=sz:=(dq u.1.1.1.1).symm;subst ab;have ar:=d9 u.1.1.1.2;have aw:=d9 u.1.1.2;have bS:=d9 u.1.2;have aj:=u.2;refine⟨_,Z,?_⟩;rcases a1.hY with⟨rfl,b2,ex⟩|⟨A,cap,dz,ex,b2,cZ,hR,dB,H,V,Y⟩
      ·exact absurd (by cases g<;> simp_all [e0.ao]) I
      ·have M:=hQ (P:=P) (w:=w) cd d8 ae ag U (len:=es.length) (cap:=cap) mc B (m:=m) N ar aw (by omega) am true;refine bQ ba _ (run _ _ _ _ _ _ ex M) ?_;have py:∀e,e∈es→e.bb=true:=by
        cases g with
        |cP b=>exact eA.1 aj
        |nil=>exact H.left (by simp [e0.ao])
        |exact=>exact H.left (by simp [e0.ao])
        |any=>exact H.left (by simp [e0.ao])
       have fS:=fun g' ak I=>part A cap dz g' hR dB (.part py l (h-l)) V Y ar (by omega) m aw ak I
       have dn:(if m=l then some A else Option.map (fun x=>x.add (l*z)) (some A))=some (if m=l then A else A.add (l*z)):=by split<;> rfl
       rw[dn];by_cases J:h=m
       ·subst J;simp only[↓reduceIte];exact fS .exact rfl (by simp [e0.ao])
       ·simp only[J,↓reduceIte];exact fS .any trivial (by simp [e0.ao])
 case cH b off len cap z=>
  cases mc:dL E.ax ap gz 0 with
  |none=>simp only[mc] at aV;exact absurd aV.symm bA
  |some l=>
   cases B:dL E.ax ap bZ len with
   |none=>simp only[mc,B] at aV;exact absurd aV.symm bA
   |some h=>
    cases N:dL E.ax ap jf cap with
    |none=>simp only[mc,B,N] at aV;exact absurd aV.symm bA
    |some m=>
     simp only[mc,B,N,bB,a2.not] at aV;obtain⟨u,Z⟩:=c9 aV bA;simp only[bo] at u;have ab:z=sz:=(dq u.1.1.1.1).symm;subst ab;have ar:=d9 u.1.1.1.2;have aw:=d9 u.1.1.2;have bS:=d9 u.1.2;have u6:=d9 u.2;refine⟨_,Z,?_⟩;cases al:b.ao s.aa with
     |l i=>cases b<;> simp [Loc.ao] at al
     |g d j=>
      rw[al] at a1;obtain⟨ex,cW,cL⟩:=a1.MI u6;have M:=hQ (P:=P) (w:=w) cd d8 ae ag U (len:=len) (cap:=cap) mc B N ar aw bS am true;refine bQ ba _ (run _ _ _ _ _ _ ex M) ?_;simp only[af.ao,al]
      have:(if m=l then some (⟨κ.loc d j,off,none⟩:Addr) else Option.map (fun(x:Addr)=>x.add (l*z)) (some ⟨κ.loc d j,off,none⟩))=some ⟨κ.loc d j,if m=l then off else off+l*z,none⟩:=by
       split
       ·rfl
       ·simp [gu]
      rw[this];exact .cH d j _ _ _ _ z cW cL (by omega) (.inl rfl)
end
theorem Am(l:List Value):∀(n:Nat) (cs:Array Value) (off:Nat),(l.zipIdx n).foldl (fun cs (p:Value×Nat)=>cs.setIfInBounds (off+p.2) p.1) cs=(dE cs.toList (off+n) l).toArray:=by
 induction l with
 |nil=>intro n cs off;simp [dE]
 |cons v l e=>intro n cs off;simp only[List.zipIdx_cons,List.foldl_cons,dE];rw[e (n+1)];congr 1;simp [Array.toList_setIfInBounds,Nat.add_assoc]
theorem qP(C:Array Value)(cs:Array Value)(off:Nat):C.zipIdx.foldl (fun cs (p:Value×Nat)=>cs.setIfInBounds (off+p.2) p.1) cs=(dE cs.toList off C.toList).toArray:=by rw[←Array.foldl_toList,Array.toList_zipIdx,Am];simp
section
variable{P:Program}{ty:TypeId}{ρ:Operand→Value}{κ:bq}{s:ah}{w:World}(ba:db κ s w)
def kX(place:Nat→Option (Nat×Nat)):List (Nat×Nat×bN)→List (Nat×Operand)→Bool
 |[],[]=>true
 |(off,sz,x)::er,(i,y)::e=>(place i==some (off,sz))&&cQ x y&&kX place er e
 |_,_=>false
theorem we{G:Nat→af}{ap:Nat→af}{a:Act}(cd:yk κ s ap a)(d8:kQ κ G)(place:Nat→Option (Nat×Nat)):∀(er:List (Nat×Nat×bN)) (A:List (Nat×Operand)) (cs u:List af) (xs:List Value),
  kX place er A=true→eH κ (s.aa+1) cs xs→fC G s.aa ap cs er=some u→∃B,Instr.fill place xs.toArray (A.map fun p=>(p.1,a.eval p.2))=some B.toArray∧eH κ (s.aa+1) u B
 |[],[],cs,u,xs,_,h,bA=>by simp only[fC,bt] at bA;exact⟨xs,rfl,bA ▸ h⟩
 |[],_::_,_,_,_,h,_,_=>by simp [kX] at h
 |_::_,[],_,_,_,h,_,_=>by simp [kX] at h
 |(off,sz,x)::er,(i,y)::A,cs,u,xs,c0,h,bA=>by
  simp only[kX,bo,beq_iff_eq] at c0;simp only[fC] at bA;have a1:=bF cd d8 c0.1.2;generalize (au G ap x).ao s.aa=v at a1 bA;cases r:(v.e9&&Nat.beq v.cells.length sz&&Nat.ble (off+sz) cs.length) with
  |false=>rw[r] at bA;simp at bA
  |true=>
   rw[r,bD] at bA;simp only[bo] at r;have bX:=a1.cells r.1.1;have ar:=dq r.1.2;have aw:=d9 r.2;have bS:=h.dE bX (o:=off) (by omega);obtain⟨B,e,F⟩:=we cd d8 place er A _ u _ c0.2 bS bA;refine⟨B,?_,F⟩;have fi:(a.eval y).cells.size=sz:=by rw[←Array.length_toList,bX.1,ar]
   have hle:¬(off+(a.eval y).cells.size>xs.toArray.size):=by simp only[List.size_toArray,h.1,fi];omega
   have H:decide (off+(a.eval y).cells.size>xs.toArray.size)=false:=b0 hle;have I:=qP (a.eval y).cells xs.toArray off;simp only[fc,Instr.fill,c0.1.1,fi,ne_eq,not_true_eq_false,dG,Bool.false_or];rw[←fi,H];simp only[b5,↓reduceIte];rw[I];exact e
def ku(P:Program)(t:TypeId)(z:List af):Bool:=
 match (P.info? t).bind (·.zero) with
 |some v=>nH z v.cells.toList
 |none=>false
theorem lx{t:TypeId}{z:List af}(h:ku P t z=true)(w:World):∃v,(zeroValue t).run P w=.ok v w∧(∀κ D,eH κ D z v.cells.toList)∧af.aX z=true∧∃i,P.info? t=some i∧i.zero=some v:=by
 unfold ku at h;cases bZ:P.info? t with
 |none=>simp [bZ] at h
 |some i=>
  cases gA:i.zero with
  |none=>simp [bZ,gA] at h
  |some v=>simp only[bZ,fp,gA] at h;obtain⟨ar,aw⟩:=n8 _ _ h;exact⟨v,by simp [zeroValue,typeInfo,bZ,gA],ar,aw,i,rfl,gA⟩
include ba
theorem wg{v:Value}{t:TypeId}{o:Op}{cs:List af}(a0:eH κ (s.aa+1) cs v.cells.toList)(h:∀dst pos after guard,(execOp ρ ⟨dst,o,ty,pos,after,guard⟩).run P w=.ok (.value (.pointer (some ⟨w.heap.size,0,none⟩))) (w.alloc (.cells v.cells t))):
  dT P o ty ρ κ s w (.ref (.l s.own.length) 0) (s.new (.cells cs)):=by
 obtain⟨κ',ar,aw,bS,dB⟩:=ba.pJ cs v.cells t a0 (w':=w.alloc (.cells v.cells t)) rfl rfl rfl rfl;refine⟨_,κ',_,.inl h,aw,ar,?_⟩;simp only[af.ao,Loc.ao];rw[←bS];exact .ref _ _ _ (Nat.lt_succ_self _) dB
theorem An{t:TypeId}{z:List af}(gA:ku P t z=true):dT P (.alloc t) ty ρ κ s w (.ref (.l s.own.length) 0) (s.new (.cells z)):=by obtain⟨v,e,ar,_,_⟩:=lx gA w;exact wg ba (v:=v) (t:=t) (ar _ _) (fun _ _ _ _=>by simp [execOp,Instr.alloc,e,newVar,newRow])
theorem yC{t:TypeId}{x:Operand}{v:af}(a1:dK κ (s.aa+1) (v.ao s.aa) (ρ x))(bX:v.e9=true):dT P (.box t x) ty ρ κ s w (.ref (.l s.own.length) 0) (s.new (.cells (v.ao s.aa).cells)):=
 wg ba (v:=ρ x) (t:=t) (a1.cells (by rw[v5];exact bX)) (fun _ _ _ _=>by simp [execOp,Instr.box,newVar,newRow])
theorem qQ{C:Array Value}{t:TypeId}{o:Op}{cs:List af}(a0:eH κ (s.aa+1) cs C.toList)(x:Addr→Value)(v:af)(e:∀κ',hk κ κ' (s.aa+1)→(∀j,j<cs.length→κ'.F ⟨w.heap.size,j,none⟩=C[j]?)→dK κ' (s.aa+1) (v.ao s.aa) (x ⟨w.heap.size,0,none⟩))
  (h:∀dst pos after guard,(execOp ρ ⟨dst,o,ty,pos,after,guard⟩).run P w=.ok (.value (x ⟨w.heap.size,0,none⟩)) (w.alloc (.cells C t))):dT P o ty ρ κ s w v s:=by
 obtain⟨ar,aw⟩:=ba.rT (w':=w.alloc (.cells C t)) C t (0,0) rfl rfl rfl rfl;have bU:C.size=cs.length:=by simpa using a0.1
 refine⟨_,_,_,.inl h,aw,ar,e _ aw.k (fun j cL=>?_)⟩;rw[oS (Nat.zero_le _) (by omega),Array.getElem?_eq_getElem (by omega)]
theorem Ao{t:TypeId}{x:Operand}{v:af}(a1:dK κ (s.aa+1) (v.ao s.aa) (ρ x))(bX:v.e9=true):dT P (.box t x) ty ρ κ s w (.bk (v.ao s.aa).cells) s:=by
 have a0:=a1.cells (by rw[v5];exact bX);refine qQ ba (t:=t) a0 (fun a=>.pointer (some a)) _ (fun κ' cK iC=>?_) (fun _ _ _ _=>by simp [execOp,Instr.box,newVar,newRow]);refine .bk _ _ (fun j=>(ρ x).cells.getD j undef) rfl (fun j cL=>?_) (fun j c cL=>?_)
 ·rw[gu rfl];simp only[bh];rw[iC j cL]
  have:j<(ρ x).cells.size:=by have:=a0.1;simp at this;omega
  simp [Array.getD,this]
 ·obtain⟨y,ez,e⟩:=a0.get cL
  have:(ρ x).cells.getD j undef=y:=by
   have h:(ρ x).cells[j]? =some y:=by simpa using ez
   simp [Array.getD_eq_getD_getElem?,h]
  rw[this];exact e.mono cK
theorem yD{f:Nat}{cs:List bN}{dM:List Operand}{G:Nat→af}{ap:Nat→af}{a:Act}(cd:yk κ s ap a)(d8:kQ κ G)(h:dH cs dM=true):
  dT P (.makeFunc (.func f) #[] dM.toArray) ty a.eval κ s w (.fn f (cs.map fun x=>(au G ap x).ao s.aa)) s:=by
 have key:∀(cs:List bN) (dM:List Operand),dH cs dM=true→eH κ (s.aa+1) (cs.map fun x=>(au G ap x).ao s.aa) (dM.map a.eval):=by
  intro cs
  induction cs with
  |nil=>intro dM h;cases dM with
   |nil=>exact .nil _ _
   |cons _ _=>simp [dH] at h
  |cons c cs e=>intro dM h;cases dM with
   |nil=>simp [dH] at h
   |cons y r=>simp only[dH,bo] at h;exact .cons (bF cd d8 h.1) (e r h.2)
 have cK:=key cs dM h;exact bQ ba (.func (.func f) #[] (dM.map a.eval).toArray) (fun _ _ _ _=>by simp [execOp,Instr.makeFunc]) (.fn f _ _ cK.1 cK.2)
theorem qF{G:Nat→af}{ap:Nat→af}{a:Act}(cd:yk κ s ap a)(d8:kQ κ G){t:TypeId}{z cs:List af}{er:List (Nat×Nat×bN)}{r:List (Nat×Operand)}{kb:Array Field}(eo:P.underlying t=some (.struct kb))(gA:ku P t z=true)
  {pl:Array (Nat×Nat)}(u:(kb.toList.mapM fun f=>(fw P f.type).map fun n=>(f.offset,n))=some pl.toList)(c0:kX (pl[·]?) er r=true)(a0:fC G s.aa ap z er=some cs):
  dT P (.build t r.toArray) ty a.eval κ s w (.agg cs) s:=by
 obtain⟨v,e,ar,_,_⟩:=lx gA w;have y:∀(kb:List Field) (pl:List (Nat×Nat)),(kb.mapM fun f=>(fw P f.type).map fun n=>(f.offset,n))=some pl→(kb.mapM fun f=>do pure (f.offset,←sizeOf f.type):Sem _).run P w=.ok pl w:=by
  intro kb
  induction kb with
  |nil=>intro pl h;simp at h;subst h;simp
  |cons f kb A=>
   intro pl h;simp only[List.mapM_cons,Option.bind_eq_bind,Option.bind_eq_some_iff,Option.pure_def,bt] at h;obtain⟨p,fS,er,B,rfl⟩:=h;cases fi:fw P f.type with
   |none=>simp [fi] at fS
   |some n=>
    simp only[fi,ep,bt] at fS;subst fS
    have:=A er B;simp only[bind_pure_comp] at this;simp [List.mapM_cons,eQ fi,this]
 have hm:(kb.mapM fun f=>do pure (f.offset,←sizeOf f.type):Sem _).run P w=.ok pl w:=by
  rw[Array.mapM_eq_mapM_toList]
  have:=y kb.toList pl.toList u;simp only[bind_pure_comp] at this;simp [this]
 obtain⟨F,im,bX⟩:=we cd d8 _ er r z cs v.cells.toList c0 (ar _ _) a0;refine bQ ba (.agg F.toArray) (fun _ _ _ _=>?_) (.agg _ _ bX.1 bX.2);simp only[Array.toArray_toList] at im;simp only[bind_pure_comp] at hm;simp [execOp,Instr.build,e,run_underlying eo,hm,im]
theorem rm{G:Nat→af}{ap:Nat→af}{a:Act}(cd:yk κ s ap a)(d8:kQ κ G){t el:TypeId}{len sz:Nat}{z cs:List af}{er:List (Nat×Nat×bN)}{h:List (Nat×Operand)}(eo:P.underlying t=some (.array len el))(fi:fw P el=some sz)(gA:ku P t z=true)
  (c0:kX (fun i=>some (i*sz,sz)) er h=true)(a0:fC G s.aa ap z er=some cs):
  dT P (.build t h.toArray) ty a.eval κ s w (.agg cs) s:=by
 obtain⟨v,e,ar,_,_⟩:=lx gA w;obtain⟨r,im,bX⟩:=we cd d8 _ er h z cs v.cells.toList c0 (ar _ _) a0;refine bQ ba (.agg r.toArray) (fun _ _ _ _=>?_) (.agg _ _ bX.1 bX.2);simp only[Array.toArray_toList] at im;simp [execOp,Instr.build,e,run_underlying eo,eQ fi,im]
omit ba in
theorem nI{G:Nat→af}{ap:Nat→af}{a:Act}(cd:yk κ s ap a)(d8:kQ κ G)(sz:Nat):∀(er:List bN) (r:List Operand) (i:Nat) (es:List af) (pre:List Value) (rest:List Value),
  dH er r=true→es=er.map (fun x=>(au G ap x).ao s.aa)→(∀e,e∈es→e.e9=true∧e.cells.length=sz)→pre.length=i*sz→rest.length=r.length*sz→
  ∃xs,Instr.fill (fun i=>some (i*sz,sz)) (pre++rest).toArray ((r.zipIdx i).map fun p=>(p.2,a.eval p.1))=some (pre++xs).toArray∧eH κ (s.aa+1) (es.flatMap af.cells) xs
 |[],[],i,es,pre,rest,_,he,_,_,aV=>by
  subst he
  have:rest=[]:=by simpa using aV
  subst this;exact⟨[],by simp [Instr.fill],.nil _ _⟩
 |[],_::_,_,_,_,_,h,_,_,_,_=>by simp [dH] at h
 |_::_,[],_,_,_,_,h,_,_,_,_=>by simp [dH] at h
 |x::er,y::r,i,es,pre,rest,c0,he,u,fS,aV=>by
  simp only[dH,bo] at c0;subst he;have a1:=bF cd d8 c0.1;obtain⟨ar,aw⟩:=u ((au G ap x).ao s.aa) (by simp);have bX:=a1.cells ar;have fi:(a.eval y).cells.toList.length=sz:=by rw[bX.1,aw]
  have py:rest.length=sz+r.length*sz:=by rw[aV,bT,Nat.succ_mul,Nat.add_comm]
  have F:dE (pre++rest) (i*sz) (a.eval y).cells.toList=(pre++(a.eval y).cells.toList)++rest.drop sz:=by
   apply List.ext_getElem?;intro j;rw[hg _ _ _ (by simp only[fW];omega),fi];by_cases I:j<i*sz
   ·rw[if_neg (by omega),ll,fB (by omega),fB (by omega)]
   ·by_cases H:j<i*sz+sz
    ·rw[if_pos ⟨by omega,H⟩,ll,jt (by omega),fB (by omega),fS]
    ·rw[if_neg (by omega),jt (by omega),jt (by simp only[fW];omega),List.getElem?_drop];congr 1;simp only[fW];omega
  obtain⟨xs,e,gv⟩:=nI cd d8 sz er r (i+1) _ (pre++(a.eval y).cells.toList) (rest.drop sz) c0.2 rfl (fun e he=>u e (by simp at he ⊢;exact .inr he)) (by simp only[fW,fS,fi,Nat.succ_mul]) (by simp only[List.length_drop];omega);refine⟨(a.eval y).cells.toList++xs,?_,by simpa using bX.append gv⟩;have A:(a.eval y).cells.size=sz:=by rw[←Array.length_toList];exact fi
  have hle:decide (i*sz+(a.eval y).cells.size>(pre++rest).toArray.size)=false:=b0 (by simp only[List.size_toArray,fW];omega);have B:=qP (a.eval y).cells (pre++rest).toArray (i*sz);rw[F] at B;simp only[List.zipIdx_cons,fc,Instr.fill,A,ne_eq,not_true_eq_false,dG,Bool.false_or];rw[A] at hle;rw[hle];simp only[b5,↓reduceIte];rw[B,e,ll]
omit ba in
theorem md{t el:TypeId}{sz n:Nat}{v:Value}{parts:Array (Nat×Value)}{xs:Array Value}(eo:P.underlying t=some (.slice el))(fi:fw P el=some sz)(bX:(zeroValue el).run P w=.ok v w)(hp:¬(n*sz>2^24))
  (bA:Instr.fill (fun i=>some (i*sz,sz)) ((Array.range (n*sz)).map (v.cells[· % v.cells.size]!)) parts.toList=some xs):(Instr.buildSlice t n parts).run P w=.ok (.slice (some ⟨w.heap.size,0,none⟩) n n) (w.alloc (.cells xs el)):=by
 unfold Instr.buildSlice;simp only[Sem.run_bind,run_underlying eo,Result.andThen_ok,eQ fi];rw[if_neg hp];by_cases eO:n*sz=0
 ·have ml:(Array.range (n*sz)).map (fun x=>(#[]:Array Value)[x%(#[]:Array Value).size]!)=(Array.range (n*sz)).map (v.cells[· % v.cells.size]!):=by
   rw[eO];simp
  rw[if_pos eO];simp only[Sem.run_bind,Sem.run_pure,Result.andThen_ok];rw[ml,bA];simp [newRow]
 ·rw[if_neg eO];simp only[Sem.run_bind,bX,Result.andThen_ok,Sem.run_pure];rw[bA];simp [newRow]
theorem rY{G:Nat→af}{ap:Nat→af}{a:Act}(cd:yk κ s ap a)(d8:kQ κ G){t el:TypeId}{sz:Nat}{z:List af}{er:List bN}{r:List Operand}(eo:P.underlying t=some (.slice el))(fi:fw P el=some sz)(gA:ku P el z=true)(F:z.length=sz)
  (hp:¬(r.length*sz>2^24))(c0:dH er r=true)(aV:af.aX (er.map (au G ap))=true)(bX:∀e,e∈er.map (au G ap)→e.e9=true∧e.cells.length=sz):
  dT P (.buildSlice t r.length (r.zipIdx.map fun p=>(p.2,p.1)).toArray) ty a.eval κ s w (.bx sz (er.map (au G ap)) .exact) s:=by
 obtain⟨v,e,ar,_,_⟩:=lx gA w;have B:er.map (fun x=>(au G ap x).ao s.aa)=er.map (au G ap):=by apply List.map_congr_left;intro x a1;exact jT (eA.1 aV _ (List.mem_map_of_mem a1)) _
 have U:v.cells.size=sz:=by rw[←Array.length_toList,(ar κ 0).1,F]
 have hlen:(er.map (au G ap)).length=r.length:=by
  have:∀(er:List bN) (r:List Operand),dH er r=true→er.length=r.length:=by
   intro er
   induction er with
   |nil=>intro r h;cases r<;> simp [dH] at h ⊢
   |cons p er H=>intro r h;cases r with
    |nil=>simp [dH] at h
    |cons q r=>simp only[dH,bo] at h;simp [H r h.2]
  simp [this er r c0]
 obtain⟨xs,im,gv⟩:=nI cd d8 sz er r 0 (er.map (au G ap)) [] ((Array.range (r.length*sz)).map (v.cells[· % v.cells.size]!)).toList c0 B.symm bX (by simp) (by simp);have u:∀dst pos after guard,(execOp a.eval ⟨dst,.buildSlice t r.length (r.zipIdx.map fun p=>(p.2,p.1)).toArray,ty,pos,after,guard⟩).run P w=.ok (.value (.slice (some ⟨w.heap.size,0,none⟩) r.length r.length)) (w.alloc (.cells xs.toArray el)):=by
  intro dst pos after guard;simp only[List.nil_append,Array.toArray_toList] at im;have I:=md (parts:=((r.zipIdx.map fun p=>(p.2,p.1)).toArray.map fun p=>(p.1,a.eval p.2))) eo fi e hp (xs:=xs.toArray) (by rw[Array.toList_map,List.map_map];exact im)
  have a1:∀(o:Oper),o.op=.buildSlice t r.length (r.zipIdx.map fun p=>(p.2,p.1)).toArray→execOp a.eval o=(do pure (.value (←Instr.buildSlice t r.length ((r.zipIdx.map fun p=>(p.2,p.1)).toArray.map fun p=>(p.1,a.eval p.2)))):Sem Next):=by intro o J;unfold execOp;rw[J]
  rw[a1 _ rfl,Sem.run_bind,I];rfl
 have a0:eH κ (s.aa+1) ((er.map (au G ap)).flatMap af.cells) xs.toArray.toList:=gv;generalize M:Op.buildSlice t r.length (r.zipIdx.map fun p=>(p.2,p.1)).toArray=op at u ⊢;generalize cZ:r.length=n at u hlen;generalize V:er.map (au G ap)=es at a0 hlen aV bX ⊢;clear M cZ im gv B hp c0;refine qQ ba (t:=el) a0 (fun A=>.slice (some A) n n) (.bx sz es .exact) (fun κ' cK iC=>?_) u;simp only[af.ao,e0.ao];rw[←hlen];refine .bx sz _ .exact _ _ (fun j=>xs.getD j undef) rfl (aC _) (fun _=>rfl) (fun e he=>(bX e he).2) (.inl fun e he=>eA.1 aV e he) (fun j cL=>?_) (fun j c cL=>?_)
 ·rw[gu rfl];simp only[bh];rw[iC j cL];have bU:xs.length=(es.flatMap af.cells).length:=a0.1
  have:j<xs.length:=by omega
  simp [List.getD,this]
 ·obtain⟨y,ez,N⟩:=a0.get cL
  have:xs.getD j undef=y:=by have O:xs[j]? =some y:=ez;simp [List.getD,O]
  rw[this];exact N.mono cK
end
theorem yE(c:af):(z9 c).cells=[c]:=by cases c<;> rfl
theorem fK(sz:Nat):∀(n:Nat) (cs:List af),(chunk sz n cs).length=n
 |0,_=>rfl
 |n+1,cs=>by simp [chunk,fK sz n]
theorem kY(sz:Nat)(fi:sz≠0):∀(n:Nat) (cs:List af),n*sz≤cs.length→(chunk sz n cs).flatMap af.cells=cs.take (n*sz)∧∀e,e∈chunk sz n cs→e.cells.length=sz
 |0,cs,_=>by simp [chunk]
 |n+1,cs,h=>by
  rw[Nat.succ_mul] at h;obtain⟨ar,aw⟩:=kY sz fi n (cs.drop sz) (by simp;omega);have cW:(mX sz cs).cells=cs.take sz:=by
   unfold mX;split
   ·cases cs with
    |nil=>simp at h
    |cons c cs=>rw[yE];simp
   ·rfl
  have bU:(cs.take sz).length=sz:=by simp;omega
  refine⟨?_,?_⟩
  ·simp only[chunk,List.flatMap_cons];rw[cW,ar,Nat.succ_mul,Nat.add_comm,←List.take_add]
  ·intro e he;simp only[chunk,List.mem_cons] at he;rcases he with rfl |he
   ·rw[cW,bU]
   ·exact aw e he
section
variable{P:Program}{ty:TypeId}{ρ:Operand→Value}{κ:bq}{s:ah}{w:World}(ba:db κ s w)
include ba
theorem u7{v:af}{x:Operand}(a1:dK κ (s.aa+1) (v.ao s.aa) (ρ x))(cZ:isNil v=some false):dT P (.nilCheck x) ty ρ κ s w v s:=by
 refine bQ ba (ρ x) (fun dst pos after guard=>?_) a1;generalize ez:ρ x=y at a1;generalize bX:v.ao s.aa=f7 at a1;have e:isNil f7=some false:=by
  rw[←bX];cases v with
  |bx sz es g=>cases g<;> first|exact cZ|(simp [isNil] at cZ)
  |_=>exact cZ
 cases a1<;> simp [isNil] at e<;> simp [execOp,ez]
omit ba in
theorem FP{v:af}(d:Nat):isNil (v.ao d)=isNil v:=by
 cases v with
 |bx sz es g=>cases g<;> rfl
 |_=>rfl
omit ba in
theorem Cj{e:Uk}{v:af}(d:Nat):hn e (v.ao d)=hn e v:=by cases v<;> cases e<;> rfl
def qR(e:Uk)(d:TypeDesc):Bool:=
 match e,d with
 |.bool,.bool|.slice,.slice _|.ptr,.pointer _|.func,.func .. |.map,.map .. |.iface,.interface _=>true
 |_,_=>false
omit ba in
theorem uh(t:TypeId)(X Y:Value):Op.equal t X Y=Op.equalIn (9999+1) t X Y:=rfl
inductive hq:TypeDesc→Value→Value→Bool→Prop
 |bool (a b:Bool):hq .bool (.bool a) (.bool b) (a==b)
 |Un (el:TypeId) (l c:Nat) (B:Option Addr) (l' oK:Nat):hq (.slice el) (.slice none l c) (.slice B l' oK) B.isNone
 |Uo (el:TypeId) (a:Addr) (l c l' oK:Nat):hq (.slice el) (.slice (some a) l c) (.slice none l' oK) false
 |agh (el:TypeId) (B:Option Addr):hq (.pointer el) (.pointer none) (.pointer B) B.isNone
 |agi (el:TypeId) (a:Addr):hq (.pointer el) (.pointer (some a)) (.pointer none) false
 |func0 (p r:Array TypeId) (v:Bool):hq (.func p r v) .nilFunc .nilFunc true
 |func1 (p r:Array TypeId) (v:Bool) (f:Fn) (x y:Array Value):hq (.func p r v) .nilFunc (.func f x y) false
 |func2 (p r:Array TypeId) (v:Bool) (f:Fn) (x y:Array Value):hq (.func p r v) (.func f x y) .nilFunc false
 |agj (k el:TypeId) (B:Option Nat):hq (.map k el) (.map none) (.map B) B.isNone
 |agk (k el:TypeId) (a:Nat):hq (.map k el) (.map (some a)) (.map none) false
 |Up (Ck:Array (String×TypeId)) (t:TypeId) (v:Value):hq (.interface Ck) .nilIface (.iface t v) false
 |IY (Ck:Array (String×TypeId)) (t:TypeId) (v:Value):hq (.interface Ck) (.iface t v) .nilIface false
omit ba in
theorem hq.run{t:TypeId}{d:TypeDesc}(eo:P.underlying t=some d){X Y:Value}{b:Bool}(h:hq d X Y b):(Op.equal t X Y).run P w=.ok b w:=by rw[uh];generalize (9999:Nat)=n;cases h<;> simp only[Op.equalIn,Sem.run_bind,run_underlying eo,Result.andThen_ok,Sem.run_pure]
omit ba in
theorem hq.guard{d:TypeDesc}{X Y:Value}{b:Bool}(h:hq d X Y b)(op:BinOp)(t:TypeId)(x y:Operand):(eqGuard op t x y X Y).run P w=.ok () w:=by cases h<;> unfold eqGuard<;> cases op<;> rfl
omit ba in
theorem hq.gives{t yt:TypeId}{d:TypeDesc}(eo:P.underlying t=some d){x y:Operand}{b:Bool}(neg:Bool)(h:hq d (ρ x) (ρ y) b)(dst:Option Tmp)(pos:String)(after:Array Edge)(guard:Option (Nat×Bool)):
  (execOp ρ ⟨dst,.binOp (if neg then .neq else .eql) t x y yt,ty,pos,after,guard⟩).run P w=.ok (.value (.bool (bif neg then !b else b))) w:=by
 have ar:=h.run (w:=w) eo;have aw:=h.guard (P:=P) (w:=w) (if neg then .neq else .eql) t x y;have r:∀(op:BinOp),op=.eql∨op=.neq→binOp op t (ρ x) (ρ y)=match op with
   |.eql=>(do pure (.bool (←Op.equal t (ρ x) (ρ y))):Sem Value)
   |_=>(do pure (.bool (!(←Op.equal t (ρ x) (ρ y)))):Sem Value):=by
  intro op u;generalize ρ x=X at h;generalize ρ y=Y at h;rcases u with rfl |rfl <;> cases h<;> rfl
 cases neg
 ·have e:=r .eql (.inl rfl);simp only[b5,↓reduceIte] at aw ⊢;simp only[execOp,Sem.run_bind,aw,Result.andThen_ok,e,ar,Sem.run_pure,cond_false]
 ·have e:=r .neq (.inr rfl);simp only[↓reduceIte] at aw ⊢;simp only[execOp,Sem.run_bind,aw,Result.andThen_ok,e,ar,Sem.run_pure,bD]
omit ba in
theorem wh(e:Uk)(v u:af)(d:Nat):oi e (v.ao d) (u.ao d)=oi e v u:=by
 cases e with
 |bool=>cases v<;> cases u<;> rfl
 |agg=>cases v<;> cases u<;> rfl
 |_=>simp only[oi,Cj,FP]
omit ba in
theorem ui{D:Nat}{v:af}{X:Value}(h:dK κ D v X)(cK:hn .slice v=true):∃A l c,X=.slice A l c∧∀b,isNil v=some b→A.isNone=b:=by
 cases v<;> simp [hn] at cK
 case bx sz es g=>
  rcases h.hY with⟨rfl,rfl,rfl⟩|⟨a,cap,dz,rfl,b2,_⟩
  ·exact⟨_,_,_,rfl,fun b e=>by simpa [isNil] using e⟩
  ·refine⟨_,_,_,rfl,fun b e=>?_⟩;cases g<;> simp [isNil,ja] at e b2<;> simp [←e]
 case cH a off len cap sz=>cases h;exact⟨_,_,_,rfl,fun b e=>by simpa [isNil] using e⟩
omit ba in
theorem ze{D:Nat}{v:af}{X:Value}(h:dK κ D v X)(cK:hn .ptr v=true):∃A,X=.pointer A∧∀b,isNil v=some b→A.isNone=b:=by cases h<;> simp [hn] at cK<;> exact⟨_,rfl,fun b e=>by simpa [isNil] using e⟩
omit ba in
theorem wi{D:Nat}{v:af}{X:Value}(h:dK κ D v X)(cK:hn .func v=true):(X=.nilFunc∧∀b,isNil v=some b→b=true)∨((∃f x y,X=.func f x y)∧∀b,isNil v=some b→b=false):=by
 cases h<;> simp [hn] at cK
 ·exact .inr ⟨⟨_,_,_,rfl⟩,fun b e=>by simpa [isNil] using e.symm⟩
 ·exact .inl ⟨rfl,fun b e=>by simpa [isNil] using e.symm⟩
omit ba in
theorem zf{D:Nat}{v:af}{X:Value}(h:dK κ D v X)(cK:hn .map v=true):∃A,X=.map A∧∀b,isNil v=some b→A.isNone=b:=by cases h<;> simp [hn] at cK<;> exact⟨_,rfl,fun b e=>by simpa [isNil] using e⟩
omit ba in
theorem uj{D:Nat}{v:af}{X:Value}(h:dK κ D v X)(cK:hn .iface v=true):(X=.nilIface∧∀b,isNil v=some b→b=true)∨((∃t x,X=.iface t x)∧∀b,isNil v=some b→b=false):=by
 cases h<;> simp [hn] at cK
 ·exact .inr ⟨⟨_,_,rfl⟩,fun b e=>by simpa [isNil] using e.symm⟩
 ·exact .inl ⟨rfl,fun b e=>by simpa [isNil] using e.symm⟩
omit ba in
theorem Ow{D:Nat}{e:Uk}{v u:af}{X Y:Value}{d:TypeDesc}{b:Bool}(cW:qR e d=true)(a1:dK κ D v X)(ez:dK κ D u Y)(h:oi e v u=some b):hq d X Y b:=by
 have main:e≠.bool→(∀iT,e≠.agg iT)→∃p q,hn e v=true∧hn e u=true∧isNil v=some p∧isNil u=some q∧(p=true∧b=q∧¬(q=true∧e=.iface)∨p=false∧q=true∧b=false):=by
  intro ar aw;have F:(bif hn e v&&hn e u then
    match isNil v,isNil u with
    |some true,some b=>bif b&&decide (e=.iface) then none else some b
    |some false,some true=>some false
    |_,_=>none
   else none)=some b:=by
   cases e<;> first|exact absurd rfl ar|exact absurd rfl (aw _)|exact h
  cases cK:(hn e v&&hn e u) with
  |false=>rw[cK] at F;simp at F
  |true=>
   rw[cK,bD] at F;rw[bo] at cK;cases bX:isNil v with
   |none=>rw[bX] at F;simp at F
   |some p=>
    cases hu:isNil u with
    |none=>rw[bX,hu] at F;cases p<;> simp at F
    |some q=>
     rw[bX,hu] at F;refine⟨p,q,cK.1,cK.2,rfl,rfl,?_⟩;cases p
     ·cases q
      ·simp at F
      ·right;simp at F;exact⟨rfl,rfl,F⟩
     ·left
      simp only at F;cases fz:(q&&decide (e=.iface)) with
      |true=>rw[fz] at F;simp at F
      |false=>rw[fz] at F;simp at F fz;exact⟨rfl,F.symm,by simpa using fz⟩
 cases e
 case bool=>
  have M:d=.bool:=by cases d<;> simp [qR] at cW ⊢
  subst M;cases v<;> cases u<;> simp [oi] at h;subst h;rw[a1.ho,ez.ho];exact .bool _ _
 case agg iT=>cases d<;> simp [qR] at cW
 case slice=>
  obtain⟨el,rfl⟩:∃el,d=.slice el:=by cases d<;> simp [qR] at cW ⊢
  obtain⟨p,q,k1,pz,jk,I,H⟩:=main (by simp) (by simp);obtain⟨A,l,c,rfl,hR⟩:=ui a1 k1;obtain⟨B,l',oK,rfl,r⟩:=ui ez pz;have hR:=hR p jk;have r:=r q I;rcases H with⟨rfl,rfl,_⟩|⟨rfl,rfl,rfl⟩
  ·cases A<;> simp at hR;rw[←r];exact .Un ..
  ·cases A<;> simp at hR;cases B<;> simp at r;exact .Uo ..
 case ptr=>
  obtain⟨el,rfl⟩:∃el,d=.pointer el:=by cases d<;> simp [qR] at cW ⊢
  obtain⟨p,q,k1,pz,jk,I,H⟩:=main (by simp) (by simp);obtain⟨A,rfl,hR⟩:=ze a1 k1;obtain⟨B,rfl,r⟩:=ze ez pz;have hR:=hR p jk;have r:=r q I;rcases H with⟨rfl,rfl,_⟩|⟨rfl,rfl,rfl⟩
  ·cases A<;> simp at hR;rw[←r];exact .agh ..
  ·cases A<;> simp at hR;cases B<;> simp at r;exact .agi ..
 case map=>
  obtain⟨k,el,rfl⟩:∃k el,d=.map k el:=by cases d<;> simp [qR] at cW ⊢
  obtain⟨p,q,k1,pz,jk,I,H⟩:=main (by simp) (by simp);obtain⟨A,rfl,hR⟩:=zf a1 k1;obtain⟨B,rfl,r⟩:=zf ez pz;have hR:=hR p jk;have r:=r q I;rcases H with⟨rfl,rfl,_⟩|⟨rfl,rfl,rfl⟩
  ·cases A<;> simp at hR;rw[←r];exact .agj ..
  ·cases A<;> simp at hR;cases B<;> simp at r;exact .agk ..
 case func=>
  obtain⟨er,J,pL,rfl⟩:∃er J pL,d=.func er J pL:=by cases d<;> simp [qR] at cW ⊢
  obtain⟨p,q,k1,pz,jk,I,H⟩:=main (by simp) (by simp);rcases wi a1 k1 with⟨rfl,hR⟩|⟨⟨f,x,y,rfl⟩,hR⟩<;> rcases wi ez pz with⟨rfl,r⟩|⟨⟨yp,kT,vl,rfl⟩,r⟩<;> have hR:=hR p jk<;> have r:=r q I<;> subst hR r<;> simp at H<;> try subst H
  ·exact .func0 ..
  ·exact .func1 ..
  ·exact .func2 ..
 case iface=>
  obtain⟨Ck,rfl⟩:∃Ck,d=.interface Ck:=by cases d<;> simp [qR] at cW ⊢
  obtain⟨p,q,k1,pz,jk,I,H⟩:=main (by simp) (by simp);rcases uj a1 k1 with⟨rfl,hR⟩|⟨⟨f,x,rfl⟩,hR⟩<;> rcases uj ez pz with⟨rfl,r⟩|⟨⟨yp,kT,rfl⟩,r⟩<;> have hR:=hR p jk<;> have r:=r q I<;> subst hR r<;> simp at H<;> try subst H
  ·exact .Up ..
  ·exact .IY ..
theorem Cl{neg:Bool}{v:af}{t yt:TypeId}{x:Operand}{Ck:Array (String×TypeId)}{op:BinOp}{z:af}(u:op=if neg then .neq else .eql)(eo:P.underlying t=some (.interface Ck))(a1:dK κ (s.aa+1) (v.ao s.aa) (ρ x))(a0:ρ (.const .nilIface)=.nilIface)(h:Ac neg v=some z):dT P (.binOp op t x (.const .nilIface) yt) ty ρ κ s w z s:=by
 cases v<;> simp [Ac] at h
 case iface Uh f7=>
  subst h;obtain⟨y,A,ez⟩:=dK.FM (t:=Uh) (v:=f7) a1;have bA:hq (.interface Ck) (ρ x) (ρ (.const .nilIface)) false:=by rw[A,a0];exact .IY Ck Uh y
  have:=bQ (P:=P) (ty:=ty) (o:=.binOp op t x (.const .nilIface) yt) (ρ:=ρ) ba (v:=.bool neg) _ (fun dst pos after guard=>by have:=bA.gives (ty:=ty) (w:=w) (yt:=yt) eo neg dst pos after guard;rw[u];exact this) (by cases neg<;> exact .bool _)
  exact this
 case h8=>
  subst h;have ex:ρ x=.nilIface:=by simp only[af.ao] at a1;generalize ρ x=q at a1;cases a1;rfl
  refine bQ ba (.bool (!neg)) (fun dst pos after guard=>?_) (.bool _);subst u;have dn:(Op.equal t .nilIface .nilIface).run P w=.ok true w:=by rw[uh];generalize (9999:Nat)=n;simp only[Op.equalIn,Sem.run_bind,run_underlying eo,Result.andThen_ok,Sem.run_pure]
  cases neg
  ·have e:(eqGuard .eql t x (.const .nilIface) .nilIface .nilIface).run P w=.ok () w:=by
    unfold eqGuard;cases x<;> rfl
   have r:binOp .eql t .nilIface .nilIface=(do pure (.bool (←Op.equal t .nilIface .nilIface)):Sem Value):=rfl;simp only[execOp,b5,↓reduceIte,ex,a0,Sem.run_bind,e,Result.andThen_ok,r,dn,Sem.run_pure,hz]
  ·have e:(eqGuard .neq t x (.const .nilIface) .nilIface .nilIface).run P w=.ok () w:=by
    unfold eqGuard;cases x<;> rfl
   have r:binOp .neq t .nilIface .nilIface=(do pure (.bool (!(←Op.equal t .nilIface .nilIface))):Sem Value):=rfl;simp only[execOp,↓reduceIte,ex,a0,Sem.run_bind,e,Result.andThen_ok,r,dn,Sem.run_pure,hK]
theorem MJ{e:Uk}{b neg:Bool}{v u:af}{t yt:TypeId}{x y:Operand}{d:TypeDesc}{op:BinOp}(r:op=if neg then .neq else .eql)(eo:P.underlying t=some d)(cW:qR e d=true)
  (a1:dK κ (s.aa+1) (v.ao s.aa) (ρ x))(ez:dK κ (s.aa+1) (u.ao s.aa) (ρ y))(h:oi e v u=some b):dT P (.binOp op t x y yt) ty ρ κ s w (.bool (bif neg then !b else b)) s:=by
 subst r;exact bQ ba _ ((Ow cW a1 ez (by rw[wh];exact h)).gives eo neg) (.bool _)
end
end Go.Ab
end
