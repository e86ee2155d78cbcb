/- A part of the proof: no condition. -/
import Derived.Calls
import Derived.Below
import Derived.Laws.World
import Derived.Laws.Cells
import Derived.Laws.Entries
import Derived.Laws.IdiomCopy
import Derived.Laws.Strings
import Derived.Laws.Slices
import Derived.Laws.MakeOwn
import Derived.Laws.BytesArg
set_option linter.unusedSectionVars false
set_option linter.unusedSimpArgs false
section
namespace Go
theorem dT{p:Prop}[Decidable p](h:¬p):decide p=false:=decide_eq_false h
theorem eJ{p:Prop}[Decidable p](h:p):decide p=true:=decide_eq_true h
theorem ez{α:Type _}{i:Nat}{a:α}{l:List α}:l[i]? =some a↔∃h:i<l.length,l[i]=a:=List.getElem?_eq_some_iff
theorem ht{α:Type _}{β:Type _}{db:List α}(f:α→β):(db.map f).length=db.length:=List.length_map f
theorem g1{α:Type _}{l m:List α}{i:Nat}(h:i<l.length):(l++m)[i]? =l[i]?:=List.getElem?_append_left h
theorem c4{n m:Nat}(h:n.beq m=true):n=m:=Nat.eq_of_beq_eq_true h
theorem bm(a b:Bool):((a&&b)=true)=(a=true∧b=true):=Bool.and_eq_true a b
theorem a8{α:Type _}(a b:α):(some a=some b)=(a=b):=Option.some.injEq a b
theorem oZ{α:Type _}{l:List α}{i j:Nat}(h:i≠j){a:α}:(l.set i a)[j]? =l[j]?:=List.getElem?_set_ne h
theorem dJ{α:Type _}{a:α}{l:List α}{i:Nat}:(a::l).drop (i+1)=l.drop i:=List.drop_succ_cons
theorem fB{α:Type _}{l:List α}{i:Nat}(h:i<l.length):l[i]? =some l[i]:=List.getElem?_eq_getElem h
theorem eK{n m:Nat}(h:n≤m):n.ble m=true:=Nat.ble_eq_true_of_le h
theorem dL{n m:Nat}(h:n.ble m=true):n≤m:=Nat.le_of_ble_eq_true h
theorem bL:(false=true)=False:=Bool.false_eq_true
theorem bM{α:Type _}{a:α}{db:List α}:(a::db).length=db.length+1:=List.length_cons
theorem f9{α:Type _}{db eB:List α}:(db++eB).length=db.length+eB.length:=List.length_append
theorem cj{p:Prop}[Decidable p]:(decide p=true)=p:=decide_eq_true_eq
theorem tr{α:Type _}(db eB cs:List α):db++eB++cs=db++(eB++cs):=List.append_assoc db eB cs
theorem bV{α:Type _}{l:List α}:l.drop 0=l:=List.drop_zero
theorem fZ{α:Type _}{β:Type _}(a:α)(f:α→Option β):(some a).bind f=f a:=Option.bind_some a f
theorem eb{α:Type _}{β:Type _}(a:α)(f:α→β):(some a).map f=some (f a):=Option.map_some a f
theorem cr{α:Type _}:([]:List α).length=0:=List.length_nil
theorem ps{α:Type _}{a:α}:¬a∈([]:List α):=List.not_mem_nil
theorem w3{α:Type _}{l:List α}{n:Nat}(h:n<l.length):l[n]∈l:=List.getElem_mem h
theorem aC(n:Nat):n≤n:=Nat.le_refl n
theorem bc(n:Nat):0+n=n:=Nat.zero_add n
theorem eT(b:Bool):(true&&b)=b:=Bool.true_and b
theorem fK(b:Bool):(false&&b)=false:=Bool.false_and b
theorem ci{α:Sort _}(a b:α):(bif true then a else b)=a:=rfl
theorem dx(h:Decidable True): @decide True h=true:=decide_true h
theorem du(h:Decidable False): @decide False h=false:=decide_false h
theorem kk{α:Type _}{l:List α}{i:Nat}(h:i<l.length):l.drop i=l[i]::l.drop (i+1):=List.drop_eq_getElem_cons h
theorem jC{α:Type _}{l:List α}{i:Nat}(h:l.length≤i):l.take i=l:=List.take_of_length_le h
theorem n0{α:Type _}{l:List α}{i:Nat}(h:l.length≤i):l.drop i=[]:=List.drop_of_length_le h
theorem iy{α:Type _}{β:Type _}(f:α→β)(l:List α)(i:Nat):(l.map f)[i]? =l[i]?.map f:=by simp
theorem gJ:(!false)=true:=rfl
theorem gV:(!true)=false:=rfl
theorem bA(b:Bool):(b&&b)=b:=Bool.and_self b
theorem Bz{α:Type _}(l:List α):l++[]=l:=List.append_nil l
theorem ed(n m:Nat):n*m=m*n:=Nat.mul_comm n m
theorem g7{a b:Nat}(h:a<b):a%b=a:=Nat.mod_eq_of_lt h
theorem fh(a b c:Nat):a*(b+c)=a*b+a*c:=Nat.mul_add a b c
theorem gr(a b c:Nat):a*b*c=a*(b*c):=Nat.mul_assoc a b c
theorem fi{a b:Nat}(c:Nat)(h:a≤b):a*c≤b*c:=Nat.mul_le_mul_right c h
theorem fL{a b c:Nat}(h:a<b)(k:b≤c):a<c:=Nat.lt_of_lt_of_le h k
theorem im{α:Type _}{l m:List α}{i:Nat}(h:l.length≤i):(l++m)[i]? =m[i-l.length]?:=List.getElem?_append_right h
theorem eC{α:Type _}{β:Type _}(a:α)(b:β)(c:α)(d:β):((a,b)=(c,d))=(a=c∧b=d):=Prod.mk.injEq a b c d
theorem cN{α:Type _}{a:α}{l:List α}{i:Nat}:(a::l).take (i+1)=a::l.take i:=List.take_succ_cons
theorem jT{α:Type _}{l:List α}(h:l.length=0):l=[]:=List.eq_nil_of_length_eq_zero h
theorem eL(a b c:Nat):(a+b)*c=a*c+b*c:=Nat.add_mul a b c
theorem fM{α:Type _}{β:Type _}{f:α→β}{a:α}{l:List α}:(a::l).map f=f a::l.map f:=List.map_cons
theorem hj(a:Nat):a.beq a=true:=Nat.beq_refl a
theorem cQ{α:Type _}{l:List α}:l.take 0=[]:=List.take_zero
end Go
namespace Go.Ab
inductive Loc where
 |l (i:Nat)
 |g (d i:Nat)
 deriving DecidableEq,Inhabited
inductive ga where
 |nil|exact |any
 |dW (a:Loc)
 deriving Inhabited
inductive ae where
 |dead
 |bool (b:Bool)
 |int (k:IntKind) (n:Int)
 |str (s:List Nat)
 |cm (sz:Nat) (es:List ae) (g:ga)
 |cD (a:Loc) (off len cap sz:Nat)
 |ref (a:Loc) (off:Nat)
 |bU (cs:List ae)
 |hv
 |fn (f:Nat) (dw:List ae)
 |hK
 |map (a:Loc)
 |eX
 |iface (t:Nat) (v:ae)
 |hx
 |agg (cs:List ae)
 |d7 (vs:List ae)
 |jQ (l:Nat)
 deriving Inhabited
inductive cO where
 |cells (cs:List ae)
 |tok (n:Nat)
 |map (es:List (ae×ae))
 |gone
 deriving Inhabited
structure ag where
 own:List cO
 up:List (List cO)
 ro:List (List cO)
 deriving Inhabited
def ag.aa(s:ag):Nat:=s.up.length+s.ro.length
inductive ah where
 |fail
 |ok (v:ae) (s:ag)
 |panic (v:ae) (s:ag)
 deriving Inhabited
inductive er where
 |e
 |n (l:er) (v:ae) (r:er)
 deriving Inhabited
def er.get:er→Nat→ae
 |.e,_=>.dead
 |.n l v r,i=>bif Nat.beq i 0 then v else bif Nat.beq (i%2) 1 then l.get ((i-1)/2) else r.get ((i-1)/2)
def er.iz:Nat→Nat→ae→(er→ah)→er→ah
 |0,_,_,_,_=>.fail
 |d+1,i,v,k,.e=>
  bif Nat.beq i 0 then k (.n .e v .e)
  else bif Nat.beq (i%2) 1 then er.iz d ((i-1)/2) v (fun l=>k (.n l .dead .e)) .e
  else er.iz d ((i-1)/2) v (fun r=>k (.n .e .dead r)) .e
 |d+1,i,v,k,.n l x r=>
  bif Nat.beq i 0 then k (.n l v r)
  else bif Nat.beq (i%2) 1 then er.iz d ((i-1)/2) v (fun l=>k (.n l x r)) l
  else er.iz d ((i-1)/2) v (fun r=>k (.n l x r)) r
inductive g6 where
 |e
 |n (l:g6) (b:Bool) (r:g6)
 deriving Inhabited
def er.ja:g6→(er→ah)→er→ah
 |.e,k,_=>k .e
 |.n h _ p,k,.e=>er.ja h (fun l=>er.ja p (fun r=>k (.n l .dead r)) .e) .e
 |.n h b p,k,.n l v r=>er.ja h (fun l=>er.ja p (fun r=>k (.n l (bif b then v else .dead) r)) r) l
inductive br where
 |t (n:Nat)
 |c (v:ae)
 |g (n:Nat)
 |at(t b off:Nat)
 |LG (b off:Nat)
 deriving Inhabited
inductive vn where
 |int (k:IntKind)|str|bool
 deriving DecidableEq,Inhabited
inductive LH where
 |bool|slice|ptr|func|map|iface
 |agg (h5:List vn)
 deriving DecidableEq,Inhabited
inductive fV where
 |move (x:br)
 |nl (x:br)
 |nm (x:br)
 |pick (c a b:br)
 |alloc (zero:List ae)
 |e7 (x:br)
 |ju (x:br)
 |build (zero:List ae) (parts:List (Nat×Nat×br))
 |buildSlice (sz:Nat) (parts:List br)
 |load (n:Option Nat) (a:br)
 |store (n:Nat) (a v:br)
 |nilCheck (x:br)
 |bin (op:BinOp) (x y:br)
 |eq (neg:Bool) (e:LH) (x y:br)
 |un (op:UnOp) (x:br)
 |kS (k:IntKind) (x:br)
 |nn (x:br)
 |gu (x:br)
 |iA (x:br)
 |jf (t:Nat) (x:br)
 |jU (f:Nat) (dw:List br)
 |makeSlice (zero:List ae) (bytes:Nat) (l c:br)
 |jV (x:br) (fW bN:Option br)
 |slice (sz:Nat) (x:br) (fW bN ii:Option br)
 |fieldAddr (off:Nat) (a:br)
 |field (off:Nat) (n:Option Nat) (x:br)
 |h7 (sz:Nat) (x i:br)
 |e8 (sz len:Nat) (x i:br)
 |ml (x i:br)
 |np (sz len:Nat) (n:Option Nat) (x i:br)
 |extract (x:br) (i:Nat)
 |call (f:Nat) (args:List br)
 |ee (f:br) (args:List br)
 |hI (f:Nat) (args:List br)
 |lj (f:br) (args:List br)
 |len (str:Bool) (x:br)
 |append (sz bytes:Nat) (at_:Option br) (s x:br)
 |copy (sz:Nat) (d s:br)
 |min (xs:List br)
 |max (xs:List br)
 |makeMap (at_:Option br)
 |mm (kb:vn) (m k v:br)
 |lookup (kb:vn) (zero:ae) (ok:Bool) (m k:br)
 |ts (neg:Bool) (x:br)
 |k6 (h5:List (Option Nat×br)) (f:Nat) (args:List br)
 |jv (h5:List (Option Nat×br)) (f:br) (args:List br)
 |ir (sz len:Nat) (x:br) (fW bN ii:Option br)
 |jg (sz bytes:Nat) (at_:Option br) (s x:br)
 |jh (sz bytes:Nat) (at_:Option br) (s x:br)
 |gi (sz:Nat) (parts:List br)
 |gj (sz:Nat) (parts:List br)
 |ji (sz bytes:Nat) (s x:br)
 |kG (m:Option Nat) (y:br) (n:Nat) (a v:br)
 |no
 deriving Inhabited
structure cB where
 dst:Option Nat
 guard:Option (Nat×Bool)
 op:fV
 deriving Inhabited
inductive ad where
 |skip
 |region (mH:Option (List (br×Nat×br×Nat))) (ops:List cB)
 |seq (a b:ad)
 |mask (m:g6) (a:ad)
 |cond (c:br) (ZO ZP:ad)
 |block (id:Nat) (body:ad)
 |loop (bC:g6) (body:ad)
 |exit (id:Nat)
 |scope (body:ad)
 |ret
 |range (j f:Nat) (g:br) (p:Nat) (assign body:ad)
 deriving Inhabited
inductive r2 where
 |t (n:Nat)
 |cell (a:Nat) (n:Option Nat)
 deriving Inhabited
structure dc where
 WT:Nat
 fy:Nat
 results:List r2
 bC:Bool
 body:ad
 deriving Inhabited
mutual
def ae.bj:ae→Bool
 |.cD .. |.ref .. |.map _=>false
 |.cm _ _ (.dW _)=>false
 |.bU cs|.fn _ cs|.agg cs|.d7 cs=>ae.a6 cs
 |.iface _ v=>v.bj
 |_=>true
def ae.a6:List ae→Bool
 |[]=>true
 |v::vs=>v.bj&&ae.a6 vs
end
def Loc.low(d:Nat):Loc→Bool
 |.l _=>false
 |.g e _=>Nat.ble e d
mutual
def ae.low(d:Nat):ae→Bool
 |.cD a _ _ _ _=>a.low d
 |.ref a _=>a.low d
 |.map a=>a.low d
 |.cm _ _ (.dW a)=>a.low d
 |.bU cs|.fn _ cs|.agg cs|.d7 cs=>ae.kc d cs
 |.iface _ v=>v.low d
 |_=>true
def ae.kc(d:Nat):List ae→Bool
 |[]=>true
 |v::vs=>v.low d&&ae.kc d vs
end
def Loc.aq(d:Nat):Loc→Loc
 |.l i=>.g d i
 |a=>a
def ga.aq(d:Nat):ga→ga
 |.dW a=>.dW (a.aq d)
 |g=>g
def ae.aq(d:Nat):ae→ae
 |.cm sz es g=>.cm sz es (g.aq d)
 |.cD a off len cap sz=>.cD (a.aq d) off len cap sz
 |.ref a off=>.ref (a.aq d) off
 |.map a=>.map (a.aq d)
 |v=>v
def ae.cells:ae→List ae
 |.agg cs=>cs
 |v=>[v]
def DB:ae→ae
 |.agg xs=>.agg [.agg xs]
 |c=>c
def mW(sz:Nat)(cs:List ae):ae:=
 match sz with
 |1=>DB (cs.getD 0 .dead)
 |_=>.agg (cs.take sz)
def chunk(sz:Nat):Nat→List ae→List ae
 |0,_=>[]
 |n+1,cs=>mW sz cs::chunk sz n (cs.drop sz)
def ag.get(s:ag):Loc→Option cO
 |.l i=>s.own[i]?
 |.g d i=>if d=s.aa then s.own[i]? else if d<s.aa then((s.up++s.ro)[s.aa-1-d]?).bind (·[i]?) else none
def ag.set(s:ag)(a:Loc)(o:cO):Option ag:=
 match a with
 |.l i=>some {s with own:=s.own.set i o}
 |.g d i=>
  if d=s.aa then some {s with own:=s.own.set i o}
  else if d<s.aa∧s.ro.length≤d then some {s with up:=s.up.modify (s.aa-1-d) (·.set i o)}
  else none
def ag.rz(s:ag):Loc→Bool
 |.l _=>true
 |.g d _=>d=s.aa
def ag.h8(s:ag)(a:Loc)(vs:List ae):Bool:=
 s.rz a||ae.a6 vs||(match a with
  |.g d _=>ae.kc d vs
  |.l _=>false)
def ag.new(s:ag)(o:cO):ag:={s with own:=s.own++[o]}
def ag.hk(s:ag)(a:Loc)(o:cO):Option (Loc×ag):=
 match a with
 |.l _=>some (.l s.own.length,s.new o)
 |.g d _=>
  if d=s.aa then some (.l s.own.length,s.new o)
  else if d<s.aa∧s.ro.length≤d then
   match s.up[s.aa-1-d]? with
   |some l=>some (.g d l.length,{s with up:=s.up.modify (s.aa-1-d) (· ++ [o])})
   |none=>none
  else none
def n1:Loc→Loc→Bool
 |.l i,.l j=>Nat.beq i j
 |.g d i,.g e j=>Nat.beq d e&&Nat.beq i j
 |_,_=>false
def R9:ae→Nat→ae
 |.ref a o,off=>.ref a (o+off)
 |_,_=>.dead
def Hc:ae→ae→Nat→ae
 |.ref a o,.ref fz o',off=>bif n1 a fz&&Nat.beq o (o'+off) then .ref a o else .dead
 |_,_,_=>.dead
theorem yy{a b:Loc}(h:n1 a b=true):a=b:=by
 cases a<;> cases b<;> simp [n1] at h
 ·rw[h]
 ·rw[h.1,h.2]
theorem DC(x y:ae)(off:Nat):Hc x y off=.dead∨(Hc x y off=x∧Hc x y off=R9 y off):=by
 cases x<;> cases y<;> try exact .inl rfl
 ·rename_i a o fz o';have e:Hc (.ref a o) (.ref fz o') off=bif n1 a fz&&Nat.beq o (o'+off) then .ref a o else .dead:=rfl
  rw[e];cases h:n1 a fz&&Nat.beq o (o'+off) with
  |false=>exact .inl rfl
  |true=>simp only[bm] at h;have ar:=yy h.1;have ay:=c4 h.2;subst ar ay;exact .inr ⟨rfl,rfl⟩
def ap(G:Nat→ae)(an:Nat→ae):br→ae
 |.t n=>an n
 |.c v=>v
 |.g n=>G n
 |.at t b off=>Hc (an t) (an b) off
 |.LG b off=>R9 (an b) off
def n2:ae→ae
 |.cm sz es (.dW a)=>bif ae.a6 es then .cm sz es .any else .cm sz es (.dW a)
 |v=>v
def iB(an:er)(d:Option Nat)(v:ae)(k:er→ah):ah:=
 match d with
 |some n=>an.iz 12 n v k
 |none=>k an
structure aN where
 LI:ae→(ae→ah)→ah
 v1:ae→(ae→ah)→ah
 l:List ae→(List ae→ah)→ah
 s:ag→(ag→ah)→ah
def aN.not:aN:={LI:=fun v k=>k v,v1:=fun v k=>k v,l:=fun v k=>k v,s:=fun v k=>k v}
def eD:ae→Option Nat
 |.int _ n=>if 0≤n then some n.toNat else none
 |_=>none
def dD(s:ag):ae→Option (Nat×List ae)
 |.cm sz es (.dW _)=>if ae.a6 es then some (sz,es) else none
 |.cm sz es _=>some (sz,es)
 |.str eB=>some (1,eB.map fun b=>.int .u8 (b:Nat))
 |.cD a off len _ sz=>
  match s.get a with
  |some (.cells cs)=>let es:=chunk sz len (cs.drop off);if ae.a6 es&&Nat.ble (off+len*sz) cs.length&& !Nat.beq sz 0 then some (sz,es) else none
  |_=>none
 |_=>none
def iC:List ae→List ae→Option Bool
 |[],[]=>some true
 |.int k a::xs,.int lk b::e=>if k=lk then(iC xs e).map ((a==b)&& ·) else none
 |.bool a::xs,.bool b::e=>(iC xs e).map ((a==b)&& ·)
 |.str a::xs,.str b::e=>(iC xs e).map ((a==b)&& ·)
 |_,_=>none
def jj:List Nat→List Nat→Bool
 |_,[]=>false
 |[],_::_=>true
 |a::x,b::y=>Nat.blt a b||(Nat.beq a b&&jj x y)
def f3(op:BinOp)(k:IntKind)(a b:Int):Option ae:=
 match op with
 |.add=>some (.int k (k.wrap (a+b)))
 |.sub=>some (.int k (k.wrap (a-b)))
 |.mul=>some (.int k (k.wrap (a*b)))
 |.quo=>if b=0 then none else some (.int k (k.wrap (a.tdiv b)))
 |.rem=>if b=0 then none else some (.int k (a.tmod b))
 |.and=>some (.int k (k.wrap (BitVec.ofInt k.bits a &&& BitVec.ofInt k.bits b).toNat))
 |.or=>some (.int k (k.wrap (BitVec.ofInt k.bits a ||| BitVec.ofInt k.bits b).toNat))
 |.xor=>some (.int k (k.wrap (BitVec.ofInt k.bits a ^^^ BitVec.ofInt k.bits b).toNat))
 |.andNot=>some (.int k (k.wrap (BitVec.ofInt k.bits a &&& ~~~BitVec.ofInt k.bits b).toNat))
 |.eql=>some (.bool (a==b))
 |.neq=>some (.bool (a != b))
 |.lss=>some (.bool (a<b))
 |.leq=>some (.bool (a≤b))
 |.gtr=>some (.bool (a>b))
 |.geq=>some (.bool (a≥b))
 |_=>none
def ll(op:BinOp)(k:IntKind)(a b:Int):Option ae:=
 if b<0 then none else
 match op with
 |.shl=>some (.int k (k.wrap (a*2^(min b.toNat k.bits))))
 |.shr=>some (.int k (a.fdiv (2^(min b.toNat k.bits))))
 |_=>none
def s4(op:BinOp)(x y:List Nat):Option ae:=
 match op with
 |.add=>if Nat.ble (x.length+y.length) 1099511627776 then some (.str (x++y)) else none
 |.eql=>some (.bool (x==y))
 |.neq=>some (.bool (!(x==y)))
 |.lss=>some (.bool (jj x y))
 |.leq=>some (.bool (jj x y||x==y))
 |.gtr=>some (.bool (!(jj x y||x==y)))
 |.geq=>some (.bool (!jj x y))
 |_=>none
def isNil:ae→Option Bool
 |.hv|.hK|.eX|.hx=>some true
 |.cm _ _ .nil=>some true
 |.cm _ _ .exact |.cm _ _ .any|.cm _ _ (.dW _)|.cD .. |.ref .. |.bU _|.fn .. |.map _|.iface ..=>some false
 |_=>none
def gA:LH→ae→Bool
 |.slice,.cm .. |.slice,.cD ..=>true
 |.ptr,.hv|.ptr,.ref .. |.ptr,.bU _=>true
 |.func,.hK|.func,.fn ..=>true
 |.map,.eX|.map,.map _=>true
 |.iface,.hx|.iface,.iface ..=>true
 |_,_=>false
def eN:List vn→List ae→Bool
 |[],[]=>true
 |.int k::h5,.int lk _::xs=>decide (lk=k)&&eN h5 xs
 |.str::h5,.str _::xs=>eN h5 xs
 |.bool::h5,.bool _::xs=>eN h5 xs
 |_,_=>false
def pt(e:LH)(x y:ae):Option Bool:=
 match e with
 |.bool=>
  match x,y with
  |.bool a,.bool b=>some (a==b)
  |_,_=>none
 |.agg h5=>
  match x,y with
  |.agg xs,.agg h=>bif eN h5 xs&&eN h5 h then iC xs h else none
  |_,_=>none
 |e=>
  bif gA e x&&gA e y then
   match isNil x,isNil y with
   |some true,some b=>bif b&&decide (e=.iface) then none else some b
   |some false,some true=>some false
   |_,_=>none
  else none
def w4(neg:Bool):ae→Option ae
 |.hx=>some (.bool (!neg))
 |.iface ..=>some (.bool neg)
 |_=>none
def ao(op:BinOp)(x y:ae):Option ae:=
 match op,x,y with
 |.shl,.int k a,.int _ b=>ll .shl k a b
 |.shr,.int k a,.int _ b=>ll .shr k a b
 |op,.int k a,.int lk b=>if k=lk then f3 op k a b else none
 |op,.str a,.str b=>s4 op a b
 |_,_,_=>none
def kl(op:UnOp)(x:ae):Option ae:=
 match op,x with
 |.neg,.int k n=>some (.int k (k.wrap (0-n)))
 |.xor,.int k n=>some (.int k (k.wrap (BitVec.ofInt k.bits (if k.signed then -1 else k.max) ^^^ BitVec.ofInt k.bits n).toNat))
 |.not,.bool b=>some (.bool (!b))
 |_,_=>none
def min2(x y:ae):Option ae:=
 match x,y with
 |.int k a,.int _ b=>some (.int k (if b<a then b else a))
 |_,_=>none
def max2(x y:ae):Option ae:=
 match x,y with
 |.int k a,.int _ b=>some (.int k (if b>a then b else a))
 |_,_=>none
def tt(f:ae→ae→Option ae):ae→List ae→Option ae
 |x,[]=>some x
 |x,y::e=>(f x y).bind fun z=>tt f z e
def dv(G:Nat→ae)(an:Nat→ae)(o:Option br)(e:Nat):Option Nat:=
 match o with
 |none=>some e
 |some x=>eD (ap G an x)
def hR(es:List ae):Option (List Nat):=
 match es with
 |[]=>some []
 |.int .u8 n::es=>if n.toNat<256 then(hR es).map (n.toNat:: ·) else none
 |_=>none
def dO{α:Type}(cs:List α)(off:Nat)(vs:List α):List α:=
 match vs with
 |[]=>cs
 |v::vs=>dO (cs.set off v) (off+1) vs
def ae.fj:ae→Bool
 |.dead|.d7 _=>false
 |_=>true
def ae.eO:ae→Bool
 |.dead|.d7 _|.agg _=>false
 |_=>true
def eY(G:Nat→ae)(d:Nat)(an:Nat→ae):List ae→List (Nat×Nat×br)→Option (List ae)
 |cs,[]=>some cs
 |cs,(off,sz,x)::eo=>
  let v:=(ap G an x).aq d
  bif v.fj&&Nat.beq v.cells.length sz&&Nat.ble (off+sz) cs.length then eY G d an (dO cs off v.cells) eo else none
def pS(G:Nat→ae)(an:Nat→ae):br×Nat×br×Nat→Bool
 |(x,n,y,m)=>
  match ap G an x,ap G an y with
  |.ref (.l i) o,.ref (.l j) q=> !Nat.beq i j||Nat.ble (o+n) q||Nat.ble (q+m) o
  |.bU _,.ref ..=>true
  |_,_=>false
inductive pu where
 |norm|exit (id:Nat)|ret|panic (v:ae)
 deriving Inhabited
abbrev hc:=pu→er→ag→ah
abbrev mg:=er→ag→hc→ah
def hL(g:mg)(k:hc):hc:=fun x an s=>
 match x with
 |.norm=>g an s k
 |x=>k x an s
def BA(g:mg)(k:hc):hc:=fun x an s=>
 match x with
 |.norm=>g an s k
 |_=>.fail
def fk(m:g6)(g:mg)(k:hc):hc:=fun x an s=>
 match x with
 |.norm=>er.ja m (fun an=>g an s k) an
 |x=>k x an s
def eP(id:Nat)(k:hc):hc:=fun x an s=>
 match x with
 |.exit j=>bif Nat.beq j id then k .norm an s else k (.exit j) an s
 |x=>k x an s
def dF(step:mg)(bC:g6):Nat→mg
 |0,_,_,_=>.fail
 |n+1,an,s,k=>step an s (fk bC (dF step bC n) k)
structure Env where
 F:aN
 au:Nat→ae
 call:Nat→List ae→ag→ah
 loop:mg→g6→mg
def Loc.same:Loc→Loc→Bool
 |.l i,.l j=>Nat.beq i j
 |.g d i,.g e j=>Nat.beq d e&&Nat.beq i j
 |_,_=>false
def ga.same:ga→ga→Bool
 |.nil,.nil|.exact,.exact |.any,.any=>true
 |.dW a,.dW b=>a.same b
 |_,_=>false
mutual
def ae.same:ae→ae→Bool
 |.jQ l,.jQ m=>Nat.beq l m
 |.dead,.dead|.hv,.hv|.hK,.hK|.eX,.eX|.hx,.hx=>true
 |.bool a,.bool b=>a==b
 |.int k a,.int lk b=>decide (k=lk)&&a==b
 |.str a,.str b=>a==b
 |.cm z a g,.cm St b g'=>Nat.beq z St&&g.same g'&&ae.k7 a b
 |.cD a x y z q,.cD fz kH s5 St pv=>a.same fz&&Nat.beq x kH&&Nat.beq y s5&&Nat.beq z St&&Nat.beq q pv
 |.ref a x,.ref fz kH=>a.same fz&&Nat.beq x kH
 |.bU a,.bU b=>ae.k7 a b
 |.fn f a,.fn vo b=>Nat.beq f vo&&ae.k7 a b
 |.map a,.map b=>a.same b
 |.iface t v,.iface LC fp=>Nat.beq t LC&&v.same fp
 |.agg a,.agg b=>ae.k7 a b
 |.d7 a,.d7 b=>ae.k7 a b
 |_,_=>false
def ae.k7:List ae→List ae→Bool
 |[],[]=>true
 |a::as,b::eB=>a.same b&&ae.k7 as eB
 |_,_=>false
end
def hS(G:Nat→ae)(an:Nat→ae):Option br→Option Loc
 |none=>some (.l 0)
 |some x=>
  match ap G an x with
  |.ref a _=>some a
  |.map a=>some a
  |_=>none
def rA:ae→ae→Option Bool
 |.int k a,.int lk b=>if k=lk then some (a==b) else none
 |.str a,.str b=>some (a==b)
 |.bool a,.bool b=>some (a==b)
 |_,_=>none
def isKey:vn→ae→Bool
 |.int k,.int lk _=>decide (lk=k)
 |.str,.str _=>true
 |.bool,.bool _=>true
 |_,_=>false
def findKey(k:ae):List (ae×ae)→Option (Option ae)
 |[]=>some none
 |(x,v)::es=>
  match rA k x with
  |some true=>some (some v)
  |some false=>findKey k es
  |none=>none
def putKey(k v:ae):List (ae×ae)→Option (List (ae×ae))
 |[]=>some [(k,v)]
 |(x,u)::es=>
  match rA k x with
  |some true=>some ((x,v)::es)
  |some false=>(putKey k v es).map ((x,u):: ·)
  |none=>none
section
variable(E:Env)(an:Nat→ae)(s:ag)(k kp:ae→ag→ah)
def pQ(v:Option ae):ah:=
 match v with
 |some v=>E.F.v1 v fun v=>k v s
 |none=>.fail
def ew(m:Option Nat)(cs:List ae):ah:=
 match m with
 |none=>match cs with
  |c::_=>E.F.LI c fun v=>k v s
  |[]=>.fail
 |some n=>bif Nat.ble n cs.length then E.F.v1 (.agg (cs.take n)) fun v=>k v s else .fail
def iT(a:Loc)(off:Nat)(vs:List ae):ah:=
 match s.get a with
 |some (.cells cs)=>
  bif Nat.ble (off+vs.length) cs.length&&s.h8 a vs&&vs.all ae.eO then
   E.F.l (dO cs off vs) fun cs=>
   match s.set a (.cells cs) with
   |some s=>E.F.s s fun s=>k .dead s
   |none=>.fail
  else .fail
 |_=>.fail
def jk(x:ae)(fW bN:Option br):ah:=
 match x with
 |.str eB=>
  match dv E.au an fW 0,dv E.au an bN eB.length with
  |some l,some h=>bif Nat.ble l h&&Nat.ble h eB.length then E.F.v1 (.str ((eB.drop l).take (h-l))) fun v=>k v s else .fail
  |_,_=>.fail
 |_=>.fail
def oM(g:ga)(l h:Nat)(es:List ae):Bool:=
 match g with
 |.dW _=>(Nat.beq l 0&&Nat.beq h es.length)||ae.a6 es
 |_=>true
def tu(g:ga)(es:List ae):Bool:=
 match g with
 |.dW _=>ae.a6 es
 |_=>true
def jw(z:Nat)(x:ae)(fW bN ii:Option br):ah:=
 match x with
 |.cm sz es g=>
  match dv E.au an fW 0,dv E.au an bN es.length with
  |some l,some h=>
   match ii with
   |none=>
    bif Nat.beq z sz&&Nat.ble l h&&Nat.ble h es.length&&oM g l h es then
     E.F.v1 (.cm sz ((es.drop l).take (h-l)) (match g with
      |.nil=>.nil
      |.exact=>if h=es.length then .exact else .any
      |.dW a=>if l=0∧h=es.length then .dW a else .any
      |.any=>.any)) fun v=>k v s
    else .fail
   |some x=>
    match eD (ap E.au an x),g with
    |_,.nil=>.fail
    |some m,_=>bif Nat.beq z sz&&Nat.ble l h&&Nat.ble h m&&Nat.ble m es.length&&tu g es then E.F.v1 (.cm sz ((es.drop l).take (h-l)) (if h=m then .exact else .any)) fun v=>k v s else .fail
    |_,_=>.fail
  |_,_=>.fail
 |.cD a off len cap sz=>
  match dv E.au an fW 0,dv E.au an bN len,dv E.au an ii cap with
  |some l,some h,some m=>bif Nat.beq z sz&&Nat.ble l h&&Nat.ble h m&&Nat.ble m cap&&Nat.ble len cap then E.F.v1 (.cD a (if m=l then off else off+l*sz) (h-l) (m-l) sz) fun v=>k v s else .fail
  |_,_,_=>.fail
 |_=>.fail
def iD(q bytes:Nat)(b:Loc)(x y:ae):ah:=
 match dD s y with
 |none=>.fail
 |some (z,new)=>
  match x with
  |.cm sz es g=>
   bif Nat.beq z q&&Nat.beq sz q&&Nat.ble ((es.length+new.length)*bytes) 1099511627776 then
    match new with
    |[]=>k (.cm sz es g) s
    |_::_=>
     match g with
     |.nil|.exact=>
      match s.hk b (.tok (es.length+new.length)) with
      |some (l,s)=>E.F.v1 (.cm sz (es++new) (.dW l)) fun v=>E.F.s s fun s=>k v s
      |none=>.fail
     |.dW a=>
      match s.get a with
      |some (.tok n)=>
       bif Nat.beq n es.length&&(new.flatMap ae.cells).all ae.eO then
        match s.set a (.tok (es.length+new.length)) with
        |some s=>E.F.v1 (.cm sz (es++new) (.dW a)) fun v=>E.F.s s fun s=>k v s
        |none=>.fail
       else .fail
      |_=>.fail
     |.any=>.fail
   else .fail
  |.cD a off len cap sz=>
   match s.get a with
   |some (.cells cs)=>
    bif Nat.beq z q&&Nat.beq sz q&&Nat.ble (len+new.length) cap&&Nat.ble (off+(len+new.length)*sz) cs.length&&s.h8 a new&&(new.flatMap ae.cells).all ae.eO then
     E.F.l (dO cs (off+len*sz) (new.flatMap ae.cells)) fun cs=>
     match s.set a (.cells cs) with
     |some s=>E.F.v1 (.cD a off (len+new.length) cap sz) fun v=>E.F.s s fun s=>k v s
     |none=>.fail
    else .fail
   |_=>.fail
  |_=>.fail
def rB(s:ag)(l:Loc)(vs:List ae):Bool:=
 match l with
 |.l _=>ae.kc s.aa vs
 |.g d _=>ae.kc d vs
def jF(q bytes:Nat)(b:Loc)(x y:ae):ah:=
 match y with
 |.cm z new _=>
  match x with
  |.cm sz es g=>
   bif Nat.beq z q&&Nat.beq sz q&&Nat.ble ((es.length+new.length)*bytes) 1099511627776 then
    match new with
    |[]=>.fail
    |_::_=>
     match g with
     |.nil=>
      bif rB s b new then
       match s.hk b (.tok (es.length+new.length)) with
       |some (l,s)=>E.F.v1 (.cm sz (es++new) (.dW l)) fun v=>E.F.s s fun s=>k v s
       |none=>.fail
      else .fail
     |.dW a=>
      match s.get a with
      |some (.tok n)=>
       bif Nat.beq n es.length&&(new.flatMap ae.cells).all ae.eO&&rB s a new then
        match s.set a (.tok (es.length+new.length)) with
        |some s=>E.F.v1 (.cm sz (es++new) (.dW a)) fun v=>E.F.s s fun s=>k v s
        |none=>.fail
       else .fail
      |_=>.fail
     |_=>.fail
   else .fail
  |_=>.fail
 |_=>.fail
def mI(s:ag):ae→ae
 |.cD (.g d i) o l c z=>bif Nat.beq d s.aa then .cD (.l i) o l c z else .cD (.g d i) o l c z
 |v=>v
def lF(q bytes:Nat)(x y:ae):ah:=
 match dD s y with
 |none=>.fail
 |some (z,new)=>
  match new with
  |[]=>.fail
  |_::_=>
   match x with
   |.cm sz [] .nil=>
    bif Nat.beq z q&&Nat.beq sz q&&Nat.ble (new.length*bytes) 1099511627776&&(new.flatMap ae.cells).all ae.eO then
     E.F.l (new.flatMap ae.cells) fun cs=>E.F.v1 (.cD (.l s.own.length) 0 new.length 0 q) fun v=>E.F.s (s.new (.cells cs)) fun s=>k v s
    else .fail
   |.cD (.l i) 0 len 0 sz=>
    match s.own[i]? with
    |some (.cells cs)=>
     bif Nat.beq z q&&Nat.beq sz q&&Nat.beq cs.length (len*q)&& !Nat.beq len 0&&Nat.ble ((len+new.length)*bytes) 1099511627776&&(new.flatMap ae.cells).all ae.eO&& !Nat.beq q 0 then
      E.F.l (cs++new.flatMap ae.cells) fun cs=>E.F.v1 (.cD (.l s.own.length) 0 (len+new.length) 0 q) fun v=>E.F.s {s with own:=s.own.set i .gone++[.cells cs]} fun s=>k v s
     else .fail
    |_=>.fail
   |_=>.fail
def kd(sz:Nat)(x:ae)(i:ae):ah:=
 match eD i with
 |none=>.fail
 |some i=>
  match x with
  |.cm z es _=>
   bif Nat.beq z sz then
    match es[i]? with
    |some e=>E.F.v1 (.bU e.cells) fun v=>k v s
    |none=>.fail
   else .fail
  |.cD a off len _ z=>bif Nat.beq z sz&&Nat.blt i len then E.F.v1 (.ref a (off+i*sz)) fun v=>k v s else .fail
  |_=>.fail
def hy(sz len:Nat)(x:ae)(i:ae):ah:=
 match eD i with
 |none=>.fail
 |some i=>
  bif Nat.blt i len then
   match x with
   |.bU cs=>E.F.v1 (.bU (cs.drop (i*sz))) fun v=>k v s
   |.ref a off=>E.F.v1 (.ref a (off+i*sz)) fun v=>k v s
   |_=>.fail
  else .fail
def ee(f:Nat)(args:List ae):ah:=
 match E.call f args s with
 |.ok v s'=>bif Nat.beq s'.aa s.aa then k v s' else .fail
 |.panic v s'=>kp v s'
 |.fail=>.fail
def cellsOf(v:ae):Option (List ae):=
 match v with
 |.bU cs=>some cs
 |.ref a off=>
  match s.get a with
  |some (.cells cs)=>some (cs.drop off)
  |_=>none
 |_=>none
def eE(s:ag)(n:Option Nat)(v:ae):Option (List ae):=(cellsOf s v).map fun cs=>cs.take (n.getD 1)
def nq:Option (List ae)→Option (List ae)→Bool
 |some a,some b=>ae.k7 a b
 |_,_=>false
def hO(xs:List (Option Nat×ae))(f:Nat)(args:List ae):ah:=
 ee E s (fun v s'=>bif xs.all fun x=>nq (eE s x.1 x.2) (eE s' x.1 x.2) then k v s' else .fail) kp f args
def hd(f:Nat)(args:List ae):ah:=
 bif ae.a6 args then
  match E.call f args {own:=[],up:=[],ro:=[]} with
  |.ok v _=>bif v.bj then k v s else .fail
  |_=>.fail
 else .fail
def dP(n:Option Nat)(v:ae):ah:=
 match v with
 |.bU cs=>ew E s k n cs
 |.ref a off=>
  match s.get a with
  |some (.cells cs)=>ew E s k n (cs.drop off)
  |_=>.fail
 |_=>.fail
def gv(off:Nat)(v:ae):ah:=
 match v with
 |.bU cs=>E.F.v1 (.bU (cs.drop off)) fun v=>k v s
 |.ref a o=>E.F.v1 (.ref a (o+off)) fun v=>k v s
 |_=>.fail
def lm(off:Nat)(n:Option Nat)(v:ae):ah:=
 match v with
 |.agg cs=>ew E s k n (cs.drop off)
 |_=>.fail
def hT(v i:ae):ah:=
 match v with
 |.str eB=>
  match eD i with
  |some i=>
   match eB[i]? with
   |some b=>E.F.v1 (.int .u8 b) fun v=>k v s
   |none=>.fail
  |none=>.fail
 |_=>.fail
def jW(sz len:Nat)(n:Option Nat)(v i:ae):ah:=
 match v with
 |.agg cs=>
  match eD i with
  |some i=>bif Nat.blt i len then ew E s k n (cs.drop (i*sz)) else .fail
  |none=>.fail
 |_=>.fail
def jG(i:Nat)(v:ae):ah:=
 match v with
 |.d7 vs=>pQ E s k vs[i]?
 |_=>.fail
def o0(str:Bool)(v:ae):ah:=
 match str,v with
 |true,.str eB=>E.F.v1 (.int .i64 eB.length) fun v=>k v s
 |false,.cm _ es _=>E.F.v1 (.int .i64 es.length) fun v=>k v s
 |false,.cD _ _ n _ _=>E.F.v1 (.int .i64 n) fun v=>k v s
 |_,_=>.fail
def copyV(d x:ae):ah:=
 match d with
 |.cD a off len _ sz=>
  match dD s x with
  |some (z,es)=>
   match s.get a with
   |some (.cells cs)=>
    bif Nat.beq z sz&&Nat.ble (off+len*sz) cs.length&&((es.take (min es.length len)).flatMap ae.cells).all ae.eO then
     E.F.l (dO cs off ((es.take (min es.length len)).flatMap ae.cells)) fun cs=>
     match s.set a (.cells cs) with
     |some s=>E.F.v1 (.int .i64 (min es.length len:Nat)) fun v=>E.F.s s fun s=>k v s
     |none=>.fail
    else .fail
   |_=>.fail
  |none=>.fail
 |_=>.fail
def ln(q:Nat)(d x:ae):ah:=
 match d with
 |.cD a off len cap sz=>bif Nat.beq sz q then copyV E s k (.cD a off len cap sz) x else .fail
 |_=>.fail
def mJ(zero:List ae)(bytes:Nat)(l c:ae):ah:=
 match eD l with
 |some l=>
  match eD c with
  |some c=>
   bif Nat.ble l c&&Nat.ble (c*bytes) 1099511627776 then
    E.F.l (List.replicate c zero).flatten fun cs=>E.F.v1 (.cD (.l s.own.length) 0 l c zero.length) fun v=>E.F.s (s.new (.cells cs)) fun s=>k v s
   else .fail
  |none=>.fail
 |none=>.fail
def fr(n:Nat)(a v:ae):ah:=
 match a with
 |.ref a off=>bif v.fj&&Nat.beq v.cells.length n then iT E s k a off v.cells else .fail
 |_=>.fail
def kT(m:Option Nat)(y:ae)(n:Nat)(a v:ae):ah:=
 fr E s (fun u t=>bif nq (eE s m y) (eE t m y) then k u t else .fail) n a v
def jH(d:IntKind)(v:ae):ah:=
 match v with
 |.int _ n=>E.F.v1 (.int d (d.wrap n)) fun v=>k v s
 |_=>.fail
def lP(v:ae):ah:=
 match v with
 |.str eB=>k (.str eB) s
 |_=>.fail
def gW(v:ae):ah:=
 match v with
 |.str eB=>E.F.v1 (.cm 1 (eB.map fun b=>.int .u8 (b:Nat)) .any) fun v=>k v s
 |_=>.fail
def gk(v:ae):ah:=
 match v with
 |.str _=>.fail
 |v=>
  match dD s v with
  |some (_,es)=>pQ E s k ((hR es).map .str)
  |none=>.fail
def mK(c a b:ae):ah:=
 match c with
 |.bool t=>E.F.LI (bif t then a else b) fun v=>k v s
 |_=>.fail
def iE(v:ae):ah:=
 match isNil v with
 |some false=>E.F.LI v fun v=>k v s
 |_=>.fail
def kI(v:ae):ah:=
 match mI s v with
 |.cD (.l i) 0 len cap sz=>
  match s.own[i]? with
  |some (.cells cs)=>
   bif ae.a6 (chunk sz len cs)&&Nat.ble (cap*sz) cs.length&&Nat.ble len cap&& !Nat.beq sz 0&& !Nat.beq len 0 then
    E.F.v1 (.cm sz (chunk sz len cs) (.dW (.l s.own.length))) fun v=>E.F.s {s with own:=s.own.set i .gone++[.tok len]} fun s=>k v s
   else .fail
  |_=>.fail
 |_=>.fail
def hz(sz:Nat)(es:List ae):ah:=
 bif ae.a6 es&&es.all (fun e=>e.fj&&Nat.beq e.cells.length sz) then E.F.v1 (.cm sz es .exact) fun v=>k v s else .fail
def jl(sz:Nat)(es:List ae):ah:=
 bif ae.kc s.aa es&&es.all (fun e=>e.fj&&Nat.beq e.cells.length sz) then
  E.F.v1 (.cm sz es (.dW (.l s.own.length))) fun v=>E.F.s (s.new (.tok es.length)) fun s=>k v s
 else .fail
def jm(sz:Nat)(es:List ae):ah:=
 bif es.all (fun e=>e.fj&&Nat.beq e.cells.length sz) then
  E.F.l (es.flatMap ae.cells) fun cs=>E.F.v1 (.cD (.l s.own.length) 0 es.length es.length sz) fun v=>E.F.s (s.new (.cells cs)) fun s=>k v s
 else .fail
def kJ(f:ae)(args:List ae):ah:=
 match f with
 |.fn f dw=>E.F.l (args++dw) fun args=>ee E s k kp f args
 |_=>.fail
def jn(f:ae)(args:List ae):ah:=
 match f with
 |.fn f dw=>E.F.l (args++dw) fun args=>hd E s k f args
 |_=>.fail
def jX(xs:List (Option Nat×ae))(f:ae)(args:List ae):ah:=
 match f with
 |.fn f dw=>E.F.l (args++dw) fun args=>hO E s k kp xs f args
 |_=>.fail
def kK(f:ae→ae→Option ae)(xs:List ae):ah:=
 match xs with
 |x::xs=>pQ E s k (tt f x xs)
 |[]=>.fail
def hp(q bytes:Nat)(b:Option Loc)(x y:ae):ah:=
 match b with
 |some b=>iD E s k q bytes b x y
 |none=>.fail
def km(q bytes:Nat)(b:Option Loc)(x y:ae):ah:=
 match x with
 |.cm sz es g=>hp E s k q bytes b (.cm sz es g) y
 |_=>.fail
def lQ(q bytes:Nat)(b:Option Loc)(x y:ae):ah:=
 match b with
 |some b=>jF E s k q bytes b x y
 |none=>.fail
def ie(z n:Nat)(x:ae)(fW bN ii:Option br):ah:=
 match x with
 |.ref a off=>
  match dv E.au an fW 0,dv E.au an bN n,dv E.au an ii n with
  |some l,some h,some m=>bif Nat.ble l h&&Nat.ble h m&&Nat.ble m n then E.F.v1 (.cD a (if m=l then off else off+l*z) (h-l) (m-l) z) fun v=>k v s else .fail
  |_,_,_=>.fail
 |_=>.fail
def lG(b:Option Loc):ah:=
 match b with
 |some b=>
  match s.hk b (.map []) with
  |some (l,s)=>E.F.v1 (.map l) fun v=>E.F.s s fun s=>k v s
  |none=>.fail
 |none=>.fail
def kU(kb:vn)(m x v:ae):ah:=
 match m with
 |.map a=>
  match s.get a with
  |some (.map es)=>
   bif isKey kb x&&v.fj&&s.h8 a [x,v] then
    match putKey x v es with
    |some es=>
     match s.set a (.map es) with
     |some s=>E.F.s s fun s=>k .dead s
     |none=>.fail
    |none=>.fail
   else .fail
  |_=>.fail
 |_=>.fail
def entriesOf:ae→Option (List (ae×ae))
 |.eX=>some []
 |.map a=>
  match s.get a with
  |some (.map es)=>some es
  |_=>none
 |_=>none
def kV(kb:vn)(zero:ae)(ok:Bool)(m x:ae):ah:=
 bif isKey kb x then
  match entriesOf s m with
  |some es=>
   match findKey x es with
   |some (some v)=>E.F.v1 (bif ok then .d7 [v,.bool true] else v) fun v=>k v s
   |some none=>E.F.v1 (bif ok then .d7 [zero,.bool false] else zero) fun v=>k v s
   |none=>.fail
  |none=>.fail
 else .fail
def aE(op:fV):ah:=
 match op with
 |.move x=>E.F.LI (ap E.au an x) fun v=>k v s
 |.nm x=>E.F.LI (n2 (ap E.au an x)) fun v=>k v s
 |.pick c a b=>mK E s k (ap E.au an c) (ap E.au an a) (ap E.au an b)
 |.alloc zero=>E.F.v1 (.ref (.l s.own.length) 0) fun v=>E.F.s (s.new (.cells zero)) fun s=>k v s
 |.e7 x=>bif (ap E.au an x).fj then E.F.v1 (.bU ((ap E.au an x).aq s.aa).cells) fun v=>k v s else .fail
 |.ju x=>bif (ap E.au an x).fj then E.F.l ((ap E.au an x).aq s.aa).cells fun cs=>E.F.v1 (.ref (.l s.own.length) 0) fun v=>E.F.s (s.new (.cells cs)) fun s=>k v s else .fail
 |.build zero parts=>pQ E s k ((eY E.au s.aa an zero parts).map .agg)
 |.buildSlice sz parts=>hz E s k sz (parts.map (ap E.au an))
 |.nl x=>kI E s k (ap E.au an x)
 |.load n a=>dP E s k n (ap E.au an a)
 |.store n a v=>fr E s k n (ap E.au an a) ((ap E.au an v).aq s.aa)
 |.kG m y n a v=>kT E s k m (ap E.au an y) n (ap E.au an a) ((ap E.au an v).aq s.aa)
 |.nilCheck x=>iE E s k (ap E.au an x)
 |.bin op x y=>pQ E s k (ao op (ap E.au an x) (ap E.au an y))
 |.eq neg e x y=>pQ E s k ((pt e (ap E.au an x) (ap E.au an y)).map fun b=>.bool (bif neg then !b else b))
 |.un op x=>pQ E s k (kl op (ap E.au an x))
 |.kS d x=>jH E s k d (ap E.au an x)
 |.nn x=>lP s k (ap E.au an x)
 |.gu x=>gk E s k (ap E.au an x)
 |.iA x=>gW E s k (ap E.au an x)
 |.jf t x=>E.F.v1 (.iface t ((ap E.au an x).aq s.aa)) fun v=>k v s
 |.jU f dw=>E.F.v1 (.fn f (dw.map fun x=>(ap E.au an x).aq s.aa)) fun v=>k v s
 |.makeSlice zero bytes l c=>mJ E s k zero bytes (ap E.au an l) (ap E.au an c)
 |.jV x fW bN=>jk E an s k (ap E.au an x) fW bN
 |.slice z x fW bN ii=>jw E an s k z (ap E.au an x) fW bN ii
 |.fieldAddr off a=>gv E s k off (ap E.au an a)
 |.field off n x=>lm E s k off n (ap E.au an x)
 |.h7 sz x i=>kd E s k sz (ap E.au an x) (ap E.au an i)
 |.e8 sz len x i=>hy E s k sz len (ap E.au an x) (ap E.au an i)
 |.ml x i=>hT E s k (ap E.au an x) (ap E.au an i)
 |.np sz len n x i=>jW E s k sz len n (ap E.au an x) (ap E.au an i)
 |.extract x i=>jG E s k i (ap E.au an x)
 |.call f args=>E.F.l (args.map fun x=>(ap E.au an x).aq s.aa) fun args=>ee E s k kp f args
 |.ee f args=>kJ E s k kp (ap E.au an f) (args.map fun x=>(ap E.au an x).aq s.aa)
 |.hI f args=>E.F.l (args.map fun x=>(ap E.au an x).aq s.aa) fun args=>hd E s k f args
 |.lj f args=>jn E s k (ap E.au an f) (args.map fun x=>(ap E.au an x).aq s.aa)
 |.len b x=>o0 E s k b (ap E.au an x)
 |.append q bytes b x y=>hp E s k q bytes (hS E.au an b) (ap E.au an x) (ap E.au an y)
 |.copy q d x=>ln E s k q (ap E.au an d) (ap E.au an x)
 |.min xs=>kK E s k min2 (xs.map fun x=>(ap E.au an x).aq s.aa)
 |.max xs=>kK E s k max2 (xs.map fun x=>(ap E.au an x).aq s.aa)
 |.makeMap b=>lG E s k (hS E.au an b)
 |.mm kb m x v=>kU E s k kb (ap E.au an m) ((ap E.au an x).aq s.aa) ((ap E.au an v).aq s.aa)
 |.lookup kb zero ok m x=>kV E s k kb zero ok (ap E.au an m) ((ap E.au an x).aq s.aa)
 |.k6 h5 f args=>E.F.l (args.map fun x=>(ap E.au an x).aq s.aa) fun args=>hO E s k kp (h5.map fun x=>(x.1,ap E.au an x.2)) f args
 |.jv h5 f args=>jX E s k kp (h5.map fun x=>(x.1,ap E.au an x.2)) (ap E.au an f) (args.map fun x=>(ap E.au an x).aq s.aa)
 |.ts neg x=>pQ E s k (w4 neg (ap E.au an x))
 |.ir z n x fW bN ii=>ie E an s k z n (ap E.au an x) fW bN ii
 |.jh q bytes b x y=>lQ E s k q bytes (hS E.au an b) (ap E.au an x) (ap E.au an y)
 |.gi sz parts=>jl E s k sz (parts.map fun x=>(ap E.au an x).aq s.aa)
 |.gj sz parts=>jm E s k sz (parts.map fun x=>(ap E.au an x).aq s.aa)
 |.ji q bytes x y=>lF E s k q bytes (mI s (ap E.au an x)) (ap E.au an y)
 |.jg q bytes b x y=>km E s k q bytes (hS E.au an b) (ap E.au an x) (ap E.au an y)
 |.no=>.fail
end
def lR(g:Option (Nat×Bool))(an:er)(k:Bool→ah):ah:=
 match g with
 |none=>k true
 |some (t,want)=>
  match an.get t with
  |.bool b=>k (b==want)
  |.d7 _=>k false
  |_=>.fail
def e9(E:Env):List cB→er→ag→(er→ag→ah)→(ae→er→ag→ah)→ah
 |[],an,s,fin,_=>fin an s
 |o::os,an,s,fin,e=>
  lR o.guard an fun w=>
   bif w then aE E an.get s (fun v s=>iB an o.dst v fun an=>e9 E os an s fin e) (fun v s=>e v an s) o.op
   else iB an o.dst (.d7 []) fun an=>e9 E os an s fin e
def fD(A:Nat→List Nat)(i:Nat):Nat→List Nat→List Nat
 |0,_=>[]
 |k+1,m=>bif m.elem k then(bif Nat.beq k i then fD A i k (A k++m) else k::fD A i k (A k++m)) else fD A i k m
def pT:List ae→Option (List Nat)
 |[]=>some []
 |.int .i64 n::l=>if 0≤n then(pT l).map (n.toNat:: ·) else none
 |_::_=>none
def nr:ae→Option (List Nat)
 |.agg cs=>
  match (cs[2]? :Option ae) with
  |some (.cm 1 es _)=>pT es
  |_=>none
 |_=>none
def rC:List ae→Option (List (List Nat))
 |[]=>some []
 |e::es=>(nr e).bind fun a=>(rC es).map (a:: ·)
def yz(es:List ae)(i:Int):Option (List ae):=
 match rC es with
 |some A=>bif decide (0≤i)&&Nat.blt i.toNat es.length&&Nat.ble es.length 40&&A.all (fun l=>Nat.ble l.length 1000&&l.all (Nat.blt · es.length)) then some ((fD (A.getD · []) i.toNat (i.toNat+1) [i.toNat]).map fun k=>.int .i64 (k:Nat)) else none
 |none=>none
def pU(s:ag)(j:Nat)(dw:List ae):Option (List ae):=
 match j,dw with
 |0,[.bU [.int .i64 i],.bU [v]]=>(dD s v).bind fun p=>bif Nat.beq p.1 12 then yz p.2 i else none
 |_,_=>none
def fE(s s':ag):ae→Bool
 |.bU [.cD a _ _ _ _]=>match s.get a,s'.get a with
  |some (.cells cs),some (.cells e)=>ae.k7 cs e
  |_,_=>false
 |_=>true
def gK(step:ae→ag→(pu→ag→ah)→ah)(hl:ag)(dw:List ae):List ae→ag→(pu→ag→ah)→ah
 |[],s,k=>k .norm s
 |x::xs,s,k=>step x s fun e s=>
  match e with
  |.norm=>bif dw.all (fE hl s) then gK step hl dw xs s k else .fail
  |e=>k e s
def ns(j f:Nat)(g:ae)(step:ae→ag→(pu→ag→ah)→ah)(s:ag)(k:pu→ag→ah):ah:=
 match g with
 |.fn vo dw=>bif Nat.beq f vo then(match pU s j dw with
  |some xs=>gK step s dw xs s k
  |none=>.fail) else .fail
 |_=>.fail
def exec(E:Env):ad→mg
 |.skip,an,s,k=>k .norm an s
 |.region none ops,an,s,k=>e9 E ops an s (fun an s=>k .norm an s) (fun _ _ _=>.fail)
 |.region (some mH) ops,an,s,k=>bif mH.all (pS E.au an.get) then e9 E ops an s (fun an s=>k .norm an s) (fun _ _ _=>.fail) else .fail
 |.seq a b,an,s,k=>exec E a an s (hL (exec E b) k)
 |.mask m a,an,s,k=>er.ja m (fun an=>exec E a an s k) an
 |.cond c a b,an,s,k=>
  match ap E.au an.get c with
  |.bool t=>bif t then exec E a an s k else exec E b an s k
  |_=>.fail
 |.block id c,an,s,k=>exec E c an s (eP id k)
 |.loop bC c,an,s,k=>er.ja bC (fun an=>E.loop (exec E c) bC an s k) an
 |.exit id,an,s,k=>k (.exit id) an s
 |.scope c,an,s,k=>exec E c an s k
 |.ret,an,s,k=>k .ret an s
 |.range j f g p a b,an,s,k=>ns j f (ap E.au an.get g) (fun x s lk=>iB an (some p) x fun d8=>exec E a d8 s (BA (exec E b) fun e _ s=>lk e s)) s fun e s=>k e an s
def g8(s:ag)(i off len cap sz:Nat):Option ae:=
 match s.own[i]? with
 |some (.cells cs)=>let es:=chunk sz len (cs.drop off);if ae.a6 es&&Nat.ble (off+len*sz) cs.length&& !Nat.beq sz 0 then some (.cm sz es (if len=cap then .exact else .any)) else none
 |_=>none
def f4(s:ag):ae→Option ae
 |.cD (.l i) off len cap sz=>g8 s i off len cap sz
 |.cD (.g d i) off len cap sz=>if d=s.aa then g8 s i off len cap sz else if d<s.aa then some (.cD (.g d i) off len cap sz) else none
 |.ref (.g d i) off=>if d<s.aa then some (.ref (.g d i) off) else none
 |.cm sz es (.dW (.l _))=>if ae.a6 es then some (.cm sz es .any) else none
 |.cm sz es (.dW (.g d i))=>if d<s.aa then some (.cm sz es (.dW (.g d i))) else if ae.a6 es then some (.cm sz es .any) else none
 |.map (.g d i)=>if d<s.aa then some (.map (.g d i)) else none
 |.fn f dw=>if ae.a6 dw then some (.fn f dw) else if Nat.blt 0 s.aa&&ae.kc (s.aa-1) dw then some (.fn f dw) else none
 |v=>if v.bj then some v else none
def fA{α β:Type}(f:α→Option β):List α→Option (List β)
 |[]=>some []
 |x::xs=>(f x).bind fun y=>(fA f xs).map fun e=>y::e
def mX(s:ag):ae→Option ae
 |.agg cs=>(fA (f4 s) cs).map .agg
 |v=>f4 s v
def kW(s:ag)(sz:Nat)(es:List ae):Option ae:=if ae.a6 es then some (.cm sz es .any) else(fA (mX s) es).bind fun es=>if ae.a6 es then some (.cm sz es .any) else none
def eQ(s:ag):ae→Option ae
 |.cm sz es (.dW (.l _))=>kW s sz es
 |.cm sz es (.dW (.g d i))=>if d<s.aa then some (.cm sz es (.dW (.g d i))) else kW s sz es
 |v=>f4 s v
def freeze(s:ag):ae→Option ae
 |.agg cs=>(fA (eQ s) cs).map .agg
 |v=>eQ s v
def pV(an:er)(s:ag):r2→Option ae
 |.t n=>some (an.get n)
 |.cell a n=>
  match an.get a with
  |.ref a off=>
   match s.get a,n with
   |some (.cells cs),none=>cs[off]?
   |some (.cells cs),some n=>if Nat.ble (off+n) cs.length then some (.agg ((cs.drop off).take n)) else none
   |_,_=>none
  |_=>none
def r3:List ae→ae
 |[v]=>v
 |vs=>.d7 vs
def finish(F:aN)(fn:dc)(an:er)(s:ag):ah:=
 match fA (pV an s) fn.results with
 |some vs=>
  if fn.bC then F.l (vs.map (ae.aq s.aa)) fun vs=>.ok (r3 vs) s
  else
   match fA (freeze s) vs with
   |some vs=>
    match s.up with
    |own::up=>F.l vs fun vs=>F.s {own,up,ro:=s.ro} fun s=>.ok (r3 vs) s
    |[]=>.fail
   |none=>.fail
 |none=>.fail
def Hd(F:aN)(fn:dc):hc:=fun x an s=>
 match x with
 |.norm=>finish F fn an s
 |.ret=>finish F fn an s
 |_=>.fail
def cG:List ae→Nat→er→(er→ah)→ah
 |[],_,an,k=>k an
 |v::vs,i,an,k=>an.iz 12 i v fun an=>cG vs (i+1) an k
def call(F:aN)(T:Nat→Option dc)(G:Nat→ae)(X:Nat→List ae→ag→ah):Nat→Nat→List ae→ag→ah
 |0,_,_,_=>.fail
 |n+1,f,args,s=>
  match T f with
  |none=>X f args s
  |some fn=>
   bif Nat.beq args.length fn.WT then
    cG args 0 .e fun an=>exec {F,au:=G,call:=call F T G X n,loop:=fun step bC=>dF step bC n} fn.body an
     (if fn.bC then s else {own:=[],up:=s.own::s.up,ro:=s.ro})
     (Hd F fn)
   else .fail
theorem Loc.ig{a b:Loc}:a.same b=true↔a=b:=by cases a<;> cases b<;> simp [Loc.same]
theorem ga.ig{a b:ga}:a.same b=true↔a=b:=by cases a<;> cases b<;> simp [ga.same,Loc.ig]
mutual
theorem ae.ig:∀(a b:ae),a.same b=true↔a=b
 |.dead,b=>by cases b<;> simp [ae.same]
 |.hv,b=>by cases b<;> simp [ae.same]
 |.hK,b=>by cases b<;> simp [ae.same]
 |.jQ l,b=>by cases b<;> simp [ae.same]
 |.eX,b=>by cases b<;> simp [ae.same]
 |.hx,b=>by cases b<;> simp [ae.same]
 |.bool a,b=>by cases b<;> simp [ae.same]
 |.int k a,b=>by cases b<;> simp [ae.same]
 |.str a,b=>by cases b<;> simp [ae.same]
 |.cm z a g,b=>by cases b<;> simp [ae.same,ga.ig,ae.iU a,and_assoc];intro _;exact And.comm
 |.cD a x y z q,b=>by cases b<;> simp [ae.same,Loc.ig,and_assoc]
 |.ref a x,b=>by cases b<;> simp [ae.same,Loc.ig]
 |.bU a,b=>by cases b<;> simp [ae.same,ae.iU a]
 |.fn f a,b=>by cases b<;> simp [ae.same,ae.iU a]
 |.map a,b=>by cases b<;> simp [ae.same,Loc.ig]
 |.iface t v,b=>by cases b<;> simp [ae.same,ae.ig v]
 |.agg a,b=>by cases b<;> simp [ae.same,ae.iU a]
 |.d7 a,b=>by cases b<;> simp [ae.same,ae.iU a]
theorem ae.iU:∀(a b:List ae),ae.k7 a b=true↔a=b
 |[],b=>by cases b<;> simp [ae.k7]
 |x::xs,b=>by cases b<;> simp [ae.k7,ae.ig x,ae.iU xs]
end
theorem wg{a b:Option (List ae)}:nq a b=true↔∃l,a=some l∧b=some l:=by cases a<;> cases b<;> simp only[nq,ae.iU,bL,a8,reduceCtorEq,false_and,and_false,exists_false,exists_eq_left'];exact eq_comm
def hq(n:Nat)(k:Nat→ah):ah:=Nat.casesOn n (k 0) (fun p=>k (p+1))
def oN(n:Int)(k:Int→ah):ah:=
 match n with
 |.ofNat m=>hq m fun m=>k (.ofNat m)
 |.negSucc m=>hq m fun m=>k (.negSucc m)
def nt:List Nat→(List Nat→ah)→ah
 |[],k=>k []
 |x::xs,k=>hq x fun x=>nt xs fun xs=>k (x::xs)
def pW(v:ae)(k:ae→ah):ah:=
 match v with
 |.dead=>k .dead
 |.bool b=>match b with
  |true=>k (.bool true)
  |false=>k (.bool false)
 |.int i n=>oN n fun n=>k (.int i n)
 |.str s=>k (.str s)
 |.cm sz es g=>k (.cm sz es g)
 |.cD a off len cap sz=>k (.cD a off len cap sz)
 |.ref a off=>k (.ref a off)
 |.bU cs=>k (.bU cs)
 |.hv=>k .hv
 |.fn f dw=>k (.fn f dw)
 |.hK=>k .hK
 |.jQ l=>k (.jQ l)
 |.map a=>k (.map a)
 |.eX=>k .eX
 |.iface t v=>k (.iface t v)
 |.hx=>k .hx
 |.agg cs=>k (.agg cs)
 |.d7 vs=>k (.d7 vs)
def lo:List ae→(List ae→ah)→ah
 |[],k=>k []
 |x::xs,k=>pW x fun x=>lo xs fun xs=>k (x::xs)
def lH(a:Loc)(k:Loc→ah):ah:=
 match a with
 |.l i=>hq i fun i=>k (.l i)
 |.g d i=>hq d fun d=>hq i fun i=>k (.g d i)
def tv(g:ga)(k:ga→ah):ah:=
 match g with
 |.nil=>k .nil
 |.exact=>k .exact
 |.any=>k .any
 |.dW a=>lH a fun a=>k (.dW a)
def w5(v:ae)(k:ae→ah):ah:=
 match v with
 |.dead=>k .dead
 |.bool b=>match b with
  |true=>k (.bool true)
  |false=>k (.bool false)
 |.int i n=>oN n fun n=>k (.int i n)
 |.str s=>nt s fun s=>k (.str s)
 |.cm sz es g=>lo es fun es=>tv g fun g=>k (.cm sz es g)
 |.cD a off len cap sz=>lH a fun a=>hq off fun off=>hq len fun len=>hq cap fun cap=>k (.cD a off len cap sz)
 |.ref a off=>lH a fun a=>hq off fun off=>k (.ref a off)
 |.bU cs=>lo cs fun cs=>k (.bU cs)
 |.hv=>k .hv
 |.fn f dw=>lo dw fun dw=>k (.fn f dw)
 |.hK=>k .hK
 |.jQ l=>k (.jQ l)
 |.map a=>lH a fun a=>k (.map a)
 |.eX=>k .eX
 |.iface t v=>pW v fun v=>k (.iface t v)
 |.hx=>k .hx
 |.agg cs=>lo cs fun cs=>k (.agg cs)
 |.d7 vs=>lo vs fun vs=>k (.d7 vs)
def rD(o:cO)(k:cO→ah):ah:=
 match o with
 |.cells cs=>k (.cells cs)
 |.tok n=>hq n fun n=>k (.tok n)
 |.map es=>k (.map es)
 |.gone=>k .gone
def lS:List cO→(List cO→ah)→ah
 |[],k=>k []
 |x::xs,k=>rD x fun x=>lS xs fun xs=>k (x::xs)
def mY:List (List cO)→(List (List cO)→ah)→ah
 |[],k=>k []
 |x::xs,k=>lS x fun x=>mY xs fun xs=>k (x::xs)
def tw(s:ag)(k:ag→ah):ah:=lS s.own fun own=>mY s.up fun up=>mY s.ro fun ro=>k {own,up,ro}
def aN.full:aN:={LI:=pW,v1:=w5,l:=lo,s:=tw}
theorem jY(n:Nat)(k:Nat→ah):hq n k=k n:=by cases n<;> rfl
theorem pX(n:Int)(k:Int→ah):oN n k=k n:=by cases n<;> simp [oN,jY]
theorem o1:∀(l:List Nat) (k:List Nat→ah),nt l k=k l
 |[],_=>rfl
 |x::xs,k=>by simp [nt,jY,o1 xs]
theorem pw(v:ae)(k:ae→ah):pW v k=k v:=by cases v<;> simp only[pW,pX];split<;> rfl
theorem px:∀(l:List ae) (k:List ae→ah),lo l k=k l
 |[],_=>rfl
 |x::xs,k=>by simp [lo,pw,px xs]
theorem pY(a:Loc)(k:Loc→ah):lH a k=k a:=by cases a<;> simp [lH,jY]
theorem yA(a:ga)(k:ga→ah):tv a k=k a:=by cases a<;> simp [tv,pY]
theorem BB(v:ae)(k:ae→ah):w5 v k=k v:=by cases v<;> simp only[w5,pX,o1,px,pY,yA,jY,pw];split<;> rfl
theorem w6(o:cO)(k:cO→ah):rD o k=k o:=by cases o<;> simp [rD,jY]
theorem mL:∀(l:List cO) (k:List cO→ah),lS l k=k l
 |[],_=>rfl
 |x::xs,k=>by simp [lS,w6,mL xs]
theorem pZ:∀(l:List (List cO)) (k:List (List cO)→ah),mY l k=k l
 |[],_=>rfl
 |x::xs,k=>by simp [mY,mL,pZ xs]
theorem yB(s:ag)(k:ag→ah):tw s k=k s:=by simp [tw,mL,pZ]
theorem aN.yC:aN.full=aN.not:=by
 unfold aN.full aN.not;congr<;> funext v k
 ·exact pw v k
 ·exact BB v k
 ·exact px v k
 ·exact yB v k
def s6(f:Nat):List (Nat×dc)→Option dc
 |[]=>none
 |(g,c)::l=>bif Nat.beq f g then some c else s6 f l
theorem r4{f:Nat}{c:dc}:∀{l:List (Nat×dc)},s6 f l=some c→(f,c)∈l
 |[],h=>by cases h
 |(g,d)::l,h=>by
  simp only[s6] at h;cases e:Nat.beq f g with
  |true=>
   rw[e] at h
   have:=c4 e;subst this;obtain rfl:=Option.some.inj h;exact List.mem_cons_self ..
  |false=>rw[e] at h;exact List.mem_cons_of_mem _ (r4 h)
end Go.Ab
end
section
namespace Go.Ab
structure a5 where
 F:Addr→Option Value
 n:Nat→Nat
 loc:Nat→Nat→Nat
 kL:Nat→Nat→Nat→Option (Addr×Nat×Nat)
def iF(κ:a5)(D:Nat)(sz:Nat):ga→Nat→Addr→Nat→Prop
 |.nil,_,_,_=>False
 |.exact,n,_,cap=>cap=n
 |.any,_,_,_=>True
 |.dW (.g d i),n,a,cap=>d<D∧i<κ.n d∧κ.kL d i n=some (a,cap,sz)
 |.dW (.l _),_,_,_=>False
def tx(g:ga)(es:List ae):Prop:=(∀e,e∈es→e.bj=true)∨∃d j,g=.dW (.g d j)∧∀e,e∈es→e.low d=true
inductive ds (κ:a5) (D:Nat):ae→Value→Prop
 |dead (x:Value):ds κ D .dead x
 |bool (b:Bool):ds κ D (.bool b) (.bool b)
 |int (k:IntKind) (n:Int):ds κ D (.int k n) (.int k n)
 |str (eB:List Nat) (s:ByteArray) (h:s.data.toList.map UInt8.toNat=eB):ds κ D (.str eB) (.string s)
 |kn (sz:Nat):ds κ D (.cm sz [] .nil) (.slice none 0 0)
 |cm (sz:Nat) (es:List ae) (g:ga) (a:Addr) (cap:Nat) (di:Nat→Value) (cE:iF κ D sz g es.length a cap) (df:es.length≤cap) (aV:es≠[]→a.spot=none)
   (eF:∀e,e∈es→e.cells.length=sz) (aJ:tx g es)
   (ka:∀j,j<(es.flatMap ae.cells).length→κ.F (a.add j)=some (di j))
   (bD:∀(j:Nat) (c:ae),(es.flatMap ae.cells)[j]? =some c→ds κ D c (di j)):ds κ D (.cm sz es g) (.slice (some a) es.length cap)
 |cD (d i off len cap lh sz:Nat) (cF:d<D) (bN:i<κ.n d) (bO:len≤lh) (aW:lh=cap∨(cap=0∧0<len∧off=0∧κ.kL d i len=some (⟨κ.loc d i,0,none⟩,lh,sz))):ds κ D (.cD (.g d i) off len cap sz) (.slice (some ⟨κ.loc d i,off,none⟩) len lh)
 |ref (d i off:Nat) (cF:d<D) (bN:i<κ.n d):ds κ D (.ref (.g d i) off) (.pointer (some ⟨κ.loc d i,off,none⟩))
 |bU (cs:List ae) (a:Addr) (di:Nat→Value) (aV:a.spot=none) (ka:∀j,j<cs.length→κ.F (a.add j)=some (di j))
   (bD:∀(j:Nat) (c:ae),cs[j]? =some c→ds κ D c (di j)):ds κ D (.bU cs) (.pointer (some a))
 |hv:ds κ D .hv (.pointer none)
 |fn (f:Nat) (cs:List ae) (xs:List Value) (bO:xs.length=cs.length) (bD:∀(j:Nat) (c:ae) (x:Value),cs[j]? =some c→xs[j]? =some x→ds κ D c x):ds κ D (.fn f cs) (.func (.func f) #[] xs.toArray)
 |hK:ds κ D .hK .nilFunc
 |jQ (l:Nat):ds κ D (.jQ l) (.func (.yield l) #[] #[])
 |eX:ds κ D .eX (.map none)
 |map (d i:Nat) (cF:d<D) (bN:i<κ.n d):ds κ D (.map (.g d i)) (.map (some (κ.loc d i)))
 |iface (t:Nat) (v:ae) (x:Value) (h:ds κ D v x):ds κ D (.iface t v) (.iface t x)
 |hx:ds κ D .hx .nilIface
 |agg (cs:List ae) (xs:List Value) (bO:xs.length=cs.length) (bD:∀(j:Nat) (c:ae) (x:Value),cs[j]? =some c→xs[j]? =some x→ds κ D c x):ds κ D (.agg cs) (.agg xs.toArray)
 |d7 (cs:List ae) (xs:List Value) (bO:xs.length=cs.length) (bD:∀(j:Nat) (c:ae) (x:Value),cs[j]? =some c→xs[j]? =some x→ds κ D c x):ds κ D (.d7 cs) (.tuple xs.toArray)
def d9(κ:a5)(D:Nat)(cs:List ae)(xs:List Value):Prop:=xs.length=cs.length∧∀(j:Nat) (c:ae) (x:Value),cs[j]? =some c→xs[j]? =some x→ds κ D c x
structure f6 (κ κ':a5) (D:Nat):Prop where
 F:∀a v,κ.F a=some v→κ'.F a=some v
 n:∀d,d<D→κ.n d≤κ'.n d
 loc:∀d i,d<D→i<κ.n d→κ'.loc d i=κ.loc d i
 kL:∀d i n x,d<D→i<κ.n d→κ.kL d i n=some x→κ'.kL d i n=some x
theorem f6.refl(κ:a5)(D:Nat):f6 κ κ D:=⟨fun _ _ h=>h,fun _ _=>aC _,fun _ _ _ _=>rfl,fun _ _ _ _ _ _ h=>h⟩
theorem f6.trans{κ κ' p:a5}{D:Nat}(h:f6 κ κ' D)(k:f6 κ' p D):f6 κ p D:=
 ⟨fun a v e=>k.F a v (h.F a v e),fun d cF=>Nat.le_trans (h.n d cF) (k.n d cF),
  fun d i cF bN=>(k.loc d i cF (fL bN (h.n d cF))).trans (h.loc d i cF bN),
  fun d i n x cF bN e=>k.kL d i n x cF (fL bN (h.n d cF)) (h.kL d i n x cF bN e)⟩
theorem f6.low{κ κ':a5}{D p:Nat}(h:f6 κ κ' D)(e:p≤D):f6 κ κ' p:=
 ⟨h.F,fun d cF=>h.n d (fL cF e),fun d i cF=>h.loc d i (fL cF e),fun d i n x cF=>h.kL d i n x (fL cF e)⟩
theorem iF.mono{κ κ':a5}{D sz n cap:Nat}{g:ga}{a:Addr}(h:iF κ D sz g n a cap)(k:f6 κ κ' D):iF κ' D sz g n a cap:=by unfold iF at *;split at h<;> simp_all;obtain⟨ar,ay,ch⟩:=h;exact⟨fL ay (k.n _ ar),k.kL _ _ _ _ ar ay ch⟩
theorem ds.mono{κ κ':a5}{D:Nat}{v:ae}{x:Value}(h:ds κ D v x)(k:f6 κ κ' D):ds κ' D v x:=by
 induction h with
 |dead x=>exact .dead x
 |bool b=>exact .bool b
 |int k n=>exact .int k n
 |str eB s h=>exact .str eB s h
 |kn sz=>exact .kn sz
 |cm sz es g a cap di cE df aV eF aJ ka bD e=>exact .cm sz es g a cap di (cE.mono k) df aV eF aJ (fun j da=>k.F _ _ (ka j da)) e
 |cD d i off len cap lh sz cF bN bO aW=>rw[←k.loc d i cF bN];exact .cD d i off len cap lh sz cF (fL bN (k.n d cF)) bO (aW.imp id fun⟨ar,ay,ch,dk⟩=>⟨ar,ay,ch,by rw[k.loc d i cF bN];exact k.kL d i len _ cF bN dk⟩)
 |ref d i off cF bN=>rw[←k.loc d i cF bN];exact .ref d i off cF (fL bN (k.n d cF))
 |bU cs a di aV ka bD e=>exact .bU cs a di aV (fun j da=>k.F _ _ (ka j da)) e
 |hv=>exact .hv
 |fn f cs xs bO bD e=>exact .fn f cs xs bO e
 |hK=>exact .hK
 |jQ l=>exact .jQ l
 |eX=>exact .eX
 |map d i cF bN=>rw[←k.loc d i cF bN];exact .map d i cF (fL bN (k.n d cF))
 |iface t v x h e=>exact .iface t v x e
 |hx=>exact .hx
 |agg cs xs bO bD e=>exact .agg cs xs bO e
 |d7 cs xs bO bD e=>exact .d7 cs xs bO e
theorem ds.up{κ:a5}{D q:Nat}{v:ae}{x:Value}(h:ds κ D v x)(p:D≤q):ds κ q v x:=by
 induction h with
 |dead x=>exact .dead x
 |bool b=>exact .bool b
 |int k n=>exact .int k n
 |str eB s h=>exact .str eB s h
 |kn sz=>exact .kn sz
 |cm sz es g a cap di cE df aV eF aJ ka bD e=>refine .cm sz es g a cap di ?_ df aV eF aJ ka e;unfold iF at *;split at cE<;> simp_all;exact fL cE.1 p
 |cD d i off len cap lh sz cF bN bO aW=>exact .cD d i off len cap lh sz (fL cF p) bN bO aW
 |ref d i off cF bN=>exact .ref d i off (fL cF p) bN
 |bU cs a di aV ka bD e=>exact .bU cs a di aV ka e
 |hv=>exact .hv
 |fn f cs xs bO bD e=>exact .fn f cs xs bO e
 |hK=>exact .hK
 |jQ l=>exact .jQ l
 |eX=>exact .eX
 |map d i cF bN=>exact .map d i (fL cF p) bN
 |iface t v x h e=>exact .iface t v x e
 |hx=>exact .hx
 |agg cs xs bO bD e=>exact .agg cs xs bO e
 |d7 cs xs bO bD e=>exact .d7 cs xs bO e
theorem ij{cs:List ae}(h:ae.a6 cs=true){j:Nat}{c:ae}(aW:cs[j]? =some c):c.bj=true:=by
 induction cs generalizing j with
 |nil=>simp at aW
 |cons v vs e=>
  simp only[ae.a6,bm] at h;cases j with
  |zero=>simp at aW;exact aW ▸ h.1
  |succ j=>exact e h.2 (by simpa using aW)
theorem d5{cs:List ae}:ae.a6 cs=true↔∀c,c∈cs→c.bj=true:=by
 induction cs with
 |nil=>simp [ae.a6]
 |cons v vs e=>simp [ae.a6,e]
theorem hU{e:ae}(h:e.bj=true){c:ae}(aW:c∈e.cells):c.bj=true:=by
 unfold ae.cells at aW;split at aW
 ·exact d5.1 (by simpa [ae.bj] using h) c aW
 ·simp at aW;exact aW ▸ h
theorem ds.bj{κ:a5}{D:Nat}{v:ae}{x:Value}(h:ds κ D v x)(aJ:v.bj=true){κ':a5}(r:Nat)(ka:∀a v,κ.F a=some v→κ'.F a=some v):ds κ' r v x:=by
 induction h with
 |dead x=>exact .dead x
 |bool b=>exact .bool b
 |int k n=>exact .int k n
 |str eB s h=>exact .str eB s h
 |kn sz=>exact .kn sz
 |cm sz es g a cap di cE df aV eF h4 q bD p=>
  refine .cm sz es g a cap di ?_ df aV eF h4 (fun j da=>ka _ _ (q j da)) (fun j c aW=>p j c aW ?_)
  ·cases g<;> simp_all [ae.bj,iF]
  ·obtain⟨e,he,y⟩:=List.mem_flatMap.1 (List.mem_of_getElem? aW);rcases h4 with h4|⟨d,j,rfl,_⟩
   ·exact hU (h4 e he) y
   ·simp [ae.bj] at aJ
 |cD d i off len cap lh sz cF bN bO aW=>simp [ae.bj] at aJ
 |ref d i off cF bN=>simp [ae.bj] at aJ
 |bU cs a di aV q bD p=>exact .bU cs a di aV (fun j da=>ka _ _ (q j da)) (fun j c aW=>p j c aW (ij (by simpa [ae.bj] using aJ) aW))
 |hv=>exact .hv
 |fn f cs xs bO bD p=>exact .fn f cs xs bO (fun j c x aW aZ=>p j c x aW aZ (ij (by simpa [ae.bj] using aJ) aW))
 |hK=>exact .hK
 |jQ l=>exact .jQ l
 |eX=>exact .eX
 |map d i cF bN=>simp [ae.bj] at aJ
 |iface t v x h p=>exact .iface t v x (p (by simpa [ae.bj] using aJ))
 |hx=>exact .hx
 |agg cs xs bO bD p=>exact .agg cs xs bO (fun j c x aW aZ=>p j c x aW aZ (ij (by simpa [ae.bj] using aJ) aW))
 |d7 cs xs bO bD p=>exact .d7 cs xs bO (fun j c x aW aZ=>p j c x aW aZ (ij (by simpa [ae.bj] using aJ) aW))
theorem iV{v:ae}(h:v.bj=true)(d:Nat):v.aq d=v:=by cases v<;> simp_all [ae.bj,ae.aq];rename_i g;cases g<;> simp_all [ae.bj,ga.aq]
theorem mZ{d:Nat}{cs:List ae}(h:ae.kc d cs=true){j:Nat}{c:ae}(aW:cs[j]? =some c):c.low d=true:=by
 induction cs generalizing j with
 |nil=>simp at aW
 |cons v vs e=>
  simp only[ae.kc,bm] at h;cases j with
  |zero=>simp at aW;exact aW ▸ h.1
  |succ j=>exact e h.2 (by simpa using aW)
theorem Loc.jI{d e3:Nat}(h:d≤e3){a:Loc}(p:a.low d=true):a.low e3=true:=by
 cases a with
 |l i=>cases p
 |g e i=>exact eK (Nat.le_trans (dL p) h)
mutual
theorem ae.jI{d e3:Nat}(h:d≤e3):∀(v:ae),v.low d=true→v.low e3=true
 |.dead,_|.bool _,_|.int _ _,_|.str _,_|.hv,_|.hK,_|.jQ _,_|.eX,_|.hx,_=>rfl
 |.cm sz es g,bD=>by
  cases g with
  |dW a=>exact Loc.jI h bD
  |nil=>rfl
  |exact=>rfl
  |any=>rfl
 |.cD a _ _ _ _,bD=>Loc.jI h bD
 |.ref a _,bD=>Loc.jI h bD
 |.map a,bD=>Loc.jI h bD
 |.bU cs,bD=>ae.lT h cs bD
 |.fn _ cs,bD=>ae.lT h cs bD
 |.agg cs,bD=>ae.lT h cs bD
 |.d7 cs,bD=>ae.lT h cs bD
 |.iface _ v,bD=>ae.jI h v bD
theorem ae.lT{d e3:Nat}(h:d≤e3):∀(vs:List ae),ae.kc d vs=true→ae.kc e3 vs=true
 |[],_=>rfl
 |v::vs,bD=>by simp only[ae.kc,bm] at bD ⊢;exact⟨ae.jI h v bD.1,ae.lT h vs bD.2⟩
end
mutual
theorem ae.lp(d:Nat):∀(v:ae),v.bj=true→v.low d=true
 |.dead,_|.bool _,_|.int _ _,_|.str _,_|.hv,_|.hK,_|.jQ _,_|.eX,_|.hx,_=>rfl
 |.cm sz es g,bD=>by
  cases g with
  |dW a=>simp [ae.bj] at bD
  |nil=>rfl
  |exact=>rfl
  |any=>rfl
 |.cD a _ _ _ _,bD=>by simp [ae.bj] at bD
 |.ref a _,bD=>by simp [ae.bj] at bD
 |.map a,bD=>by simp [ae.bj] at bD
 |.bU cs,bD=>ae.ik d cs bD
 |.fn _ cs,bD=>ae.ik d cs bD
 |.agg cs,bD=>ae.ik d cs bD
 |.d7 cs,bD=>ae.ik d cs bD
 |.iface _ v,bD=>ae.lp d v bD
theorem ae.ik(d:Nat):∀(vs:List ae),ae.a6 vs=true→ae.kc d vs=true
 |[],_=>rfl
 |v::vs,bD=>by simp only[ae.a6,bm] at bD;simp only[ae.kc,bm];exact⟨ae.lp d v bD.1,ae.ik d vs bD.2⟩
end
theorem ko{d:Nat}{cs:List ae}:ae.kc d cs=true↔∀c,c∈cs→c.low d=true:=by
 induction cs with
 |nil=>simp [ae.kc]
 |cons v vs e=>simp [ae.kc,e]
theorem tz{d:Nat}{e:ae}(h:e.low d=true){c:ae}(aW:c∈e.cells):c.low d=true:=by
 unfold ae.cells at aW;split at aW
 ·exact ko.1 (by simpa [ae.low] using h) c aW
 ·simp at aW;exact aW ▸ h
theorem ds.lower{κ:a5}{D d:Nat}{v:ae}{x:Value}(h:ds κ D v x)(bO:v.low d=true):ds κ (d+1) v x:=by
 induction h with
 |dead x=>exact .dead x
 |bool b=>exact .bool b
 |int k n=>exact .int k n
 |str eB s h=>exact .str eB s h
 |kn sz=>exact .kn sz
 |cm sz es g a cap di cE df aV eF h4 r bD p=>
  refine .cm sz es g a cap di ?_ df aV eF h4 r (fun j c aW=>?_)
  ·cases g with
   |dW l=>
    cases l with
    |l i=>simp [ae.low,Loc.low] at bO
    |g e i=>exact⟨Nat.lt_succ_of_le (dL (by simpa [ae.low,Loc.low] using bO)),cE.2⟩
   |nil=>exact cE
   |exact=>exact cE
   |any=>exact cE
  ·obtain⟨e,he,y⟩:=List.mem_flatMap.1 (List.mem_of_getElem? aW);rcases h4 with h4|⟨e3,gX,rfl,h4⟩
   ·exact(bD j c aW).bj (hU (h4 e he) y) _ (fun _ _ h=>h)
   ·exact p j c aW (ae.jI (dL (by simpa [ae.low,Loc.low] using bO)) c (tz (h4 e he) y))
 |cD e i off len cap lh sz cF bN q aW=>exact .cD e i off len cap lh sz (Nat.lt_succ_of_le (dL (by simpa [ae.low,Loc.low] using bO))) bN q aW
 |ref e i off cF bN=>exact .ref e i off (Nat.lt_succ_of_le (dL (by simpa [ae.low,Loc.low] using bO))) bN
 |bU cs a di aV r bD p=>exact .bU cs a di aV r (fun j c aW=>p j c aW (mZ (by simpa [ae.low] using bO) aW))
 |hv=>exact .hv
 |fn f cs xs q bD p=>exact .fn f cs xs q (fun j c x aW aZ=>p j c x aW aZ (mZ (by simpa [ae.low] using bO) aW))
 |hK=>exact .hK
 |jQ l=>exact .jQ l
 |eX=>exact .eX
 |map e i cF bN=>exact .map e i (Nat.lt_succ_of_le (dL (by simpa [ae.low,Loc.low] using bO))) bN
 |iface t v x h p=>exact .iface t v x (p (by simpa [ae.low] using bO))
 |hx=>exact .hx
 |agg cs xs q bD p=>exact .agg cs xs q (fun j c x aW aZ=>p j c x aW aZ (mZ (by simpa [ae.low] using bO) aW))
 |d7 cs xs q bD p=>exact .d7 cs xs q (fun j c x aW aZ=>p j c x aW aZ (mZ (by simpa [ae.low] using bO) aW))
def Sa(ix:Nat×Nat)(n:Nat):Prop:=∀j,j<n→¬(ix.1≤j∧j<ix.2)
def lU(κ:a5)(D:Nat)(es:List (ae×ae))(eZ:List MapEntry):Prop:=
 eZ.length=es.length∧∀(j:Nat) (p:ae×ae) (e:MapEntry),es[j]? =some p→eZ[j]? =some e→ds κ D p.1 e.key∧ds κ D p.2 e.val
theorem lU.mono{κ κ':a5}{D:Nat}{es:List (ae×ae)}{eZ:List MapEntry}(h:lU κ D es eZ)(k:f6 κ κ' D):lU κ' D es eZ:=
 ⟨h.1,fun j p e gb he=>⟨(h.2 j p e gb he).1.mono k,(h.2 j p e gb he).2.mono k⟩⟩
def wh(κ:a5)(d i:Nat)(w:World):cO→Prop
 |.cells cs=>(∃C e ix,w.heap[κ.loc d i]? =some (.cells C e ix)∧Sa ix C.size∧d9 κ (d+1) cs (C.toList.take cs.length)∧∀m b cap sz,κ.kL d i m=some (b,cap,sz)→cap*sz≤C.size)∧∀o,κ.F ⟨κ.loc d i,o,none⟩=none
 |.tok n=>∃b cap sz,κ.kL d i n=some (⟨b,0,none⟩,cap,sz)∧n≤cap∧(∃C e ix,w.heap[b]? =some (.cells C e ix)∧cap*sz≤C.size∧Sa ix C.size)∧(∀o,n*sz≤o→κ.F ⟨b,o,none⟩=none)∧∀m,n<m→κ.kL d i m=none
 |.gone=>True
 |.map es=>∃eZ clock,w.heap[κ.loc d i]? =some (.map eZ clock)∧lU κ (d+1) es eZ.toList
def aT(κ:a5)(d i:Nat):cO→Option Nat
 |.cells _|.map _=>some (κ.loc d i)
 |.tok n=>(κ.kL d i n).map (·.1.block)
 |.gone=>none
def ag.an(s:ag)(d:Nat):Option (List cO):=if d=s.aa then some s.own else if d<s.aa then(s.up++s.ro)[s.aa-1-d]? else none
theorem ag.lV(s:ag)(d i:Nat):s.get (.g d i)=(s.an d).bind (·[i]?):=by
 unfold ag.get ag.an;by_cases h:d=s.aa
 ·simp [h]
 ·by_cases e:d<s.aa<;> simp [h,e]
theorem ag.hA(s:ag)(a:Loc):s.get (a.aq s.aa)=s.get a:=by
 cases a with
 |l i=>simp [Loc.aq,ag.get]
 |g d i=>rfl
structure cL (κ:a5) (s:ag) (w:World):Prop where
 h6:∀a v,κ.F a=some v→a.spot=none∧w.cell? a=some v
 len:∀d l,s.an d=some l→l.length=κ.n d
 obj:∀d i o,s.get (.g d i)=some o→wh κ d i w o
 inj:∀d i o e3 gX o' b,s.get (.g d i)=some o→s.get (.g e3 gX)=some o'→aT κ d i o=some b→aT κ e3 gX o'=some b→d=e3∧i=gX
def Live(κ:a5)(s:ag)(b:Nat):Prop:=∃d i o,s.get (.g d i)=some o∧aT κ d i o=some b
structure e0 (κ:a5) (s:ag) (w:World) (κ':a5) (s':ag) (w':World):Prop where
 k:f6 κ κ' (s.aa+1)
 aa:s'.aa=s.aa
 size:w.heap.size≤w'.heap.size
 os:w'.os=w.os
 tape:w'.tape=w.tape
 output:w'.output=w.output
 kq:∀b,b<w.heap.size→¬Live κ s b→w'.heap[b]? =w.heap[b]?
 live:∀b,b<w.heap.size→Live κ' s' b→Live κ s b
 nX:∀a,κ'.F a≠none→κ.F a≠none∨w.heap.size≤a.block∨Live κ s a.block
theorem e0.refl(κ:a5)(s:ag)(w:World):e0 κ s w κ s w:=
 ⟨.refl _ _,rfl,aC _,rfl,rfl,rfl,fun _ _ _=>rfl,fun _ _ h=>h,fun _ h=>.inl h⟩
theorem e0.trans{κ p q:a5}{s r y:ag}{w A B:World}(h:e0 κ s w p r A)(k:e0 p r A q y B):e0 κ s w q y B:=by
 refine⟨h.k.trans (h.aa ▸ k.k),k.aa.trans h.aa,Nat.le_trans h.size k.size,k.os.trans h.os,k.tape.trans h.tape,k.output.trans h.output,fun b e bO=>?_,fun b e bO=>?_,fun a F=>?_⟩
 ·rw[k.kq b (fL e h.size) (fun H=>bO (h.live b e H)),h.kq b e bO]
 ·exact h.live b e (k.live b (fL e h.size) bO)
 ·rcases k.nX a F with ar|ar|ar
  ·exact h.nX a ar
  ·exact .inr (.inl (Nat.le_trans h.size ar))
  ·by_cases e:a.block<w.heap.size
   ·exact .inr (.inr (h.live _ e ar))
   ·exact .inr (.inl (by omega))
def vj(κ:a5)(s:ag)(an:Nat→ae)(a:Act):Prop:=∀t,ds κ (s.aa+1) ((an t).aq s.aa) (a.tmps.getD t undef)
theorem vj.ext{κ κ':a5}{s s':ag}{w w':World}{an:Nat→ae}{a:Act}(h:vj κ s an a)(e:e0 κ s w κ' s' w'):vj κ' s' an a:=by
 intro t
 have:=(h t).mono e.k;rw[e.aa];exact this
theorem fF{a:Addr}(h:a.spot=none)(j:Nat):a.add j=⟨a.block,a.off+j,none⟩:=by
 unfold Addr.add;split
 ·subst_vars;cases a;simp_all
 ·cases a;simp_all
theorem add_add{a:Addr}(i j:Nat):(a.add i).add j=a.add (i+j):=by unfold Addr.add;by_cases bN:i=0<;> by_cases da:j=0<;> simp_all<;> omega
theorem lW{a:Addr}(h:a.spot=none)(j:Nat):(a.add j).spot=none:=by rw[fF h]
theorem fs{α:Type}(vs:List α):∀(cs:List α) (o:Nat),(dO cs o vs).length=cs.length:=by
 induction vs with
 |nil=>intro cs o;rfl
 |cons v vs e=>intro cs o;simp [dO,e]
theorem gw{α:Type}(vs:List α):∀(cs:List α) (o:Nat),o+vs.length≤cs.length→∀j,(dO cs o vs)[j]? =if o≤j∧j<o+vs.length then vs[j-o]? else cs[j]?:=by
 induction vs with
 |nil=>intro cs o _ j;simp [dO];omega
 |cons v vs e=>
  intro cs o h j;simp only[bM] at h;simp only[dO];rw[e (cs.set o v) (o+1) (by simp;omega)];by_cases da:j=o
  ·subst da;rw[if_neg (by omega),if_pos (by simp)];simp only[Nat.sub_self,List.getElem?_cons_zero];rw[List.getElem?_set_self (by omega)]
  ·by_cases ar:o+1≤j∧j<o+1+vs.length
   ·rw[if_pos ar,if_pos (by simp;omega)];obtain⟨m,rfl⟩:∃m,j=o+1+m:=⟨j-(o+1),by omega⟩;simp only[show o+1+m-(o+1)=m by omega,show o+1+m-o=m+1 by omega,List.getElem?_cons_succ]
   ·rw[if_neg ar,if_neg (by simp;omega)];rw[oZ (by omega)]
theorem lX(vs:List Value):∀(w:World) (b o:Nat) (C:Array Value) (e:TypeId) (ix:Nat×Nat),w.heap[b]? =some (.cells C e ix)→o+vs.length≤C.size→
  ∀h,(w.setCells b o vs).heap[h]? =if h=b then some (.cells (dO C.toList o vs).toArray e ix) else w.heap[h]?:=by
 induction vs with
 |nil=>intro w b o C e ix p _ h;simp only[World.setCells,dO];split<;> simp_all
 |cons v vs q=>
  intro w b o C e ix p r h;simp only[bM] at r;have ar:(w.setCell ⟨b,o,none⟩ v).heap[b]? =some (.cells (C.setIfInBounds o v) e ix):=by simp [World.setCell,Array.getElem?_modify,p]
  rw[World.setCells,q _ b (o+1) _ e ix ar (by simp;omega)];split
  ·simp [dO,Array.toList_setIfInBounds]
  ·rename_i e6;simp [World.setCell,Array.getElem?_modify,Ne.symm e6]
theorem lY(vs:List Value):∀(w:World) (b o:Nat),(w.setCells b o vs).heap.size=w.heap.size:=by
 induction vs with
 |nil=>intro w b o;rfl
 |cons v vs e=>intro w b o;simp [World.setCells,e]
theorem lZ(vs:List Value):∀(w:World) (b o:Nat),(w.setCells b o vs).os=w.os∧(w.setCells b o vs).tape=w.tape∧(w.setCells b o vs).output=w.output:=by
 induction vs with
 |nil=>intro w b o;exact⟨rfl,rfl,rfl⟩
 |cons v vs e=>intro w b o;simp only[World.setCells];exact e _ b (o+1)
theorem e4{w:World}{b o:Nat}{C:Array Value}{e:TypeId}{ix:Nat×Nat}(h:w.heap[b]? =some (.cells C e ix)):w.cell? ⟨b,o,none⟩=C[o]?:=by simp [World.cell?,h]
theorem gl{w w':World}{a:Addr}(h:w'.heap[a.block]? =w.heap[a.block]?):w'.cell? a=w.cell? a:=by simp [World.cell?,h]
theorem n3{w:World}{a:Addr}{v:Value}(h:w.cell? a=some v):a.block<w.heap.size:=by
 unfold World.cell? at h;split at h
 ·rename_i e;exact(Array.getElem?_eq_some_iff.1 e).1
 ·cases h
theorem d9.get{κ:a5}{D:Nat}{cs:List ae}{xs:List Value}(h:d9 κ D cs xs){j:Nat}{c:ae}(aW:cs[j]? =some c):∃x,xs[j]? =some x∧ds κ D c x:=by
 have da:j<xs.length:=by rw[h.1];exact(ez.1 aW).1
 exact⟨xs[j],fB da,h.2 j c _ aW (fB da)⟩
theorem d9.mono{κ κ':a5}{D:Nat}{cs:List ae}{xs:List Value}(h:d9 κ D cs xs)(k:f6 κ κ' D):d9 κ' D cs xs:=
 ⟨h.1,fun j c x aW aZ=>(h.2 j c x aW aZ).mono k⟩
theorem d9.up{κ:a5}{D e:Nat}{cs:List ae}{xs:List Value}(h:d9 κ D cs xs)(k:D≤e):d9 κ e cs xs:=
 ⟨h.1,fun j c x aW aZ=>(h.2 j c x aW aZ).up k⟩
theorem d9.nil(κ:a5)(D:Nat):d9 κ D [] []:=⟨rfl,fun j c x aW=>by simp at aW⟩
theorem d9.cons{κ:a5}{D:Nat}{c:ae}{x:Value}{cs:List ae}{xs:List Value}(h:ds κ D c x)(aV:d9 κ D cs xs):d9 κ D (c::cs) (x::xs):=by
 refine⟨by simp [aV.1],fun j nk kH aW aZ=>?_⟩;cases j with
 |zero=>simp at aW aZ;exact aW ▸ aZ ▸ h
 |succ j=>exact aV.2 j nk kH (by simpa using aW) (by simpa using aZ)
theorem d9.append{κ:a5}{D:Nat}{cs io:List ae}{xs e:List Value}(h:d9 κ D cs xs)(k:d9 κ D io e):d9 κ D (cs++io) (xs++e):=by
 refine⟨by simp [h.1,k.1],fun j c x aW aZ=>?_⟩;by_cases da:j<cs.length
 ·rw[g1 da] at aW;rw[g1 (by rw[h.1];exact da)] at aZ;exact h.2 j c x aW aZ
 ·rw[im (by omega)] at aW;rw[im (by rw[h.1];omega),h.1] at aZ;exact k.2 _ c x aW aZ
theorem d9.s7{κ:a5}{D:Nat}{c:ae}{cs:List ae}{xs:List Value}(h:d9 κ D (c::cs) xs):∃x e,xs=x::e∧ds κ D c x∧d9 κ D cs e:=by
 cases xs with
 |nil=>have:=h.1;simp at this
 |cons x e=>exact⟨x,e,rfl,h.2 0 c x rfl rfl,by simpa using h.1,fun j nk kH aW aZ=>h.2 (j+1) nk kH (by simpa using aW) (by simpa using aZ)⟩
theorem d9.drop{κ:a5}{D:Nat}{cs:List ae}{xs:List Value}(h:d9 κ D cs xs)(n:Nat):d9 κ D (cs.drop n) (xs.drop n):=
 ⟨by simp [h.1],fun j c x aW aZ=>h.2 (n+j) c x (by simpa using aW) (by simpa using aZ)⟩
theorem d9.take{κ:a5}{D:Nat}{cs:List ae}{xs:List Value}(h:d9 κ D cs xs)(n:Nat):d9 κ D (cs.take n) (xs.take n):=by refine⟨by simp [h.1],fun j c x aW aZ=>?_⟩;simp only[List.getElem?_take] at aW aZ;split at aW<;> simp_all;exact h.2 j c x aW aZ
theorem d9.dO{κ:a5}{D:Nat}{cs vs:List ae}{xs e:List Value}(h:d9 κ D cs xs)(k:d9 κ D vs e){o:Nat}(p:o+vs.length≤cs.length):d9 κ D (dO cs o vs) (Ab.dO xs o e):=by
 refine⟨by simp [fs,h.1],fun j c x aW aZ=>?_⟩;rw[gw _ _ _ p] at aW;rw[gw _ _ _ (by rw[k.1,h.1];exact p),k.1] at aZ;split at aW
 ·rw[if_pos (by assumption)] at aZ;exact k.2 _ _ _ aW aZ
 ·rw[if_neg (by assumption)] at aZ;exact h.2 _ _ _ aW aZ
theorem d9.bj{κ:a5}{D:Nat}{cs:List ae}{xs:List Value}(h:d9 κ D cs xs)(aJ:ae.a6 cs=true){κ':a5}(e:Nat)(ka:∀a v,κ.F a=some v→κ'.F a=some v):d9 κ' e cs xs:=
 ⟨h.1,fun j c x aW aZ=>(h.2 j c x aW aZ).bj (ij aJ aW) e ka⟩
theorem wh.block{κ:a5}{d i:Nat}{w:World}{o:cO}{b:Nat}(h:wh κ d i w o)(p:aT κ d i o=some b):∃mM,w.heap[b]? =some mM:=by
 cases o with
 |cells cs=>simp only[aT,a8] at p;subst p;obtain⟨⟨C,e,ix,ar,_⟩,_⟩:=h;exact⟨_,ar⟩
 |tok n=>obtain⟨q,cap,sz,ar,_,⟨C,e,ix,ay,_⟩,_⟩:=h;simp only[aT,ar,eb,a8] at p;subst p;exact⟨_,ay⟩
 |map es=>simp only[aT,a8] at p;subst p;obtain⟨eZ,clock,ar,_⟩:=h;exact⟨_,ar⟩
 |gone=>simp [aT] at p
theorem cL.jo{κ:a5}{s:ag}{w:World}(aV:cL κ s w){b:Nat}(h:Live κ s b):b<w.heap.size:=by obtain⟨d,i,o,e,p⟩:=h;obtain⟨mM,q⟩:=(aV.obj d i o e).block p;exact(Array.getElem?_eq_some_iff.1 q).1
theorem wh.bC{κ κ':a5}{d i:Nat}{w w':World}{o:cO}(h:wh κ d i w o)(bN:i<κ.n d)(c3:f6 κ κ' (d+1))(d6:∀m,κ'.kL d i m=κ.kL d i m)(q:∀b,aT κ d i o=some b→w'.heap[b]? =w.heap[b]?∧∀x,κ'.F ⟨b,x,none⟩=κ.F ⟨b,x,none⟩):
  wh κ' d i w' o∧aT κ' d i o=aT κ d i o:=by
 cases o with
 |cells cs=>obtain⟨⟨C,e,ix,ar,ay,ch,r⟩,dk⟩:=h;have bO:=c3.loc d i (Nat.lt_succ_self d) bN;obtain⟨dI,p⟩:=q _ rfl;refine⟨⟨⟨C,e,ix,by rw[bO,dI,ar],ay,ch.mono c3,fun m b cap sz hm=>r m b cap sz (by rw[←d6];exact hm)⟩,fun o=>by rw[bO,p,dk]⟩,by simp [aT,bO]⟩
 |tok n=>obtain⟨b,cap,sz,ar,eU,⟨C,e,ix,ay,ch,dk⟩,r,y⟩:=h;have bO:=c3.kL d i n _ (Nat.lt_succ_self d) bN ar;obtain⟨dI,p⟩:=q b (by simp [aT,ar]);exact⟨⟨b,cap,sz,bO,eU,⟨C,e,ix,by rw[dI,ay],ch,dk⟩,fun o A=>by rw[p,r o A],fun m hm=>by rw[d6,y m hm]⟩,by simp [aT,ar,bO]⟩
 |map es=>obtain⟨eZ,clock,ar,ay⟩:=h;have bO:=c3.loc d i (Nat.lt_succ_self d) bN;obtain⟨dI,p⟩:=q _ rfl;exact⟨⟨eZ,clock,by rw[bO,dI,ar],ay.mono c3⟩,by simp [aT,bO]⟩
 |gone=>exact⟨trivial,rfl⟩
theorem cL.mn{κ:a5}{s:ag}{w:World}(aV:cL κ s w){d i:Nat}{o:cO}(h:s.get (.g d i)=some o):i<κ.n d:=by
 rw[ag.lV] at h;cases bO:s.an d with
 |none=>simp [bO] at h
 |some l=>rw[bO] at h;rw[←aV.len d l bO];exact(ez.1 h).1
theorem ag.fR{s:ag}{d i:Nat}{o:cO}(h:s.get (.g d i)=some o):d≤s.aa:=by
 rcases Nat.lt_trichotomy d s.aa with ar|ar|ar
 ·omega
 ·omega
 ·have ay:d≠s.aa:=by omega
  have ch:¬d<s.aa:=by omega
  simp [ag.get,ay,ch] at h
theorem cL.DD{κ:a5}{s:ag}{w:World}(aV:cL κ s w){d i:Nat}{o:cO}(h:s.get (.g d i)=some o):d<s.aa+1∧i<κ.n d:=⟨by have:=ag.fR h;omega,aV.mn h⟩
theorem cL.world{κ κ':a5}{s:ag}{w w':World}(aV:cL κ s w)(c3:f6 κ κ' (s.aa+1))(df:κ'.n=κ.n)(d6:κ'.kL=κ.kL)(ka:∀a v,κ'.F a=some v→a.spot=none∧w'.cell? a=some v)
  (q:∀b,Live κ s b→w'.heap[b]? =w.heap[b]?∧∀x,κ'.F ⟨b,x,none⟩=κ.F ⟨b,x,none⟩):cL κ' s w':=by
 have key:∀d i o,s.get (.g d i)=some o→wh κ' d i w' o∧aT κ' d i o=aT κ d i o:=fun d i o h=>(aV.obj d i o h).bC (aV.mn h) (c3.low (by have:=ag.fR h;omega)) (fun m=>by rw[d6]) (fun b r=>q b ⟨d,i,o,h,r⟩)
 refine⟨ka,fun d l h=>by rw[df];exact aV.len d l h,fun d i o h=>(key d i o h).1,fun d i o e3 gX o' b h p e hJ=>?_⟩;rw[(key d i o h).2] at e;rw[(key e3 gX o' p).2] at hJ;exact aV.inj d i o e3 gX o' b h p e hJ
def a5.freeze(κ:a5)(b fW:Nat)(C:Array Value):a5:=
 {κ with F:=fun a=>if a.block=b∧a.spot=none∧fW≤a.off∧a.off<C.size then C[a.off]? else κ.F a}
theorem nu{κ:a5}{b fW j:Nat}{C:Array Value}(h:fW≤j)(da:j<C.size):(κ.freeze b fW C).F ⟨b,j,none⟩=some C[j]:=by simp [a5.freeze,h,da]
theorem f6.freeze{κ:a5}{b fW:Nat}{C:Array Value}(e:∀j,fW≤j→κ.F ⟨b,j,none⟩=none)(D:Nat):f6 κ (κ.freeze b fW C) D:=by
 refine⟨fun a v h=>?_,fun _ _=>aC _,fun _ _ _ _=>rfl,fun _ _ _ _ _ _ h=>h⟩;simp only[a5.freeze];split
 ·rename_i aW;have ar:=e a.off aW.2.2.1
  have:a=⟨b,a.off,none⟩:=by cases a;simp_all
  rw[this,ar] at h;cases h
 ·exact h
theorem cL.py{κ:a5}{s:ag}{w:World}(aV:cL κ s w){a:Addr}(h:w.heap.size≤a.block):κ.F a=none:=by
 cases e:κ.F a with
 |none=>rfl
 |some v=>have:=n3 (aV.h6 a v e).2;omega
theorem cL.p0{κ:a5}{s:ag}{w w':World}(aV:cL κ s w)(C:Array Value)(e:TypeId)(ix:Nat×Nat)(hw:w'.heap=w.heap.push (.cells C e ix))(q:w'.os=w.os)(d6:w'.tape=w.tape)(hu:w'.output=w.output):
  cL (κ.freeze w.heap.size 0 C) s w'∧e0 κ s w (κ.freeze w.heap.size 0 C) s w':=by
 have hold:∀b,b<w.heap.size→w'.heap[b]? =w.heap[b]?:=fun b p=>by rw[hw,Array.getElem?_push];simp [Nat.ne_of_lt p]
 have r:w'.heap[w.heap.size]? =some (.cells C e ix):=by rw[hw];simp
 have c3:∀D,f6 κ (κ.freeze w.heap.size 0 C) D:=fun D=>f6.freeze (fun j _=>aV.py (aC _)) D
 refine⟨aV.world (c3 _) rfl rfl (fun a v h=>?_) (fun b p=>⟨hold b (aV.jo p),fun x=>?_⟩),⟨c3 _,rfl,by rw[hw];simp,q,d6,hu,fun b p _=>hold b p,fun b _ h=>h,fun a h=>?_⟩⟩
 ·simp only[a5.freeze] at h;split at h
  ·rename_i aW;refine⟨aW.2.1,?_⟩;have y:a=⟨w.heap.size,a.off,none⟩:=by cases a;simp_all
   rw[y,e4 r];exact h
  ·obtain⟨ar,ay⟩:=aV.h6 a v h;exact⟨ar,by rw[gl (hold _ (n3 ay))];exact ay⟩
 ·have:=aV.jo p;simp [a5.freeze,Nat.ne_of_lt this]
 ·simp only[a5.freeze] at h;split at h
  ·rename_i aW;exact .inr (.inl (by omega))
  ·exact .inl h
theorem cL.same{κ:a5}{s:ag}{w w':World}(aV:cL κ s w)(hw:w'.heap=w.heap)(e:w'.os=w.os)(d6:w'.tape=w.tape)(hu:w'.output=w.output):cL κ s w'∧e0 κ s w κ s w':=by refine⟨aV.world (.refl _ _) rfl rfl (fun a v h=>?_) (fun b _=>⟨by rw[hw],fun _=>rfl⟩),⟨.refl _ _,rfl,by rw[hw];exact aC _,e,d6,hu,fun b _ _=>by rw[hw],fun _ _ h=>h,fun _ h=>.inl h⟩⟩;obtain⟨ar,ay⟩:=aV.h6 a v h;exact⟨ar,by rw[gl (w:=w) (by rw[hw])];exact ay⟩
theorem ag.BC(s:ag)(o:cO):(s.new o).aa=s.aa:=rfl
theorem ag.LJ(s:ag)(o:cO)(d:Nat):(s.new o).an d=if d=s.aa then some (s.own++[o]) else s.an d:=by
 unfold ag.an;simp only[ag.BC];by_cases cF:d=s.aa
 ·simp [cF,ag.new]
 ·simp only[cF,↓reduceIte];rfl
structure hV (s s':ag) (d i:Nat) (o:cO):Prop where
 aa:s'.aa=s.aa
 le:d≤s.aa
 an:∀e3,s'.an e3=if e3=d then(s.an e3).map (· ++ [o]) else s.an e3
 here:∃l,s.an d=some l∧l.length=i
theorem hV.new(s:ag)(o:cO):hV s (s.new o) s.aa s.own.length o:=by
 refine⟨rfl,aC _,fun e3=>?_,s.own,by simp [ag.an],rfl⟩;rw[ag.LJ];split
 ·rename_i h;subst h;simp [ag.an]
 ·rfl
theorem hV.get{s s':ag}{d i:Nat}{o:cO}(h:hV s s' d i o)(e3 gX:Nat):s'.get (.g e3 gX)=if e3=d∧gX=i then some o else s.get (.g e3 gX):=by
 rw[ag.lV,ag.lV,h.an];obtain⟨l,ar,ay⟩:=h.here;by_cases cF:e3=d
 ·subst cF;simp only[↓reduceIte,ar,eb,fZ,true_and];by_cases bN:gX=i
  ·subst bN;simp [ay]
  ·rw[if_neg bN];by_cases e:gX<l.length
   ·rw[g1 e]
   ·rw[List.getElem?_eq_none (by simp;omega),List.getElem?_eq_none (by omega)]
 ·simp [cF]
theorem hV.by{s s':ag}{a l:Loc}{o:cO}(h:s.hk a o=some (l,s')):∃d i,l.aq s.aa=.g d i∧hV s s' d i o:=by
 cases a with
 |l j=>simp only[ag.hk,a8,eC] at h;obtain⟨rfl,rfl⟩:=h;exact⟨_,_,rfl,hV.new s o⟩
 |g d j=>
  simp only[ag.hk] at h;split at h
  ·simp only[a8,eC] at h;obtain⟨rfl,rfl⟩:=h;exact⟨_,_,rfl,hV.new s o⟩
  ·rename_i e6;split at h
   ·rename_i aW;cases bO:s.up[s.aa-1-d]? with
    |none=>rw[bO] at h;cases h
    |some rE=>
     rw[bO] at h;simp only[a8,eC] at h;obtain⟨rfl,rfl⟩:=h;have hlen:s.aa=s.up.length+s.ro.length:=rfl;have p:s.aa-1-d<s.up.length:=by omega
     have y:s.an d=some rE:=by simp only[ag.an,e6,↓reduceIte,aW.1];rw[g1 p,bO]
     have r:({s with up:=s.up.modify (s.aa-1-d) (· ++ [o])}:ag).aa=s.aa:=by simp [ag.aa]
     refine⟨d,rE.length,rfl,r,by omega,fun e3=>?_,rE,y,rfl⟩;unfold ag.an;rw[r];by_cases ar:e3=s.aa
     ·have:¬s.aa=d:=fun e=>e6 e.symm
      simp [ar,this]
     ·by_cases ch:e3<s.aa
      ·simp only[ar,↓reduceIte,ch];by_cases dk:e3=d
       ·subst dk;simp only[↓reduceIte];rw[g1 (by simpa using p),g1 p,List.getElem?_modify];simp
       ·simp only[dk,↓reduceIte];by_cases q:s.aa-1-e3<s.up.length
        ·rw[g1 (by simpa using q),g1 q,List.getElem?_modify];have f8:¬s.aa-1-d=s.aa-1-e3:=by omega
         simp [f8]
        ·rw[im (by simpa using q),im (by omega)];simp
      ·have:¬e3=d:=by omega
       simp [ar,ch,this]
   ·cases h
theorem cL.newObj{κ κ':a5}{s:ag}{w w':World}(aV:cL κ s w)(o:cO)(c3:f6 κ κ' (s.aa+1)){s':ag}{A J:Nat}(r:hV s s' A J o)(df:∀d,κ'.n d=if d=A then κ.n d+1 else κ.n d)(U:∀d i m,i<κ.n d→κ'.kL d i m=κ.kL d i m)
  (ka:κ'.F=κ.F∨∃fW C,(κ'.F=(κ.freeze w.heap.size fW C).F)∧∃M e ix,w'.heap[w.heap.size]? =some (.cells M e ix)∧∀(j:Nat) (x:Value),C[j]? =some x→M[j]? =some x)(hold:∀b,b<w.heap.size→w'.heap[b]? =w.heap[b]?)(eF:w.heap.size≤w'.heap.size)(V:w'.os=w.os)(d6:w'.tape=w.tape)(hu:w'.output=w.output)
  (Y:wh κ' A J w' o)(q:∀b,aT κ' A J o=some b→w.heap.size≤b):cL κ' s' w'∧e0 κ s w κ' s' w':=by
 have Z:∀b x,b<w.heap.size→κ'.F ⟨b,x,none⟩=κ.F ⟨b,x,none⟩:=by
  intro b x q;rcases ka with ka|⟨fW,C,ka,_⟩
  ·rw[ka]
  ·rw[ka];simp [a5.freeze,Nat.ne_of_lt q]
 have key:∀d i o,s.get (.g d i)=some o→wh κ' d i w' o∧aT κ' d i o=aT κ d i o:=fun d i o h=>(aV.obj d i o h).bC (aV.mn h) (c3.low (by have:=ag.fR h;omega)) (fun m=>U d i m (aV.mn h)) (fun b O=>by have B:=aV.jo ⟨d,i,o,h,O⟩;exact⟨hold b B,fun x=>Z b x B⟩)
 refine⟨⟨fun a v h=>?_,fun d l h=>?_,fun d i o' h=>?_,fun d i H e3 gX I b h p e hJ=>?_⟩,⟨c3,r.aa,eF,V,d6,hu,fun b q _=>hold b q,fun b O bO=>?_,fun a y=>?_⟩⟩
 ·rcases ka with ka|⟨fW,C,ka,M,e,ix,ke,ab⟩
  ·rw[ka] at h;obtain⟨ar,ay⟩:=aV.h6 a v h;exact⟨ar,by rw[gl (hold _ (n3 ay))];exact ay⟩
  ·rw[ka] at h;simp only[a5.freeze] at h;split at h
   ·rename_i aW;refine⟨aW.2.1,?_⟩;have y:a=⟨w.heap.size,a.off,none⟩:=by cases a;simp_all
    rw[y,e4 ke];exact ab _ _ h
   ·obtain⟨ar,ay⟩:=aV.h6 a v h;exact⟨ar,by rw[gl (hold _ (n3 ay))];exact ay⟩
 ·rw[r.an] at h;rw[df];split at h
  ·rename_i cF;cases bg:s.an d with
   |none=>rw[bg] at h;cases h
   |some l'=>rw[bg] at h;simp only[eb,a8] at h;rw[←h,if_pos cF,←aV.len d l' bg];simp
  ·rename_i cF;rw[if_neg cF];exact aV.len d l h
 ·rw[r.get] at h;split at h
  ·rename_i aW;obtain⟨rfl,rfl⟩:=aW;simp only[a8] at h;exact h ▸ Y
  ·exact(key d i o' h).1
 ·rw[r.get] at h p;split at h
  ·rename_i aW;obtain⟨rfl,rfl⟩:=aW;simp only[a8] at h;subst h;split at p
   ·rename_i kr;exact⟨kr.1.symm,kr.2.symm⟩
   ·rw[(key e3 gX I p).2] at hJ
    have:=aV.jo ⟨e3,gX,I,p,hJ⟩
    have:=q b e;omega
  ·split at p
   ·rename_i kr;obtain⟨rfl,rfl⟩:=kr;simp only[a8] at p;subst p;rw[(key d i H h).2] at e
    have:=aV.jo ⟨d,i,H,h,e⟩
    have:=q b hJ;omega
   ·rw[(key d i H h).2] at e;rw[(key e3 gX I p).2] at hJ;exact aV.inj d i H e3 gX I b h p e hJ
 ·obtain⟨d,i,o',cE,N⟩:=bO;rw[r.get] at cE;split at cE
  ·rename_i aW;obtain⟨rfl,rfl⟩:=aW;simp only[a8] at cE;subst cE
   have:=q b N;omega
  ·rw[(key d i o' cE).2] at N;exact⟨d,i,o',cE,N⟩
 ·by_cases B:a.block<w.heap.size
  ·left
   rcases ka with ka|⟨fW,C,ka,_⟩
   ·rwa [ka] at y
   ·rw[ka] at y;simpa [a5.freeze,Nat.ne_of_lt B] using y
  ·exact .inr (.inl (by omega))
theorem cL.n4{κ:a5}{s:ag}{w w':World}(aV:cL κ s w)(cs:List ae)(C:Array Value)(e:TypeId)(aW:d9 κ (s.aa+1) cs C.toList)(hw:w'.heap=w.heap.push (.cells C e (0,0)))(q:w'.os=w.os)(d6:w'.tape=w.tape)(hu:w'.output=w.output):
  ∃κ',cL κ' (s.new (.cells cs)) w'∧e0 κ s w κ' (s.new (.cells cs)) w'∧κ'.loc s.aa s.own.length=w.heap.size∧s.own.length<κ'.n s.aa:=by
 have r:s.own.length=κ.n s.aa:=aV.len s.aa s.own (by simp [ag.an])
 let κ':a5:={κ with n:=fun d=>if d=s.aa then κ.n d+1 else κ.n d,loc:=fun d i=>if d=s.aa∧i=s.own.length then w.heap.size else κ.loc d i,kL:=fun d i m=>if d=s.aa∧i=s.own.length then none else κ.kL d i m}
 have e6:∀d i,i<κ.n d→¬(d=s.aa∧i=s.own.length):=by
  rintro d i bN ⟨rfl,rfl⟩
  omega
 have c3:f6 κ κ' (s.aa+1):=by
  refine⟨fun _ _ h=>h,fun d _=>?_,fun d i _ bN=>?_,fun d i n x _ bN h=>?_⟩
  ·simp only[κ'];split<;> omega
  ·simp only[κ'];rw[if_neg (e6 d i bN)]
  ·simp only[κ'];rw[if_neg (e6 d i bN)];exact h
 have y:w'.heap[w.heap.size]? =some (.cells C e (0,0)):=by rw[hw];simp
 refine⟨κ',?_⟩
 have:=aV.newObj (κ':=κ') (w':=w') (.cells cs) c3 (hV.new s _) (fun d=>rfl) (fun d i m bN=>if_neg (e6 d i bN)) (.inl rfl) (fun b p=>by rw[hw,Array.getElem?_push];simp [Nat.ne_of_lt p]) (by rw[hw];simp) q d6 hu
  ⟨⟨C,e,(0,0),by simp [κ',y],fun j _=>by simp,by rw[show C.toList.take cs.length=C.toList from jC (by rw[aW.1];exact aC _)];exact aW.mono c3,fun m b cap sz h=>by simp [κ'] at h⟩,fun o=>aV.py (by simp [κ'])⟩ (fun b p=>by simp [aT,κ'] at p;omega)
 exact⟨this.1,this.2,by simp [κ'],by simp [κ',r]⟩
theorem ag.kX(s:ag)(a:Loc)(o:cO):s.set (a.aq s.aa) o=s.set a o:=by
 cases a with
 |l i=>simp [Loc.aq,ag.set]
 |g d i=>rfl
theorem r5(l:List (List cO))(n i:Nat)(o:cO)(m:Nat):(l.modify n (·.set i o))[m]? =if m=n then(l[m]?).map (·.set i o) else l[m]?:=by
 rw[List.getElem?_modify];by_cases h:m=n
 ·simp [h]
 ·simp [h,Ne.symm h]
theorem ag.tA{s s':ag}{d i:Nat}{o:cO}(h:s.set (.g d i) o=some s'):s'.aa=s.aa∧∀e3,s'.an e3=if e3=d then(s.an e3).map (·.set i o) else s.an e3:=by
 by_cases cF:d=s.aa
 ·simp only[ag.set,cF,↓reduceIte,a8] at h;subst h;refine⟨rfl,fun e3=>?_⟩;by_cases ar:e3=s.aa
  ·simp [ag.an,ag.aa,ar,cF]
  ·have y:¬e3=s.up.length+s.ro.length:=ar;simp only[ag.an,ag.aa,y,cF,↓reduceIte];rfl
 ·by_cases ay:d<s.aa∧s.ro.length≤d
  ·simp only[ag.set,cF,↓reduceIte,ay,and_self,a8] at h;subst h;have q:({s with up:=s.up.modify (s.aa-1-d) (·.set i o)}:ag).aa=s.aa:=by simp [ag.aa]
   refine⟨q,fun e3=>?_⟩;unfold ag.an;rw[q];by_cases ar:e3=s.aa
   ·have:¬s.aa=d:=fun e=>cF e.symm
    simp [ar,this]
   ·by_cases ch:e3<s.aa
    ·have hlen:s.aa=s.up.length+s.ro.length:=rfl;have r:s.aa-1-d<s.up.length:=by omega
     simp only[ar,↓reduceIte,ch];by_cases dk:e3=d
     ·subst dk;simp only[↓reduceIte];rw[g1 (by simpa using r),g1 r,r5];simp
     ·simp only[dk,↓reduceIte];by_cases p:s.aa-1-e3<s.up.length
      ·rw[g1 (by simpa using p),g1 p,r5,if_neg (by omega)]
      ·rw[im (by simpa using p),im (by omega)];simp
    ·by_cases dk:e3=d
     ·exact absurd (dk ▸ ay.1) ch
     ·simp [ar,ch,dk]
  ·have ch:¬(d<s.aa∧s.ro.length≤d):=ay;simp [ag.set,cF,ch] at h
theorem ag.p1{s s':ag}{d i:Nat}{o q:cO}(h:s.set (.g d i) o=some s')(cE:s.get (.g d i)=some q)(e3 gX:Nat):s'.get (.g e3 gX)=if e3=d∧gX=i then some o else s.get (.g e3 gX):=by
 rw[ag.lV,(ag.tA h).2 e3,ag.lV];by_cases cF:e3=d
 ·subst cF;rw[ag.lV] at cE;cases bg:s.an e3 with
  |none=>simp [bg] at cE
  |some l=>
   rw[bg] at cE;simp only[fZ] at cE;have bN:i<l.length:=(ez.1 cE).1;simp only[↓reduceIte,eb,fZ,true_and];by_cases p:gX=i
   ·subst p;simp [bN]
   ·rw[if_neg p,oZ (fun e=>p e.symm)]
 ·simp [cF]
theorem cL.setObj{κ κ':a5}{s s':ag}{w w':World}(aV:cL κ s w){d i:Nat}{o o':cO}(cE:s.get (.g d i)=some o)(U:s.set (.g d i) o'=some s')(c3:f6 κ κ' (s.aa+1))(df:κ'.n=κ.n)
  (ab:∀e3 gX m,¬(e3=d∧gX=i)→κ'.kL e3 gX m=κ.kL e3 gX m)(ka:∀a v,κ'.F a=some v→a.spot=none∧w'.cell? a=some v)
  (hold:∀b,b<w.heap.size→aT κ d i o≠some b→w'.heap[b]? =w.heap[b]?∧∀x,κ'.F ⟨b,x,none⟩=κ.F ⟨b,x,none⟩)
  (eF:w.heap.size≤w'.heap.size)(ac:w'.os=w.os)(d6:w'.tape=w.tape)(hu:w'.output=w.output)
  (ad:wh κ' d i w' o')(A:∀b,aT κ' d i o'=some b→aT κ d i o=some b∨w.heap.size≤b):cL κ' s' w'∧e0 κ s w κ' s' w':=by
 have J:=ag.p1 U cE;obtain⟨ae,bI⟩:=ag.tA U;have key:∀p q r,¬(p=d∧q=i)→s.get (.g p q)=some r→wh κ' p q w' r∧aT κ' p q r=aT κ p q r:=fun p q r e6 h=>(aV.obj p q r h).bC (aV.mn h) (c3.low (by have:=ag.fR h;omega)) (fun m=>ab p q m e6) (fun b M=>by have N:=aV.jo ⟨p,q,r,h,M⟩;exact hold b N (fun e=>e6 (aV.inj p q r d i o b h cE M e)))
 refine⟨⟨ka,fun p l h=>?_,fun p q r h=>?_,fun p q r B H I b h y e hJ=>?_⟩,⟨c3,ae,eF,ac,d6,hu,fun b A bO=>(hold b A (fun e=>bO ⟨d,i,o,cE,e⟩)).1,fun b M bO=>?_,fun a V=>?_⟩⟩
 ·rw[bI] at h;rw[df];split at h
  ·cases bg:s.an p with
   |none=>simp [bg] at h
   |some l'=>rw[bg] at h;simp only[eb,a8] at h;rw[←h];simpa using aV.len p l' bg
  ·exact aV.len p l h
 ·rw[J] at h;split at h
  ·rename_i aW;obtain⟨rfl,rfl⟩:=aW;simp only[a8] at h;exact h ▸ ad
  ·rename_i aW;exact(key p q r aW h).1
 ·rw[J] at h y;split at h
  ·rename_i aW;obtain⟨rfl,rfl⟩:=aW;simp only[a8] at h;subst h;split at y
   ·rename_i kr;exact⟨kr.1.symm,kr.2.symm⟩
   ·rename_i kr;rw[(key B H I kr y).2] at hJ;rcases A b e with ar|ar
    ·obtain⟨ay,ch⟩:=aV.inj B H I _ _ o b y cE hJ ar;exact absurd ⟨ay,ch⟩ kr
    ·have:=aV.jo ⟨B,H,I,y,hJ⟩;omega
  ·rename_i aW;rw[(key p q r aW h).2] at e;split at y
   ·rename_i kr;obtain⟨rfl,rfl⟩:=kr;simp only[a8] at y;subst y;rcases A b hJ with ar|ar
    ·obtain⟨ay,ch⟩:=aV.inj p q r _ _ o b h cE e ar;exact absurd ⟨ay,ch⟩ aW
    ·have:=aV.jo ⟨p,q,r,h,e⟩;omega
   ·rename_i kr;rw[(key B H I kr y).2] at hJ;exact aV.inj p q r B H I b h y e hJ
 ·obtain⟨p,q,r,h,O⟩:=bO;rw[J] at h;split at h
  ·rename_i aW;obtain⟨rfl,rfl⟩:=aW;simp only[a8] at h;subst h;rcases A b O with ar|ar
   ·exact⟨_,_,o,cE,ar⟩
   ·omega
  ·rename_i aW;rw[(key p q r aW h).2] at O;exact⟨p,q,r,h,O⟩
 ·by_cases N:a.block<w.heap.size
  ·by_cases Y:aT κ d i o=some a.block
   ·exact .inr (.inr ⟨d,i,o,cE,Y⟩)
   ·left
    cases aZ:κ'.F a with
    |none=>exact absurd aZ V
    |some v=>
     have af:=(ka a v aZ).1;have ar:=(hold a.block N Y).2 a.off;have Z:a=⟨a.block,a.off,none⟩:=by cases a;simp_all
     rw[Z,←ar,←Z];exact V
  ·exact .inr (.inl (by omega))
theorem p2{α:Type}:∀(l:List α) (off:Nat) (xs:List α) (n:Nat),off+xs.length≤n→(dO l off xs).take n=dO (l.take n) off xs
 |l,off,[],n,_=>rfl
 |l,off,x::xs,n,h=>by simp only[dO];rw[p2 _ _ xs n (by simp at h;omega)];congr 1;rw[List.take_set]
theorem cL.store{κ:a5}{s s':ag}{w:World}(aV:cL κ s w){d i off:Nat}{cs vs:List ae}{xs:List Value}(cE:s.get (.g d i)=some (.cells cs))(r:s.set (.g d i) (.cells (dO cs off vs))=some s')
  (bD:d9 κ (d+1) vs xs)(y:off+vs.length≤cs.length):cL κ s' (w.setCells (κ.loc d i) off xs)∧e0 κ s w κ s' (w.setCells (κ.loc d i) off xs):=by
 obtain⟨⟨C,e,ix,ar,ay,ch,A⟩,dk⟩:=aV.obj d i _ cE;have I:xs.length=vs.length:=bD.1;have J:cs.length≤C.size:=by have:=ch.1;simp at this;omega
 have p:=lX xs w (κ.loc d i) off C e ix ar (by omega);obtain⟨p3,rF,BD⟩:=lZ xs w (κ.loc d i) off;refine aV.setObj cE r (.refl _ _) rfl (fun _ _ _ _=>rfl) (fun a v h=>?_) (fun b _ q=>⟨?_,fun _=>rfl⟩) (by rw[lY];exact aC _) p3 rF BD ⟨⟨(dO C.toList off xs).toArray,e,ix,by rw[p];simp,by simpa [fs] using ay,by simpa [fs,p2 C.toList off xs cs.length (by omega)] using ch.dO bD y,fun m b cap sz hm=>by simpa [fs] using A m b cap sz hm⟩,dk⟩ (fun b q=>.inl q)
 ·obtain⟨B,F⟩:=aV.h6 a v h;refine⟨B,?_⟩;rw[gl (w:=w) ?_]
  ·exact F
  ·rw[p,if_neg];intro dI;have H:a=⟨κ.loc d i,a.off,none⟩:=by cases a;simp_all
   rw[H,dk] at h;cases h
 ·rw[p,if_neg (fun dI=>q (by simp [aT,dI]))]
theorem cL.BE{κ:a5}{s s':ag}{w:World}(aV:cL κ s w){d i:Nat}{cs:List ae}(cE:s.get (.g d i)=some (.cells cs))(q:s.set (.g d i) .gone=some s'):
  ∃C e ix,w.heap[κ.loc d i]? =some (.cells C e ix)∧d9 κ (d+1) cs (C.toList.take cs.length)∧cL (κ.freeze (κ.loc d i) 0 C) s' w∧e0 κ s w (κ.freeze (κ.loc d i) 0 C) s' w:=by
 obtain⟨⟨C,e,ix,ar,ay,ch,_⟩,dk⟩:=aV.obj d i _ cE;refine⟨C,e,ix,ar,ch,?_⟩;refine aV.setObj cE q (f6.freeze (fun j _=>dk j) _) rfl (fun _ _ _ _=>rfl) (fun a v h=>?_) (fun b _ p=>⟨rfl,fun x=>?_⟩) (aC _) rfl rfl rfl trivial (fun b p=>by simp [aT] at p)
 ·simp only[a5.freeze] at h;split at h
  ·rename_i aW;refine⟨aW.2.1,?_⟩;have r:a=⟨κ.loc d i,a.off,none⟩:=by cases a;simp_all
   rw[r,e4 ar];exact h
  ·exact aV.h6 a v h
 ·simp only[aT,ne_eq,a8] at p;simp [a5.freeze,Ne.symm p]
theorem cL.LK{κ:a5}{s s':ag}{w w':World}(aV:cL κ s w){q r:Nat}(A:hV s s' q r (.map []))(hw:w'.heap=w.heap.push (.map #[] 0))(B:w'.os=w.os)(d6:w'.tape=w.tape)(hu:w'.output=w.output):
  ∃κ',cL κ' s' w'∧e0 κ s w κ' s' w'∧κ'.loc q r=w.heap.size∧r<κ'.n q:=by
 have F:r=κ.n q:=by obtain⟨l,ar,ay⟩:=A.here;rw[←ay];exact aV.len q l ar
 let κ':a5:={κ with n:=fun d=>if d=q then κ.n d+1 else κ.n d,loc:=fun d i=>if d=q∧i=r then w.heap.size else κ.loc d i}
 have c3:f6 κ κ' (s.aa+1):=by
  refine⟨fun _ _ h=>h,fun d _=>?_,fun d i _ bN=>?_,fun _ _ _ _ _ _ h=>h⟩
  ·simp only[κ'];split<;> omega
  ·simp only[κ'];rw[if_neg]
   rintro ⟨rfl,rfl⟩
   omega
 have H:w'.heap[w.heap.size]? =some (.map #[] 0):=by rw[hw];simp
 refine⟨κ',?_⟩
 have:=aV.newObj (κ':=κ') (w':=w') (.map []) c3 A (fun d=>rfl) (fun _ _ _ _=>rfl) (.inl rfl) (fun b y=>by rw[hw,Array.getElem?_push];simp [Nat.ne_of_lt y]) (by rw[hw];simp) B d6 hu
  ⟨#[],0,by simp [κ',H],rfl,fun j p e gb=>by simp at gb⟩ (fun b y=>by simp [aT,κ'] at y;omega)
 exact⟨this.1,this.2,by simp [κ'],by simp [κ',F]⟩
theorem cL.DE{κ:a5}{s s':ag}{w:World}(aV:cL κ s w){d i:Nat}{es y:List (ae×ae)}{eZ:Array MapEntry}{clock:Nat}(cE:s.get (.g d i)=some (.map es))(A:s.set (.g d i) (.map y)=some s')(hm:lU κ (d+1) y eZ.toList):
  cL κ s' {w with heap:=w.heap.setIfInBounds (κ.loc d i) (.map eZ clock)}∧e0 κ s w κ s' {w with heap:=w.heap.setIfInBounds (κ.loc d i) (.map eZ clock)}:=by
 obtain⟨H,I,ar,ay⟩:=aV.obj d i _ cE;have B:κ.loc d i<w.heap.size:=(Array.getElem?_eq_some_iff.1 ar).1;have q:∀b,(w.heap.setIfInBounds (κ.loc d i) (.map eZ clock))[b]? =if b=κ.loc d i then some (.map eZ clock) else w.heap[b]?:=by
  intro b;rw[Array.getElem?_setIfInBounds];by_cases p:κ.loc d i=b
  ·subst p;simp [B]
  ·have:¬b=κ.loc d i:=fun e=>p e.symm
   simp [p,this]
 refine aV.setObj (w':={w with heap:=w.heap.setIfInBounds (κ.loc d i) (.map eZ clock)}) cE A (.refl _ _) rfl (fun _ _ _ _=>rfl) (fun a v h=>?_) (fun b _ p=>⟨?_,fun _=>rfl⟩) (by simp) rfl rfl rfl ⟨eZ,clock,by simp [q],hm⟩ (fun b p=>.inl p)
 ·obtain⟨F,r⟩:=aV.h6 a v h;refine⟨F,?_⟩;rw[gl (w:=w) ?_]
  ·exact r
  ·show(w.heap.setIfInBounds _ _)[_]? =_;rw[q,if_neg];intro dI
   have:w.cell? a=none:=by simp [World.cell?,dI,ar]
   rw[this] at r;cases r
 ·show(w.heap.setIfInBounds _ _)[_]? =_;rw[q,if_neg (fun dI=>p (by simp [aT,dI]))]
theorem cL.DF{κ:a5}{s:ag}{w w':World}(aV:cL κ s w){s':ag}{p q:Nat}(C:Array Value)(e:TypeId)(n sz cap:Nat)(y:hV s s' p q (.tok n))(ke:C.size=cap*sz)(df:n≤cap)(hw:w'.heap=w.heap.push (.cells C e (0,0)))(H:w'.os=w.os)(d6:w'.tape=w.tape)(hu:w'.output=w.output):
  ∃κ',cL κ' s' w'∧e0 κ s w κ' s' w'∧q<κ'.n p∧κ'.kL p q n=some (⟨w.heap.size,0,none⟩,cap,sz)∧∀j,j<n*sz→κ'.F ⟨w.heap.size,j,none⟩=C[j]?:=by
 have I:q=κ.n p:=by obtain⟨l,ar,ay⟩:=y.here;rw[←ay];exact aV.len p l ar
 have hle:n*sz≤C.size:=by rw[ke];exact fi _ df
 have A:((C.toList.take (n*sz)).toArray).size=n*sz:=by simp;omega
 let κ':a5:={(κ.freeze w.heap.size 0 (C.toList.take (n*sz)).toArray) with n:=fun d=>if d=p then κ.n d+1 else κ.n d,kL:=fun d i m=>if d=p∧i=q then(if m=n then some (⟨w.heap.size,0,none⟩,cap,sz) else none) else κ.kL d i m}
 have c3:f6 κ κ' (s.aa+1):=by
  refine⟨fun a v h=>?_,fun d _=>?_,fun _ _ _ _=>rfl,fun d i m x _ bN h=>?_⟩
  ·exact(f6.freeze (fun j _=>aV.py (aC _)) (s.aa+1)).F a v h
  ·simp only[κ'];split<;> omega
  ·simp only[κ'];rw[if_neg]
   ·exact h
   ·rintro ⟨rfl,rfl⟩;omega
 have B:w'.heap[w.heap.size]? =some (.cells C e (0,0)):=by rw[hw];simp
 have J:∀j,j<n*sz→κ'.F ⟨w.heap.size,j,none⟩=C[j]?:=by intro j da;simp only[κ',a5.freeze];rw[if_pos (⟨trivial,trivial,Nat.zero_le _,by rw[A];exact da⟩:True∧True∧0≤j∧j<((C.toList.take (n*sz)).toArray).size)];simp [da]
 have hold:∀b,b<w.heap.size→w'.heap[b]? =w.heap[b]?:=fun b r=>by rw[hw,Array.getElem?_push];simp [Nat.ne_of_lt r]
 refine⟨κ',?_⟩;have main:=aV.newObj (κ':=κ') (w':=w') (.tok n) c3 y (fun d=>rfl) (fun d i m bN=>?_) ?ka hold (by rw[hw];simp) H d6 hu
  ⟨w.heap.size,cap,sz,by simp [κ'],df,⟨C,e,(0,0),B,Nat.le_of_eq ke.symm,fun j _=>by simp⟩,fun o ar=>?_,fun m hm=>?_⟩ (fun b r=>?_)
 case ka=>exact .inr ⟨0,(C.toList.take (n*sz)).toArray,rfl,C,e,(0,0),B,fun j x aZ=>by
  rw[List.getElem?_toArray,List.getElem?_take] at aZ;split at aZ
  ·simpa using aZ
  ·cases aZ⟩
 ·exact⟨main.1,main.2,by simp [κ',I],by simp [κ'],J⟩
 ·simp only[κ'];rw[if_neg]
  rintro ⟨rfl,rfl⟩
  omega
 ·simp only[κ',a5.freeze];rw[if_neg (by intro h;have:=h.2.2.2;rw[A] at this;omega)];exact aV.py (aC _)
 ·simp only[κ'];rw[if_pos (by simp),if_neg (by omega)]
 ·simp [aT,κ'] at r;omega
theorem cL.He{κ:a5}{s s':ag}{w:World}(aV:cL κ s w){d i n m b cap sz:Nat}(cE:s.get (.g d i)=some (.tok n))(B:κ.kL d i n=some (⟨b,0,none⟩,cap,sz))(V:s.set (.g d i) (.tok m)=some s')
  (Y:n<m)(hm:m≤cap)(xs:List Value)(aZ:xs.length=(m-n)*sz):
  ∃κ',cL κ' s' (w.setCells b (n*sz) xs)∧e0 κ s w κ' s' (w.setCells b (n*sz) xs)∧κ'.kL d i m=some (⟨b,0,none⟩,cap,sz)∧∀j x,xs[j]? =some x→κ'.F ⟨b,n*sz+j,none⟩=some x:=by
 obtain⟨I,ac,ad,ar,eU,⟨C,e,ix,ay,ch,dk⟩,J,M⟩:=aV.obj d i _ cE;rw[B] at ar;simp only[a8,eC,Addr.mk.injEq,and_true] at ar;obtain⟨rfl,rfl,rfl⟩:=ar;obtain⟨ae,af⟩:=aV.DD cE;have hmul:n*sz+(m-n)*sz=m*sz:=by rw[←eL];congr 1;omega
 have hle:m*sz≤C.size:=Nat.le_trans (fi _ hm) ch;have r:=lX xs w b (n*sz) C e ix ay (by omega);obtain⟨p3,rF,BD⟩:=lZ xs w b (n*sz)
 let E:Array Value:=((dO C.toList (n*sz) xs).take (m*sz)).toArray
 have bh:E.size=m*sz:=by simp [E,fs];omega
 have N:∀j,n*sz≤j→j<m*sz→E[j]? =xs[j-n*sz]?:=by intro j da tB;simp only[E,List.getElem?_toArray,List.getElem?_take,tB,↓reduceIte];rw[gw _ _ _ (by simp;omega),if_pos ⟨da,by omega⟩]
 let κ':a5:={(κ.freeze b (n*sz) E) with kL:=fun e3 gX iS=>if e3=d∧gX=i∧iS=m then some (⟨b,0,none⟩,cap,sz) else κ.kL e3 gX iS}
 have c3:f6 κ κ' (s.aa+1):=by
  refine⟨fun a v h=>(f6.freeze (fun j da=>J j da) (s.aa+1)).F a v h,fun _ _=>aC _,fun _ _ _ _=>rfl,fun e3 gX iS x _ _ h=>?_⟩;simp only[κ'];split
  ·rename_i aW;obtain⟨rfl,rfl,rfl⟩:=aW;rw[M _ Y] at h;cases h
  ·exact h
 have ka:∀a v,κ'.F a=some v→a.spot=none∧(w.setCells b (n*sz) xs).cell? a=some v:=by
  intro a v h;simp only[κ',a5.freeze] at h;split at h
  ·rename_i aW;obtain⟨dY,Z,O,U⟩:=aW;rw[bh] at U;refine⟨Z,?_⟩;have y:a=⟨b,a.off,none⟩:=by cases a;simp_all
   rw[y,e4 (by rw[r,if_pos rfl])];rw[N _ O U] at h;rw[List.getElem?_toArray,gw _ _ _ (by simp;omega),if_pos ⟨O,by omega⟩];exact h
  ·obtain⟨H,p⟩:=aV.h6 a v h;refine⟨H,?_⟩;by_cases ab:a.block=b
   ·have y:a=⟨b,a.off,none⟩:=by cases a;simp_all
    have ah:a.off<n*sz:=by
     rcases Nat.lt_or_ge a.off (n*sz) with q|q
     ·exact q
     ·rw[y,J _ q] at h;cases h
    rw[y,e4 ay] at p;rw[y,e4 (by rw[r,if_pos rfl]),List.getElem?_toArray,gw _ _ _ (by simp;omega),if_neg (by omega)];simpa using p
   ·rw[gl (w:=w) (by rw[r,if_neg ab])];exact p
 refine⟨κ',?_⟩;have main:=aV.setObj (κ':=κ') (w':=w.setCells b (n*sz) xs) cE V c3 rfl (fun e3 gX iS e6=>?_) ka (fun I _ A=>⟨?_,fun x=>?_⟩) (by rw[lY];exact aC _) p3 rF BD
  ⟨b,cap,sz,by simp [κ'],hm,⟨(dO C.toList (n*sz) xs).toArray,e,ix,by rw[r];simp,by simpa [fs] using ch,by simpa [fs] using dk⟩,fun o ai=>?_,fun iS aj=>?_⟩ (fun I A=>?_)
 ·refine⟨main.1,main.2,by simp [κ'],fun j x da=>?_⟩;have ak:j<xs.length:=(ez.1 da).1;have H:n*sz≤n*sz+j:=Nat.le_add_right _ _;have p:n*sz+j<m*sz:=by omega
  simp only[κ',a5.freeze];rw[if_pos (⟨trivial,trivial,H,by rw[bh];exact p⟩:True∧True∧n*sz≤n*sz+j∧n*sz+j<E.size),N _ H p,Nat.add_sub_cancel_left,da]
 ·simp only[κ'];rw[if_neg]
  rintro ⟨rfl,rfl,_⟩
  exact e6 ⟨rfl,rfl⟩
 ·rw[r,if_neg]
  rintro rfl
  exact A (by simp [aT,B])
 ·have:I≠b:=by rintro rfl;exact A (by simp [aT,B])
  simp [κ',a5.freeze,this]
 ·simp only[κ',a5.freeze];rw[if_neg]
  ·exact J o (by omega)
  ·rintro ⟨_,_,_,q⟩
   rw[bh] at q;omega
 ·simp only[κ'];rw[if_neg (by omega)];exact M iS (by omega)
 ·left
  simp [aT,κ'] at A;simp [aT,B,A]
theorem cL.Hf{κ:a5}{s s':ag}{w w':World}(aV:cL κ s w){d i n m:Nat}(cE:s.get (.g d i)=some (.tok n))(I:s.set (.g d i) (.tok m)=some s')(J:n<m)
  (C:Array Value)(e:TypeId)(cap sz:Nat)(ke:C.size=cap*sz)(hm:m≤cap)(hw:w'.heap=w.heap.push (.cells C e (0,0)))(M:w'.os=w.os)(d6:w'.tape=w.tape)(hu:w'.output=w.output):
  ∃κ',cL κ' s' w'∧e0 κ s w κ' s' w'∧κ'.kL d i m=some (⟨w.heap.size,0,none⟩,cap,sz)∧∀j,j<m*sz→κ'.F ⟨w.heap.size,j,none⟩=C[j]?:=by
 obtain⟨b,Z,ab,ar,eU,⟨ac,hJ,ad,ay,ch,dk⟩,ae,r⟩:=aV.obj d i _ cE;obtain⟨af,ah⟩:=aV.DD cE;have hle:m*sz≤C.size:=by rw[ke];exact fi _ hm
 have q:((C.toList.take (m*sz)).toArray).size=m*sz:=by simp;omega
 have hold:∀b,b<w.heap.size→w'.heap[b]? =w.heap[b]?:=fun b N=>by rw[hw,Array.getElem?_push];simp [Nat.ne_of_lt N]
 have y:w'.heap[w.heap.size]? =some (.cells C e (0,0)):=by rw[hw];simp
 let κ':a5:={(κ.freeze w.heap.size 0 (C.toList.take (m*sz)).toArray) with kL:=fun e3 gX iS=>if e3=d∧gX=i∧iS=m then some (⟨w.heap.size,0,none⟩,cap,sz) else κ.kL e3 gX iS}
 have c3:f6 κ κ' (s.aa+1):=by
  refine⟨fun a v h=>(f6.freeze (fun j da=>aV.py (aC _)) (s.aa+1)).F a v h,fun _ _=>aC _,fun _ _ _ _=>rfl,fun e3 gX iS x _ _ h=>?_⟩;simp only[κ'];split
  ·rename_i aW;obtain⟨rfl,rfl,rfl⟩:=aW;rw[r _ J] at h;cases h
  ·exact h
 have O:∀j,j<m*sz→κ'.F ⟨w.heap.size,j,none⟩=C[j]?:=by intro j da;simp only[κ',a5.freeze];rw[if_pos (⟨trivial,trivial,Nat.zero_le _,by rw[q];exact da⟩:True∧True∧0≤j∧j<((C.toList.take (m*sz)).toArray).size)];simp [da]
 refine⟨κ',?_⟩;have main:=aV.setObj (κ':=κ') (w':=w') cE I c3 rfl (fun e3 gX iS e6=>?_) (fun a v h=>?_) (fun A p _=>⟨hold A p,fun x=>?_⟩) (by rw[hw];simp) M d6 hu
  ⟨w.heap.size,cap,sz,by simp [κ'],hm,⟨C,e,(0,0),y,Nat.le_of_eq ke.symm,fun j _=>by simp⟩,fun o ai=>?_,fun iS aj=>?_⟩ (fun A p=>?_)
 ·exact⟨main.1,main.2,by simp [κ'],O⟩
 ·simp only[κ'];rw[if_neg]
  rintro ⟨rfl,rfl,_⟩
  exact e6 ⟨rfl,rfl⟩
 ·simp only[κ',a5.freeze] at h;split at h
  ·rename_i aW;obtain⟨dY,U,ak,B⟩:=aW;rw[q] at B;refine⟨U,?_⟩;have V:a=⟨w.heap.size,a.off,none⟩:=by cases a;simp_all
   rw[V,e4 y];rw[List.getElem?_toArray,List.getElem?_take] at h;simpa [B] using h
  ·obtain⟨Y,H⟩:=aV.h6 a v h;exact⟨Y,by rw[gl (hold _ (n3 H))];exact H⟩
 ·simp [κ',a5.freeze,Nat.ne_of_lt p]
 ·simp only[κ',a5.freeze];rw[if_neg (by intro h;have:=h.2.2.2;rw[q] at this;omega)];exact aV.py (aC _)
 ·simp only[κ'];rw[if_neg (by omega)];exact r iS (by omega)
 ·right
  simp [aT,κ'] at p;omega
def ag.push(s:ag):ag:={own:=[],up:=s.own::s.up,ro:=s.ro}
theorem ag.iG(s:ag):s.push.aa=s.aa+1:=by simp [ag.push,ag.aa];omega
theorem ag.p4(s:ag)(d:Nat):s.push.an d=if d=s.aa+1 then some [] else s.an d:=by
 unfold ag.an;rw[ag.iG];by_cases ar:d=s.aa+1
 ·simp [ar,ag.push]
 ·simp only[ar,↓reduceIte];by_cases ay:d=s.aa
  ·simp [ay,ag.push]
  ·by_cases ch:d<s.aa
   ·have dk:d<s.aa+1:=by omega
    simp only[ay,ch,dk,↓reduceIte,ag.push];rw[show s.aa+1-1-d=(s.aa-1-d)+1 by omega,List.cons_append,List.getElem?_cons_succ]
   ·have dk:¬d<s.aa+1:=by omega
    simp [ay,ch,dk]
theorem ag.m0(s:ag)(d i:Nat):s.push.get (.g d i)=s.get (.g d i):=by
 rw[ag.lV,ag.lV,ag.p4];by_cases h:d=s.aa+1
 ·subst h;have ar:s.an (s.aa+1)=none:=by
   have q:¬s.aa+1<s.aa:=by omega
   simp [ag.an,q]
  simp [ar]
 ·simp [h]
theorem cL.push{κ:a5}{s:ag}{w:World}(aV:cL κ s w):∃κ',cL κ' s.push w∧f6 κ κ' (s.aa+1)∧κ'.F=κ.F∧∀d i o,s.get (.g d i)=some o→aT κ' d i o=aT κ d i o:=by
 refine⟨{κ with n:=fun d=>if d=s.aa+1 then 0 else κ.n d},?_⟩;have c3:f6 κ {κ with n:=fun d=>if d=s.aa+1 then 0 else κ.n d} (s.aa+1):=by refine⟨fun _ _ h=>h,fun d cF=>?_,fun _ _ _ _=>rfl,fun _ _ _ _ _ _ h=>h⟩;simp only;rw[if_neg (by omega)];exact aC _
 have key:∀d i o,s.get (.g d i)=some o→wh {κ with n:=fun d=>if d=s.aa+1 then 0 else κ.n d} d i w o∧aT {κ with n:=fun d=>if d=s.aa+1 then 0 else κ.n d} d i o=aT κ d i o:=fun d i o h=>(aV.obj d i o h).bC (aV.mn h) (c3.low (by have:=ag.fR h;omega)) (fun m=>rfl) (fun b _=>⟨rfl,fun _=>rfl⟩)
 refine⟨⟨aV.h6,fun d l h=>?_,fun d i o h=>?_,fun d i o e3 gX o' b h p e hJ=>?_⟩,c3,rfl,fun d i o h=>(key d i o h).2⟩
 ·rw[ag.p4] at h;split at h
  ·rename_i cF;simp only[a8] at h;simp [←h,cF]
  ·rename_i cF;simp only[cF,↓reduceIte];exact aV.len d l h
 ·rw[ag.m0] at h;exact(key d i o h).1
 ·rw[ag.m0] at h p;rw[(key d i o h).2] at e;rw[(key e3 gX o' p).2] at hJ;exact aV.inj d i o e3 gX o' b h p e hJ
theorem ag.tC{s:ag}{own:List cO}{up:List (List cO)}(h:s.up=own::up):({own,up,ro:=s.ro}:ag).push= {s with own:=[]}:=by simp [ag.push,h]
theorem ag.p5{s:ag}{own:List cO}{up:List (List cO)}(h:s.up=own::up){d i:Nat}{o:cO}(cE:({own,up,ro:=s.ro}:ag).get (.g d i)=some o):s.get (.g d i)=some o:=by
 have cF:=ag.fR cE;rw[←ag.m0,ag.tC h] at cE;have p:s.aa=({own,up,ro:=s.ro}:ag).aa+1:=by simp [ag.aa,h];omega
 have e6:d≠s.aa:=by omega
 unfold ag.get at cE ⊢;have e:({s with own:=[]}:ag).aa=s.aa:=rfl;rw[e] at cE;simp only[e6,↓reduceIte] at cE ⊢;exact cE
theorem cL.pop{κ:a5}{s:ag}{w:World}(aV:cL κ s w){own:List cO}{up:List (List cO)}(h:s.up=own::up):cL κ {own,up,ro:=s.ro} w:=by
 refine⟨aV.h6,fun d l cF=>?_,fun d i o cE=>aV.obj d i o (ag.p5 h cE),fun d i o e3 gX o' b cE p=>aV.inj d i o e3 gX o' b (ag.p5 h cE) (ag.p5 h p)⟩;have A:s.aa=({own,up,ro:=s.ro}:ag).aa+1:=by simp [ag.aa,h];omega
 have B:d≤({own,up,ro:=s.ro}:ag).aa:=by
  rcases Nat.lt_or_ge ({own,up,ro:=s.ro}:ag).aa d with q|q
  ·have r:d≠({own,up,ro:=s.ro}:ag).aa:=by omega
   have y:¬d<({own,up,ro:=s.ro}:ag).aa:=by omega
   simp [ag.an,r,y] at cF
  ·exact q
 have q:({own,up,ro:=s.ro}:ag).push.an d=some l:=by rw[ag.p4,if_neg (by omega)];exact cF
 rw[ag.tC h] at q;refine aV.len d l ?_;unfold ag.an at q ⊢;have e:({s with own:=[]}:ag).aa=s.aa:=rfl;rw[e] at q;have e6:d≠s.aa:=by omega
 simp only[e6,↓reduceIte] at q ⊢;exact q
theorem cL.empty{κ:a5}{s:ag}{w:World}(aV:cL κ s w):cL {κ with n:=fun _=>0} {own:=[],up:=[],ro:=[]} w:=by
 have e:∀d i,({own:=[],up:=[],ro:=[]}:ag).get (.g d i)=none:=by intro d i;simp [ag.get]
 refine⟨aV.h6,fun d l h=>?_,fun d i o h=>?_,fun d i o e3 gX o' b h=>?_⟩
 ·unfold ag.an at h;simp at h;simp [h]
 ·rw[e] at h;cases h
 ·rw[e] at h;cases h
def tD:List ae→ga→Value→Bool
 |[],.nil,.slice none 0 0=>true
 |_,_,_=>false
theorem tE{es:List ae}{g:ga}{x:Value}(h:tD es g x=true):es=[]∧g=.nil∧x=.slice none 0 0:=by
 unfold tD at h;split at h
 ·exact⟨rfl,rfl,rfl⟩
 ·cases h
def w7:Value→Bool
 |.pointer none=>true
 |_=>false
theorem vp{x:Value}(h:w7 x=true):x=.pointer none:=by
 unfold w7 at h;split at h
 ·rfl
 ·cases h
def w8:Value→Bool
 |.map none=>true
 |_=>false
theorem vq{x:Value}(h:w8 x=true):x=.map none:=by
 unfold w8 at h;split at h
 ·rfl
 ·cases h
mutual
def gY:ae→Value→Bool
 |.bool a,.bool b=>a==b
 |.int k a,.int lk b=>decide (k=lk)&&a==b
 |.str eB,.string s=>eB==s.data.toList.map UInt8.toNat
 |.cm _ es g,x=>tD es g x
 |.hv,x=>w7 x
 |.hK,.nilFunc=>true
 |.eX,x=>w8 x
 |.hx,.nilIface=>true
 |.agg cs,.agg xs=>mo cs xs.toList
 |.d7 [],.tuple xs=>xs.size==0
 |_,_=>false
def mo:List ae→List Value→Bool
 |[],[]=>true
 |c::cs,x::xs=>gY c x&&mo cs xs
 |_,_=>false
end
mutual
theorem nv:∀(v:ae) (x:Value),gY v x=true→(∀κ D,ds κ D v x)∧v.bj=true
 |.bool a,x,h=>by cases x<;> simp [gY] at h;subst h;exact⟨fun _ _=>.bool a,rfl⟩
 |.int k a,x,h=>by cases x<;> simp [gY] at h;obtain⟨rfl,rfl⟩:=h;exact⟨fun _ _=>.int k a,rfl⟩
 |.str eB,x,h=>by cases x<;> simp [gY] at h;exact⟨fun _ _=>.str eB _ h.symm,rfl⟩
 |.cm sz es g,x,h=>by simp only[gY] at h;obtain⟨rfl,rfl,rfl⟩:=tE h;exact⟨fun _ _=>.kn sz,rfl⟩
 |.hv,x,h=>by simp only[gY] at h;rw[vp h];exact⟨fun _ _=>.hv,rfl⟩
 |.hK,x,h=>by cases x<;> simp [gY] at h;exact⟨fun _ _=>.hK,rfl⟩
 |.eX,x,h=>by simp only[gY] at h;rw[vq h];exact⟨fun _ _=>.eX,rfl⟩
 |.hx,x,h=>by cases x<;> simp [gY] at h;exact⟨fun _ _=>.hx,rfl⟩
 |.agg cs,x,h=>by cases x<;> simp [gY] at h;rename_i xs;obtain⟨ar,ay⟩:=mN cs xs.toList h;exact⟨fun κ D=>by simpa using ds.agg cs xs.toList (ar κ D).1 (ar κ D).2,by simpa [ae.bj] using ay⟩
 |.d7 cs,x,h=>by
  cases cs with
  |nil=>cases x<;> simp [gY] at h;rename_i xs;subst h;exact⟨fun κ D=>.d7 [] [] rfl (fun j c x aW=>by simp at aW),rfl⟩
  |cons c cs=>cases x<;> simp [gY] at h
 |.dead,x,h=>by cases x<;> simp [gY] at h
 |.cD ..,x,h=>by cases x<;> simp [gY] at h
 |.ref ..,x,h=>by cases x<;> simp [gY] at h
 |.bU ..,x,h=>by cases x<;> simp [gY] at h
 |.fn ..,x,h=>by cases x<;> simp [gY] at h
 |.map ..,x,h=>by cases x<;> simp [gY] at h
 |.iface ..,x,h=>by cases x<;> simp [gY] at h
theorem mN:∀(cs:List ae) (xs:List Value),mo cs xs=true→(∀κ D,d9 κ D cs xs)∧ae.a6 cs=true
 |[],[],_=>⟨fun κ D=>.nil κ D,rfl⟩
 |[],x::xs,h=>by simp [mo] at h
 |c::cs,[],h=>by simp [mo] at h
 |c::cs,x::xs,h=>by simp only[mo,bm] at h;obtain⟨ar,ay⟩:=nv c x h.1;obtain⟨ch,dk⟩:=mN cs xs h.2;exact⟨fun κ D=>.cons (ar κ D) (ch κ D),by simp [ae.a6,ay,dk]⟩
end
def cp:br→Operand→Bool
 |.t n,.tmp m=>n==m
 |.c v,.const x=>gY v x
 |.c (.fn f []),.func g=>f==g
 |.g n,.global m=>n==m
 |.at n _ _,.tmp m=>n==m
 |_,_=>false
def dp:List br→List Operand→Bool
 |[],[]=>true
 |x::xs,y::e=>cp x y&&dp xs e
 |_,_=>false
def fa:Option br→Option Operand→Bool
 |none,none=>true
 |some x,some y=>cp x y
 |_,_=>false
def jR(κ:a5)(G:Nat→ae):Prop:=∀n,ds κ 0 (G n) (.pointer (some ⟨n,0,none⟩))∧(G n).bj=true
theorem jR.mono{κ κ':a5}{G:Nat→ae}(h:jR κ G){D:Nat}(k:f6 κ κ' D):jR κ' G:=fun n=>⟨(h n).1.mono (k.low (Nat.zero_le D)),(h n).2⟩
theorem bk{κ:a5}{s:ag}{an:Nat→ae}{a:Act}{G:Nat→ae}(bg:vj κ s an a)(dM:jR κ G){x:br}{y:Operand}(h:cp x y=true):ds κ (s.aa+1) ((ap G an x).aq s.aa) (a.eval y):=by
 cases x with
 |t n=>cases y<;> simp [cp] at h;subst h;exact bg n
 |c v=>
  cases y with
  |const x=>
   have p:gY v x=true:=by cases v<;> simpa [cp] using h
   obtain⟨ar,ay⟩:=nv v x p;simp only[ap,iV ay,Act.eval];exact ar _ _
  |func g=>
   cases v<;> simp [cp] at h;rename_i f dw;cases dw with
   |nil=>simp [cp] at h;subst h;exact .fn f [] [] rfl (fun j c x aW=>by simp at aW)
   |cons c cs=>simp [cp] at h
  |tmp m=>cases v<;> simp [cp] at h
  |global m=>cases v<;> simp [cp] at h
 |g n=>cases y<;> simp [cp] at h;subst h;obtain⟨ar,ay⟩:=dM n;simp only[ap,iV ay,Act.eval];exact ar.up (Nat.zero_le _)
 | «at» n b off=>
  cases y<;> simp [cp] at h;subst h;simp only[ap];rcases DC (an n) (an b) off with e|⟨e,_⟩
  ·rw[e];exact .dead _
  ·rw[e];exact bg n
 |LG b off=>cases y<;> simp [cp] at h
section
variable{κ:a5}{D:Nat}{x:Value}
theorem ds.ef{k:IntKind}{n:Int}(h:ds κ D (.int k n) x):x=.int k n:=by cases h;rfl
theorem ds.gB{b:Bool}(h:ds κ D (.bool b) x):x=.bool b:=by cases h;rfl
theorem ds.hW{eB:List Nat}(h:ds κ D (.str eB) x):∃s,x=.string s∧s.data.toList.map UInt8.toNat=eB:=by cases h;exact⟨_,rfl,by assumption⟩
theorem ds.l0{cs:List ae}(h:ds κ D (.agg cs) x):∃xs:List Value,x=.agg xs.toArray∧d9 κ D cs xs:=by cases h;exact⟨_,rfl,by assumption,by assumption⟩
theorem ds.tF{cs:List ae}(h:ds κ D (.d7 cs) x):∃xs:List Value,x=.tuple xs.toArray∧d9 κ D cs xs:=by cases h;exact⟨_,rfl,by assumption,by assumption⟩
theorem ds.s8{f:Nat}{cs:List ae}(h:ds κ D (.fn f cs) x):∃xs:List Value,x=.func (.func f) #[] xs.toArray∧d9 κ D cs xs:=by cases h;exact⟨_,rfl,by assumption,by assumption⟩
theorem ds.rG{cs:List ae}(h:ds κ D (.bU cs) x):∃(a:Addr) (di:Nat→Value),x=.pointer (some a)∧a.spot=none∧(∀j,j<cs.length→κ.F (a.add j)=some (di j))∧∀(j:Nat) (c:ae),cs[j]? =some c→ds κ D c (di j):=by cases h;exact⟨_,_,rfl,by assumption,by assumption,by assumption⟩
theorem ds.l1{d i off:Nat}(h:ds κ D (.ref (.g d i) off) x):x=.pointer (some ⟨κ.loc d i,off,none⟩)∧d<D∧i<κ.n d:=by cases h;exact⟨rfl,by assumption,by assumption⟩
theorem ds.jq{d i off len cap sz:Nat}(h:ds κ D (.cD (.g d i) off len cap sz) x):∃lh,x=.slice (some ⟨κ.loc d i,off,none⟩) len lh∧d<D∧i<κ.n d∧len≤lh∧(lh=cap∨(cap=0∧0<len∧off=0∧κ.kL d i len=some (⟨κ.loc d i,0,none⟩,lh,sz))):=by cases h;exact⟨_,rfl,by assumption,by assumption,by assumption,by assumption⟩
theorem ds.F7{d i off len cap sz:Nat}(h:ds κ D (.cD (.g d i) off len cap sz) x)(bO:len≤cap):x=.slice (some ⟨κ.loc d i,off,none⟩) len cap∧d<D∧i<κ.n d:=by
 obtain⟨lh,rfl,ar,ay,ch,dk⟩:=h.jq;rcases dk with rfl |⟨e,p,_⟩
 ·exact⟨rfl,ar,ay⟩
 ·omega
theorem ds.BF{t:Nat}{v:ae}(h:ds κ D (.iface t v) x):∃y,x=.iface t y∧ds κ D v y:=by cases h;exact⟨_,rfl,by assumption⟩
end
theorem ds.cells{κ:a5}{D:Nat}{v:ae}{x:Value}(h:ds κ D v x)(bD:v.fj=true):d9 κ D v.cells x.cells.toList:=by
 cases h<;> simp [ae.fj] at bD<;> simp only[ae.cells,Value.cells]
 case agg cs xs bO e=>exact⟨by simpa using bO,by simpa using e⟩
 all_goals
  refine .cons ?_ (.nil _ _)
  first
   |exact .bool _|exact .int _ _|exact .str _ _ (by assumption)|exact .kn _
   |exact .cm _ _ _ _ _ _ (by assumption) (by assumption) (by assumption) (by assumption) (by assumption) (by assumption) (by assumption)
   |exact .cD _ _ _ _ _ _ _ (by assumption) (by assumption) (by assumption) (by assumption)|exact .ref _ _ _ (by assumption) (by assumption)
   |exact .bU _ _ _ (by assumption) (by assumption) (by assumption)|exact .hv|exact .fn _ _ _ (by assumption) (by assumption)
   |exact .hK|exact .jQ _|exact .eX|exact .map _ _ (by assumption) (by assumption)|exact .iface _ _ _ (by assumption)|exact .hx
theorem tG(v:ae)(d:Nat):(v.aq d).fj=v.fj:=by cases v<;> rfl
theorem ds.Hg{κ:a5}{D:Nat}{v:ae}{x:Value}(h:ds κ D v x)(bD:v.eO=true):x.oneCell'=true:=by cases h<;> simp [ae.eO] at bD<;> rfl
theorem bytes_inj{a b:List UInt8}(h:a.map UInt8.toNat=b.map UInt8.toNat):a=b:=by have:=List.map_inj_right (f:=UInt8.toNat) (l:=a) (l':=b) (fun x y e=>UInt8.toNat_inj.1 e);exact this.1 h
theorem w9(a b:List UInt8):(a.map UInt8.toNat==b.map UInt8.toNat)=(a==b):=by rw[Bool.eq_iff_iff];simp only[beq_iff_eq];exact⟨bytes_inj,fun h=>by rw[h]⟩
theorem n5:∀(a b:List UInt8),jj (a.map UInt8.toNat) (b.map UInt8.toNat)=Op.bytesLess a b
 |_,[]=>by simp [jj,Op.bytesLess]
 |[],_::_=>by simp [jj,Op.bytesLess]
 |a::x,b::y=>by
  simp only[fM,jj,Op.bytesLess,n5 x y];have ar:Nat.blt a.toNat b.toNat=decide (a<b):=by rw[Bool.eq_iff_iff];simp [Nat.blt_eq,UInt8.lt_iff_toNat_lt]
  have ay:Nat.beq a.toNat b.toNat=(a==b):=by rw[Bool.eq_iff_iff];simp [Nat.beq_eq,UInt8.toNat_inj]
  rw[ar,ay]
def dB(P:Program)(o:Op)(ty:TypeId)(ρ:Operand→Value)(κ:a5)(s:ag)(w:World)(v:ae)(s':ag):Prop:=
 ∃x κ' w',((∀dst pos after guard,(execOp ρ ⟨dst,o,ty,pos,after,guard⟩).run P w=.ok (.value x) w')∨((∀dst pos after guard,(execOp ρ ⟨dst,o,ty,pos,after,guard⟩).run P w=.ok .skip w')∧x=undef))∧
  e0 κ s w κ' s' w'∧cL κ' s' w'∧ds κ' (s.aa+1) (v.aq s.aa) x
theorem bs{P:Program}{o:Op}{ty:TypeId}{ρ:Operand→Value}{κ:a5}{s:ag}{w:World}{v:ae}(aV:cL κ s w)(x:Value)
  (h:∀dst pos after guard,(execOp ρ ⟨dst,o,ty,pos,after,guard⟩).run P w=.ok (.value x) w)(aZ:ds κ (s.aa+1) (v.aq s.aa) x):dB P o ty ρ κ s w v s:=
 ⟨x,κ,w,.inl h,.refl _ _ _,aV,aZ⟩
section
variable{P:Program}{ty:TypeId}{ρ:Operand→Value}{κ:a5}{s:ag}{w:World}(aV:cL κ s w)
include aV
theorem r6{v:ae}{x:Operand}(h:ds κ (s.aa+1) (v.aq s.aa) (ρ x)):dB P (.move x) ty ρ κ s w v s:=
 bs aV _ (fun _ _ _ _=>by simp [execOp]) h
theorem o2{v:ae}{x:Operand}(h:ds κ (s.aa+1) (v.aq s.aa) (ρ x)):dB P (.assign x) ty ρ κ s w v s:=
 bs aV _ (fun _ _ _ _=>by simp [execOp]) h
theorem yD{t:Bool}{a b:ae}{c x y:Operand}(aW:ρ c=.bool t)(ar:ds κ (s.aa+1) (a.aq s.aa) (ρ x))(ay:ds κ (s.aa+1) (b.aq s.aa) (ρ y)):
  dB P (.pick c x y) ty ρ κ s w (bif t then a else b) s:=by
 refine bs aV (if t then ρ x else ρ y) (fun _ _ _ _=>by simp [execOp,aW,asBool]) ?_;cases t<;> assumption
theorem tH{op:BinOp}{k:IntKind}{m n:Int}{t yt:TypeId}{x y:Operand}{v:ae}(aZ:ρ x=.int k m)(fb:ρ y=.int k n)(h:f3 op k m n=some v):dB P (.binOp op t x y yt) ty ρ κ s w v s:=by
 have key:∃z,(binOp op t (.int k m) (.int k n)).run P w=.ok z w∧ds κ (s.aa+1) (v.aq s.aa) z:=by
  cases op<;> simp only[f3,a8,reduceCtorEq] at h
  case quo=>
   by_cases df:n=0
   ·simp [df] at h
   ·simp only[df,↓reduceIte,a8] at h;subst h;exact⟨_,by simp only[binOp,Op.intDiv,df,ne_eq,not_true_eq_false,↓reduceIte];rfl,.int k _⟩
  case rem=>
   by_cases df:n=0
   ·simp [df] at h
   ·simp only[df,↓reduceIte,a8] at h;subst h;exact⟨_,by simp only[binOp,Op.intDiv,df,ne_eq,not_true_eq_false,↓reduceIte];rfl,.int k _⟩
  case add=>subst h;exact⟨_,by simp only[binOp,Op.intArith,ne_eq,not_true_eq_false,↓reduceIte];rfl,.int k _⟩
  case sub=>subst h;exact⟨_,by simp only[binOp,Op.intArith,ne_eq,not_true_eq_false,↓reduceIte];rfl,.int k _⟩
  case mul=>subst h;exact⟨_,by simp only[binOp,Op.intArith,ne_eq,not_true_eq_false,↓reduceIte];rfl,.int k _⟩
  case and=>subst h;exact⟨_,by simp only[binOp,Op.intBits,ne_eq,not_true_eq_false,↓reduceIte];rfl,.int k _⟩
  case or=>subst h;exact⟨_,by simp only[binOp,Op.intBits,ne_eq,not_true_eq_false,↓reduceIte];rfl,.int k _⟩
  case xor=>subst h;exact⟨_,by simp only[binOp,Op.intBits,ne_eq,not_true_eq_false,↓reduceIte];rfl,.int k _⟩
  case andNot=>subst h;exact⟨_,by simp only[binOp,Op.intBits,ne_eq,not_true_eq_false,↓reduceIte];rfl,.int k _⟩
  all_goals (subst h;exact⟨_,by simp only[binOp,Op.intCmp,ne_eq,not_true_eq_false,↓reduceIte];rfl,.bool _⟩)
 obtain⟨z,hr,bD⟩:=key;refine bs aV z (fun _ _ _ _=>?_) bD;have cE:(eqGuard op t x y (.int k m) (.int k n)).run P w=.ok () w:=by unfold eqGuard;split<;> rfl
 simp [execOp,aZ,fb,cE,hr]
theorem p6{op:BinOp}{k lk:IntKind}{m n:Int}{t yt:TypeId}{x y:Operand}{v:ae}(aZ:ρ x=.int k m)(fb:ρ y=.int lk n)(e:op=.shl∨op=.shr)(h:ll op k m n=some v):dB P (.binOp op t x y yt) ty ρ κ s w v s:=by
 unfold ll at h;split at h
 ·cases h
 ·rename_i df;rcases e with rfl |rfl <;> simp only[a8] at h<;> subst h<;> exact bs aV _ (fun _ _ _ _=>by simp only[execOp,aZ,fb,eqGuard,binOp,Op.shift,df];rfl) (.int k _)
theorem vr{k:IntKind}{n:Int}{t:TypeId}{x:Operand}(aZ:ρ x=.int k n):dB P (.unOp .neg t x) ty ρ κ s w (.int k (k.wrap (0-n))) s:=
 bs aV _ (fun _ _ _ _=>by simp only[execOp,aZ,Op.unary,Op.intArith];rfl) (.int k _)
theorem vt{k:IntKind}{n:Int}{t:TypeId}{x:Operand}(aZ:ρ x=.int k n):dB P (.unOp .xor t x) ty ρ κ s w (.int k (k.wrap (BitVec.ofInt k.bits (if k.signed then -1 else k.max) ^^^ BitVec.ofInt k.bits n).toNat)) s:=
 bs aV _ (fun _ _ _ _=>by simp only[execOp,aZ,Op.unary,Op.intBits];rfl) (.int k _)
theorem vu{b:Bool}{t:TypeId}{x:Operand}(aZ:ρ x=.bool b):dB P (.unOp .not t x) ty ρ κ s w (.bool (!b)) s:=
 bs aV _ (fun _ _ _ _=>by simp [execOp,aZ,Op.unary]) (.bool _)
theorem tI{op:BinOp}{as eB:List Nat}{t yt:TypeId}{x y:Operand}{v:ae}(aZ:ds κ (s.aa+1) (.str as) (ρ x))(fb:ds κ (s.aa+1) (.str eB) (ρ y))(h:s4 op as eB=some v):dB P (.binOp op t x y yt) ty ρ κ s w v s:=by
 obtain⟨a,aZ,e⟩:=aZ.hW;obtain⟨b,fb,p⟩:=fb.hW;have q:(a.toList==b.toList)=(as==eB):=by rw[Go.ByteArray.toList_eq,Go.ByteArray.toList_eq,←e,←p,w9]
 have r:Op.bytesLess a.toList b.toList=jj as eB:=by rw[Go.ByteArray.toList_eq,Go.ByteArray.toList_eq,←e,←p,n5]
 have key:∃z,(binOp op t (.string a) (.string b)).run P w=.ok z w∧ds κ (s.aa+1) (v.aq s.aa) z:=by
  cases op<;> simp only[s4,a8,reduceCtorEq] at h
  case add=>
   split at h
   ·rename_i hle;simp only[a8] at h;subst h;have bO:=dL hle;have A:a.size=as.length:=by have:=congrArg List.length e;rw[ht,Array.length_toList] at this;exact this
    have B:b.size=eB.length:=by have:=congrArg List.length p;rw[ht,Array.length_toList] at this;exact this
    refine⟨.string (a++b),?_,.str _ _ ?_⟩
    ·have:¬(((a.size+b.size:Nat):Int)>IntKind.i64.max):=by rw[A,B];show¬_>(9223372036854775807:Int);omega
     simp only[binOp,Op.stringOp,this,↓reduceIte];rfl
    ·rw[←e,←p,←List.map_append];simp
   ·cases h
  all_goals (subst h;refine⟨_,by simp only[binOp,Op.stringOp,q,r];rfl,?_⟩;exact .bool _)
 obtain⟨z,hr,bD⟩:=key;refine bs aV z (fun _ _ _ _=>?_) bD;have cE:(eqGuard op t x y (.string a) (.string b)).run P w=.ok () w:=by unfold eqGuard;split<;> rfl
 simp [execOp,aZ,fb,cE,hr]
theorem tJ{k lk:IntKind}{n:Int}{src dst:TypeId}{x:Operand}{d:TypeDesc}(e:P.underlying src=some d)(h:P.underlying dst=some (.int k))(aZ:ρ x=.int lk n):dB P (.convert src dst x) ty ρ κ s w (.int k (k.wrap n)) s:=
 bs aV _ (fun _ _ _ _=>by simp [execOp,convert,run_underlying e,run_underlying h,aZ,Conv.intToInt]) (.int k _)
theorem vv{eB:List Nat}{src dst:TypeId}{x:Operand}{d:TypeDesc}(e:P.underlying src=some d)(h:P.underlying dst=some .string)(aZ:ds κ (s.aa+1) (.str eB) (ρ x)):dB P (.convert src dst x) ty ρ κ s w (.str eB) s:=by obtain⟨a,p,q⟩:=aZ.hW;exact bs aV _ (fun _ _ _ _=>by simp [execOp,convert,run_underlying e,run_underlying h,p]) (.str _ _ q)
theorem tK{v:ae}{t:TypeId}{x:Operand}{d:TypeDesc}(d6:P.underlying t=some d)(cF:(d matches .interface _)=false)(aZ:ds κ (s.aa+1) (v.aq s.aa) (ρ x)):dB P (.makeInterface t x) ty ρ κ s w (.iface t (v.aq s.aa)) s:=
 bs aV (.iface t (ρ x)) (fun _ _ _ _=>by simp only[execOp,Instr.makeInterface,map_eq_pure_bind,Sem.run_bind,run_underlying d6,Result.andThen_ok];cases d<;> simp at cF ⊢) (.iface t _ _ aZ)
theorem tL{vs:List ae}{i:Nat}{x:Operand}{v:ae}(aZ:ds κ (s.aa+1) (.d7 vs) (ρ x))(bD:vs[i]? =some v)(gb:v.aq s.aa=v):dB P (.extract x i) ty ρ κ s w v s:=by obtain⟨xs,p,bO,h⟩:=aZ.tF;have bN:=(ez.1 bD).1;have e:xs[i]? =some xs[i]:=fB (by omega);exact bs aV xs[i] (fun _ _ _ _=>by simp [execOp,Instr.extract,p,e]) (by rw[gb];exact h i v _ bD e)
end
def yE:TypeDesc→Bool
 |.struct _|.array _ _=>true
 |_=>false
def ks(P:Program)(t:TypeId):Option Bool:=(P.underlying t).map yE
def eR(P:Program)(t:TypeId):Option Nat:=(P.info? t).map (·.size)
theorem iH{P:Program}{t:TypeId}{b:Bool}(h:ks P t=some b)(w:World):(isAgg t).run P w=.ok b w:=by
 unfold ks at h;cases cF:P.underlying t with
 |none=>simp [cF] at h
 |some d=>simp only[cF,eb,a8] at h;subst h;simp only[isAgg,Sem.run_bind,run_underlying cF,Result.andThen_ok];cases d<;> rfl
theorem eg{P:Program}{t:TypeId}{n:Nat}(h:eR P t=some n)(w:World):(sizeOf t).run P w=.ok n w:=by
 unfold eR at h;cases cF:P.info? t with
 |none=>simp [cF] at h
 |some i=>simp only[cF,eb,a8] at h;subst h;simp [sizeOf,typeInfo,cF]
section
variable{P:Program}{ty:TypeId}{ρ:Operand→Value}{κ:a5}{s:ag}{w:World}(aV:cL κ s w)
include aV
def Reads(κ:a5)(D:Nat)(w:World)(a:Addr)(cs:List ae):Prop:=∃di:Nat→Value,(∀j,j<cs.length→w.cell? (a.add j)=some (di j))∧∀(j:Nat) (c:ae),cs[j]? =some c→ds κ D c (di j)
omit aV in
theorem Reads.drop{D:Nat}{a:Addr}{cs:List ae}(h:Reads κ D w a cs)(n:Nat):Reads κ D w (a.add n) (cs.drop n):=by obtain⟨di,ar,ay⟩:=h;refine⟨fun j=>di (n+j),fun j da=>?_,fun j c aW=>ay _ c (by simpa using aW)⟩;rw[add_add];exact ar _ (by simp at da;omega)
theorem yF{D:Nat}{cs:List ae}{x:Value}(h:ds κ D (.bU cs) x):∃a,x=.pointer (some a)∧a.spot=none∧Reads κ D w a cs:=by obtain⟨a,di,rfl,ar,ay,ch⟩:=h.rG;exact⟨a,rfl,ar,di,fun j da=>(aV.h6 _ _ (ay j da)).2,ch⟩
theorem nw{d i:Nat}{cs:List ae}(h:s.get (.g d i)=some (.cells cs))(off:Nat):Reads κ (d+1) w ⟨κ.loc d i,off,none⟩ (cs.drop off):=by
 obtain⟨⟨C,e,ix,ar,ay,ch,_⟩,dk⟩:=aV.obj d i _ h;have bO:cs.length≤C.size:=by have:=ch.1;simp at this;omega
 refine⟨fun j=>C.getD (off+j) undef,fun j da=>?_,fun j c aW=>?_⟩
 ·rw[fF rfl,e4 ar];simp at da;simp [Array.getD,show off+j<C.size by omega]
 ·obtain⟨x,aZ,bD⟩:=ch.get (show cs[off+j]? =some c by simpa using aW);have p:off+j<cs.length:=(ez.1 (show cs[off+j]? =some c by simpa using aW)).1
  have:C.getD (off+j) undef=x:=by
   rw[List.getElem?_take,if_pos p] at aZ;have q:C[off+j]? =some x:=by simpa using aZ
   simp [Array.getD_eq_getD_getElem?,q]
  simpa [this] using bD
omit aV in
theorem rH{D e:Nat}{a:Addr}{cs:List ae}(h:Reads κ D w a cs)(p:D≤e):Reads κ e w a cs:=by obtain⟨v,ar,ay⟩:=h;exact⟨v,ar,fun j c aW=>(ay j c aW).up p⟩
omit aV in
theorem r7{D:Nat}{a:Addr}{cs:List ae}(h:Reads κ D w a cs){n:Nat}(df:n≤cs.length):∃xs:List Value,(loadCells a n).run P w=.ok xs.toArray w∧d9 κ D (cs.take n) xs:=by
 obtain⟨di,ar,ay⟩:=h;refine⟨(List.range n).map di,run_loadCells w a n di (fun j da=>ar j (by omega)),by simp;omega,fun j c x aW aZ=>?_⟩;simp only[iy,List.getElem?_range] at aZ;rw[List.getElem?_take] at aW;by_cases da:j<n
 ·simp only[da,↓reduceIte] at aW;have e:(List.range n)[j]? =some j:=by simp [da]
  rw[e] at aZ;simp only[eb,a8] at aZ;exact aZ ▸ ay j c aW
 ·simp [da] at aW
omit aV in
theorem rI{D:Nat}{a:Addr}{cs:List ae}(h:Reads κ D w a cs){n:Nat}(df:n≤cs.length){t:TypeId}(ar:ks P t=some true)(ay:eR P t=some n):∃x,(loadVar t a).run P w=.ok x w∧ds κ D (.agg (cs.take n)) x:=by obtain⟨xs,e,bD⟩:=r7 (P:=P) h df;refine⟨.agg xs.toArray,by simp [loadVar,iH ar,eg ay,e],.agg _ xs bD.1 bD.2⟩
omit aV in
theorem rJ{D:Nat}{a:Addr}{c:ae}{cs:List ae}(h:Reads κ D w a (c::cs)){t:TypeId}(ar:ks P t=some false):∃x,(loadVar t a).run P w=.ok x w∧ds κ D c x:=by obtain⟨di,e,bD⟩:=h;have nY:=e 0 (by simp);simp only[Addr.add,↓reduceIte] at nY;exact⟨di 0,by simp [loadVar,iH ar,nY],bD 0 c rfl⟩
def jx(P:Program)(t:TypeId):Option Nat→Bool
 |none=>ks P t==some false
 |some n=>ks P t==some true&&eR P t==some n
omit aV in
theorem rK{D:Nat}{a:Addr}{cs:List ae}(h:Reads κ D w a cs){n:Option Nat}{t:TypeId}(df:jx P t n=true){E:Env}(bh:E.F=.not){k:ae→ag→ah}{r:ah}(aJ:ew E s k n cs=r)(bg:r≠.fail):
  ∃v x,k v s=r∧(loadVar t a).run P w=.ok x w∧ds κ D v x:=by
 cases n with
 |none=>
  cases cs with
  |nil=>simp [ew] at aJ;exact absurd aJ.symm bg
  |cons c cs=>simp only[ew,bh,aN.not] at aJ;obtain⟨x,aZ,bD⟩:=rJ (P:=P) h (by simpa [jx] using df);exact⟨c,x,aJ,aZ,bD⟩
 |some n=>
  simp only[jx,bm,beq_iff_eq] at df;simp only[ew,bh,aN.not] at aJ;by_cases bO:n≤cs.length
  ·rw[eK bO,ci] at aJ;obtain⟨x,aZ,bD⟩:=rI (P:=P) h bO df.1 df.2;exact⟨_,x,aJ,aZ,bD⟩
  ·have:Nat.ble n cs.length=false:=by
    cases e:Nat.ble n cs.length with
    |false=>rfl
    |true=>exact absurd (dL e) bO
   rw[this,cond_false] at aJ;exact absurd aJ.symm bg
omit aV in
theorem iF.aq{D sz n cap:Nat}{g:ga}{a:Addr}(h:iF κ D sz g n a cap)(d:Nat):g.aq d=g:=by
 cases g with
 |dW a=>cases a with
  |l i=>simp [iF] at h
  |g d i=>rfl
 |_=>rfl
omit aV in
theorem s9{D:Nat}{v:ae}{x:Value}(h:ds κ D v x)(d:Nat):v.aq d=v:=by
 cases h<;> try rfl
 simp only[ae.aq];rw[iF.aq (by assumption)]
theorem yG{E:Env}(bh:E.F=.not){k:ae→ag→ah}{r:ah}(bg:r≠.fail){n:Option Nat}{t:TypeId}{x:Operand}{v:ae}(df:jx P t n=true)(aZ:ds κ (s.aa+1) (v.aq s.aa) (ρ x))
  (aJ:dP E s k n v=r):∃fp,k fp s=r∧dB P (.load t x) ty ρ κ s w fp s:=by
 cases v<;> simp only[ae.aq] at aZ<;> simp only[dP] at aJ<;> try exact absurd aJ.symm bg
 case bU cs=>obtain⟨a,e,_,h⟩:=yF aV aZ;obtain⟨fp,y,ar,ay,ch⟩:=rK h df bh aJ bg;exact⟨fp,ar,bs aV y (fun _ _ _ _=>by simp [execOp,Instr.loadAt,e,Instr.sureAddr,ay]) (by rw[s9 ch];exact ch)⟩
 case ref a off=>
  rw[←ag.hA] at aJ;cases p:a.aq s.aa with
  |l i=>cases a<;> simp [Loc.aq] at p
  |g d i=>
   rw[p] at aJ aZ;obtain⟨e,cF,_⟩:=aZ.l1;cases cE:s.get (.g d i) with
   |none=>rw[cE] at aJ;exact absurd aJ.symm bg
   |some o=>
    rw[cE] at aJ;cases o<;> try exact absurd aJ.symm bg
    rename_i cs;have h:=rH (nw aV cE off) (show d+1≤s.aa+1 by omega);obtain⟨fp,y,ar,ay,ch⟩:=rK h df bh aJ bg;exact⟨fp,ar,bs aV y (fun _ _ _ _=>by simp [execOp,Instr.loadAt,e,Instr.sureAddr,ay]) (by rw[s9 ch];exact ch)⟩
end
theorem iI{v:ae}{n:Nat}(h:eD v=some n):∃k,v=.int k n:=by cases v<;> simp [eD] at h;rename_i k m;exact⟨k,by rw[←h.2,Int.toNat_of_nonneg h.1]⟩
theorem BG{n m:Nat}{r:ah}{x:ah}(h:(bif Nat.ble n m then x else .fail)=r)(bg:r≠.fail):n≤m∧x=r:=by
 cases e:Nat.ble n m with
 |true=>rw[e] at h;exact⟨dL e,h⟩
 |false=>rw[e] at h;exact absurd h.symm bg
theorem cP{b:Bool}{r:ah}{x:ah}(h:(bif b then x else .fail)=r)(bg:r≠.fail):b=true∧x=r:=by
 cases b with
 |true=>exact⟨rfl,h⟩
 |false=>exact absurd h.symm bg
section
variable{P:Program}{ty:TypeId}{ρ:Operand→Value}{κ:a5}{s:ag}{w:World}(aV:cL κ s w)
include aV
theorem rL{E:Env}(bh:E.F=.not){k:ae→ag→ah}{r:ah}(bg:r≠.fail){t:TypeId}{x:Operand}{v:ae}{i off:Nat}{jD:Array Field}{f:Field}(d6:P.underlying t=some (.struct jD))(p:jD[i]? =some f)(q:f.offset=off)
  {n:Nat}(hr:eR P f.type=some n)(df:n≠0)(aZ:ds κ (s.aa+1) (v.aq s.aa) (ρ x))(aJ:gv E s k off v=r):∃fp,k fp s=r∧dB P (.fieldAddr t x i) ty ρ κ s w fp s:=by
 have run:∀(a:Addr),ρ x=.pointer (some a)→∀dst pos after guard,(execOp ρ ⟨dst,.fieldAddr t x i,ty,pos,after,guard⟩).run P w=.ok (.value (.pointer (some (a.add off)))) w:=by intro a h dst pos after guard;simp [execOp,Instr.fieldAt,run_underlying d6,p,h,Instr.sureAddr,fieldPlace,eg hr,df,q]
 cases v<;> simp only[ae.aq] at aZ<;> simp only[gv,bh,aN.not] at aJ<;> try exact absurd aJ.symm bg
 case bU cs=>obtain⟨a,di,e,ar,ay,ch⟩:=aZ.rG;refine⟨_,aJ,bs aV _ (run a e) ?_⟩;refine .bU _ _ (fun j=>di (off+j)) (lW ar _) (fun j da=>?_) (fun j c aW=>ch _ c (by simpa using aW));rw[add_add];exact ay _ (by simp at da;omega)
 case ref a o=>
  refine⟨_,aJ,?_⟩;cases h:a.aq s.aa with
  |l i=>cases a<;> simp [Loc.aq] at h
  |g d j=>rw[h] at aZ;obtain⟨e,cF,da⟩:=aZ.l1;refine bs aV _ (run _ e) ?_;simp only[ae.aq,h,fF (show(⟨κ.loc d j,o,none⟩:Addr).spot=none from rfl)];exact .ref d j _ cF da
omit aV in
theorem wi{cs:List ae}{xs:List Value}{D off:Nat}(h:d9 κ D cs xs){t:TypeId}{n:Option Nat}(df:jx P t n=true){E:Env}(bh:E.F=.not){k:ae→ag→ah}{r:ah}(aJ:ew E s k n (cs.drop off)=r)(bg:r≠.fail):
  ∃v x,k v s=r∧(part t xs.toArray off).run P w=.ok x w∧ds κ D v x:=by
 have cF:=h.drop off;cases n with
 |none=>
  cases aW:cs.drop off with
  |nil=>rw[aW] at aJ;simp [ew] at aJ;exact absurd aJ.symm bg
  |cons c p=>
   rw[aW] at aJ;simp only[ew,bh,aN.not] at aJ;rw[aW] at cF;obtain⟨x,q,fG,bD,_⟩:=cF.s7;refine⟨c,x,aJ,?_,bD⟩;have e:xs[off]? =some x:=by have:=congrArg (fun l:List Value=>l[0]?) fG;simpa using this
   simp [part,iH (show ks P t=some false by simpa [jx] using df),e]
 |some n=>
  simp only[jx,bm,beq_iff_eq] at df;simp only[ew,bh,aN.not] at aJ;obtain⟨bO,c3⟩:=BG aJ bg;refine⟨_,.agg ((xs.drop off).take n).toArray,c3,?_,.agg _ _ (cF.take n).1 (cF.take n).2⟩
  have:xs.toArray.extract off (off+n)=((xs.drop off).take n).toArray:=by rw[List.extract_toArray];congr 1;simp [List.extract_eq_take_drop]
  simp [part,iH df.1,eg df.2,this]
theorem xa{E:Env}(bh:E.F=.not){k:ae→ag→ah}{r:ah}(bg:r≠.fail){t:TypeId}{x:Operand}{v:ae}{i off:Nat}{n:Option Nat}{jD:Array Field}{f:Field}(d6:P.underlying t=some (.struct jD))(p:jD[i]? =some f)(q:f.offset=off)
  (df:jx P f.type n=true)(aZ:ds κ (s.aa+1) (v.aq s.aa) (ρ x))(aJ:lm E s k off n v=r):∃fp,k fp s=r∧dB P (.field t x i) ty ρ κ s w fp s:=by
 cases v<;> simp only[ae.aq] at aZ<;> simp only[lm] at aJ<;> try exact absurd aJ.symm bg
 obtain⟨xs,e,h⟩:=aZ.l0;obtain⟨fp,y,ar,ay,ch⟩:=wi (w:=w) h df bh aJ bg;exact⟨fp,ar,bs aV y (fun _ _ _ _=>by simp [execOp,Instr.field,run_underlying d6,p,e,asAgg,q,ay]) (by rw[s9 ch];exact ch)⟩
theorem vw{E:Env}(bh:E.F=.not){k:ae→ag→ah}{r:ah}(bg:r≠.fail){t e:TypeId}{x y:Operand}{v i:ae}{sz len:Nat}{n:Option Nat}(d6:P.underlying t=some (.array len e))(hr:eR P e=some sz)
  (df:jx P e n=true)(aZ:ds κ (s.aa+1) (v.aq s.aa) (ρ x))(bN:ds κ (s.aa+1) (i.aq s.aa) (ρ y))(aJ:jW E s k sz len n v i=r):∃fp,k fp s=r∧dB P (.index t x y) ty ρ κ s w fp s:=by
 cases v<;> simp only[ae.aq] at aZ<;> simp only[jW] at aJ<;> try exact absurd aJ.symm bg
 rename_i cs;obtain⟨xs,ex,h⟩:=aZ.l0;cases p:eD i with
 |none=>rw[p] at aJ;exact absurd aJ.symm bg
 |some m=>
  rw[p] at aJ;obtain⟨ec,rfl⟩:=iI p;have q:=bN.ef;obtain⟨A,aJ⟩:=cP aJ bg;have hm:m<len:=by simpa [Nat.blt_eq] using A
  obtain⟨fp,z,ar,ay,ch⟩:=wi (w:=w) h df bh aJ bg;refine⟨fp,ar,bs aV z (fun _ _ _ _=>?_) (by rw[s9 ch];exact ch)⟩;simp [execOp,Instr.index,run_underlying d6,ex,q,asIntOf,hm,eg hr,ay]
theorem vx{E:Env}(bh:E.F=.not){k:ae→ag→ah}{r:ah}(bg:r≠.fail){t:TypeId}{x y:Operand}{v i:ae}(d6:P.underlying t=some .string)
  (aZ:ds κ (s.aa+1) (v.aq s.aa) (ρ x))(bN:ds κ (s.aa+1) (i.aq s.aa) (ρ y))(aJ:hT E s k v i=r):∃fp,k fp s=r∧dB P (.index t x y) ty ρ κ s w fp s:=by
 cases v<;> simp only[ae.aq] at aZ<;> simp only[hT] at aJ<;> try exact absurd aJ.symm bg
 rename_i eB;obtain⟨a,ex,h⟩:=aZ.hW;cases p:eD i with
 |none=>rw[p] at aJ;exact absurd aJ.symm bg
 |some m=>
  rw[p] at aJ;obtain⟨ec,rfl⟩:=iI p;have A:=bN.ef;cases e:eB[m]? with
  |none=>simp only[e] at aJ;exact absurd aJ.symm bg
  |some b=>
   simp only[e,bh,aN.not] at aJ;refine⟨_,aJ,bs aV (.int .u8 b) (fun _ _ _ _=>?_) (.int _ _)⟩;rw[←h,iy] at e;cases aW:a.data.toList[m]? with
   |none=>simp [aW] at e
   |some c=>
    simp only[aW,eb,a8] at e;subst e;have q:=(ez.1 aW).1;have B:a[m]? =some c:=by
     have eF:m<a.size:=by rw[Array.length_toList] at q;exact q
     rw[getElem?_pos a m eF];have ay:=(ez.1 aW).2;rw[ByteArray.getElem_eq_getElem_data];simpa using ay
    have key:(Instr.index t (.string a) (.int ec m)).run P w=.ok (.int .u8 c.toNat) w:=by simp only[Instr.index,Sem.run_bind,asIntOf,Sem.run_pure,Result.andThen_ok,run_underlying d6,Int.natCast_nonneg,↓reduceIte,Int.toNat_natCast,B]
    simp only[execOp,ex,A,Sem.run_bind,key,Result.andThen_ok,Sem.run_pure]
omit aV in
theorem hf{D:Nat}{v:ae}{x:Value}(h:ds κ D v x):(∀sz es g,v=.cm sz es g→∃a c,x=.slice a es.length c)∧∀a off len cap sz,v=.cD a off len cap sz→∃p c,x=.slice p len c:=by cases h<;> refine⟨fun sz es g e=>?_,fun a off len cap sz e=>?_⟩<;> cases e<;> exact⟨_,_,rfl⟩
theorem tM{E:Env}(bh:E.F=.not){k:ae→ag→ah}{r:ah}(bg:r≠.fail){b:Bool}{t:TypeId}{d:TypeDesc}{x:Operand}{v:ae}(d6:P.underlying t=some d)(cF:(b=true∧d=.string)∨(b=false∧∃e,d=.slice e))
  (aZ:ds κ (s.aa+1) (v.aq s.aa) (ρ x))(aJ:o0 E s k b v=r):∃fp,k fp s=r∧dB P (.call {callee:=.builtin .len,args:= #[x],argTypes:= #[t]}) ty ρ κ s w fp s:=by
 have q:=hf aZ;cases v<;> simp only[ae.aq] at aZ q<;> rcases cF with⟨rfl,rfl⟩|⟨rfl,e,rfl⟩<;> simp only[o0,bh,aN.not] at aJ<;> try exact absurd aJ.symm bg
 case str.inl eB=>
  obtain⟨a,ex,h⟩:=aZ.hW;refine⟨_,aJ,bs aV (.int .i64 eB.length) (fun _ _ _ _=>?_) (.int _ _)⟩
  have:a.size=eB.length:=by have:=congrArg List.length h;rw[ht,Array.length_toList] at this;exact this
  simp [execOp,resolve,invoke,builtin,Builtin.len_,run_underlying d6,ex,goInt,this]
 case cm.inr sz es g=>refine⟨_,aJ,bs aV (.int .i64 es.length) (fun _ _ _ _=>?_) (.int _ _)⟩;obtain⟨a,c,ex⟩:=q.1 _ _ _ rfl;simp [execOp,resolve,invoke,builtin,Builtin.len_,run_underlying d6,ex,goInt]
 case cD.inr a off len cap sz=>refine⟨_,aJ,bs aV (.int .i64 len) (fun _ _ _ _=>?_) (.int _ _)⟩;obtain⟨p,lh,ex⟩:=q.2 _ _ _ _ _ rfl;simp [execOp,resolve,invoke,builtin,Builtin.len_,run_underlying d6,ex,goInt]
end
theorem m1:∀(es:List ae) (sz i:Nat) (e:ae),(∀e,e∈es→e.cells.length=sz)→es[i]? =some e→∀j,j<sz→(es.flatMap ae.cells)[i*sz+j]? =e.cells[j]?
 |[],_,_,_,_,h,_,_=>by simp at h
 |x::es,sz,i,e,bO,h,j,da=>by
  have aZ:=bO x (by simp);simp only[List.flatMap_cons];cases i with
  |zero=>simp at h;subst h;rw[g1 (by omega)];simp
  |succ i=>rw[im (by rw[aZ,Nat.succ_mul];omega),aZ,show(i+1)*sz+j-sz=i*sz+j by rw[Nat.succ_mul];omega];exact m1 es sz i e (fun e he=>bO e (by simp [he])) (by simpa using h) j da
theorem eI:∀(es:List ae) (sz:Nat),(∀e,e∈es→e.cells.length=sz)→(es.flatMap ae.cells).length=es.length*sz
 |[],sz,_=>by simp
 |x::es,sz,bO=>by simp only[List.flatMap_cons,f9,bM,bO x (by simp),eI es sz (fun e he=>bO e (by simp [he])),Nat.succ_mul];omega
theorem ds.hf{κ:a5}{D sz:Nat}{es:List ae}{g:ga}{x:Value}(h:ds κ D (.cm sz es g) x):(es=[]∧g=.nil∧x=.slice none 0 0)∨
  ∃(a:Addr) (cap:Nat) (di:Nat→Value),x=.slice (some a) es.length cap∧iF κ D sz g es.length a cap∧es.length≤cap∧(es≠[]→a.spot=none)∧(∀e,e∈es→e.cells.length=sz)∧tx g es∧
   (∀j,j<(es.flatMap ae.cells).length→κ.F (a.add j)=some (di j))∧∀(j:Nat) (c:ae),(es.flatMap ae.cells)[j]? =some c→ds κ D c (di j):=by
 cases h with
 |kn=>exact .inl ⟨rfl,rfl,rfl⟩
 |cm=>exact .inr ⟨_,_,_,rfl,by assumption,by assumption,by assumption,by assumption,by assumption,by assumption,by assumption⟩
section
variable{P:Program}{ty:TypeId}{ρ:Operand→Value}{κ:a5}{s:ag}{w:World}(aV:cL κ s w)
include aV
theorem xb{E:Env}(bh:E.F=.not){k:ae→ag→ah}{r:ah}(bg:r≠.fail){t e:TypeId}{x y:Operand}{v i:ae}{sz:Nat}(d6:P.underlying t=some (.slice e))(hr:eR P e=some sz)
  (aZ:ds κ (s.aa+1) (v.aq s.aa) (ρ x))(bN:ds κ (s.aa+1) (i.aq s.aa) (ρ y))(aJ:kd E s k sz v i=r):∃fp,k fp s=r∧dB P (.indexAddr t x y) ty ρ κ s w fp s:=by
 unfold kd at aJ;cases A:eD i with
 |none=>rw[A] at aJ;exact absurd aJ.symm bg
 |some m=>
  rw[A] at aJ;obtain⟨ec,rfl⟩:=iI A;have B:=bN.ef;have run:∀(a:Addr) (len cap:Nat),ρ x=.slice (some a) len cap→m<len→∀dst pos after guard,(execOp ρ ⟨dst,.indexAddr t x y,ty,pos,after,guard⟩).run P w=.ok (.value (.pointer (some (a.add (m*sz))))) w:=by intro a len cap p hm dst pos after guard;simp [execOp,Instr.indexAt,run_underlying d6,p,B,asIntOf,hm,eg hr]
  cases v<;> simp only[ae.aq] at aZ<;> simp only[bh,aN.not] at aJ<;> try exact absurd aJ.symm bg
  case cm z es g=>
   obtain⟨q,h⟩:=cP aJ bg;clear aJ;obtain rfl:z=sz:=c4 q;cases he:es[m]? with
   |none=>rw[he] at h;exact absurd h.symm bg
   |some el=>
    rw[he] at h;simp only at h;refine⟨_,h,?_⟩;have hm:=(ez.1 he).1;rcases aZ.hf with⟨rfl,_,_⟩|⟨a,cap,di,ex,ar,ay,ch,dk,M,H,I⟩
    ·simp at he
    ·refine bs aV _ (run a _ _ ex hm) ?_;have iJ:=dk el (List.mem_of_getElem? he);have J:=eI es z dk;refine .bU _ _ (fun j=>di (m*z+j)) (lW (ch (fun nY=>by simp_all)) _) (fun j da=>?_) (fun j c aW=>?_)
     ·rw[add_add];refine H _ ?_;rw[J]
      have:(m+1)*z≤es.length*z:=fi _ hm;rw[Nat.succ_mul] at this;omega
     ·have da:j<z:=by rw[←iJ];exact(ez.1 aW).1
      exact I _ c (by rw[m1 es z m el dk he j da];exact aW)
  case cD a off len cap z=>
   obtain⟨q,h⟩:=cP aJ bg;clear aJ;rw[bm] at q;obtain rfl:z=sz:=c4 q.1;have hm:m<len:=by simpa [Nat.blt_eq] using q.2
   refine⟨_,h,?_⟩;cases p:a.aq s.aa with
   |l i=>cases a<;> simp [Loc.aq] at p
   |g d j=>rw[p] at aZ;obtain⟨lh,hJ,cF,da,_⟩:=aZ.jq;refine bs aV _ (run _ _ _ hJ hm) ?_;simp only[ae.aq,p,fF (show(⟨κ.loc d j,off,none⟩:Addr).spot=none from rfl)];exact .ref d j _ cF da
theorem vy{E:Env}(bh:E.F=.not){k:ae→ag→ah}{r:ah}(bg:r≠.fail){t e:TypeId}{x y:Operand}{v i:ae}{sz len:Nat}(d6:P.underlying t=some (.array len e))(hr:eR P e=some sz)
  (aZ:ds κ (s.aa+1) (v.aq s.aa) (ρ x))(bN:ds κ (s.aa+1) (i.aq s.aa) (ρ y))(aJ:hy E s k sz len v i=r):∃fp,k fp s=r∧dB P (.indexAddr t x y) ty ρ κ s w fp s:=by
 unfold hy at aJ;cases q:eD i with
 |none=>rw[q] at aJ;exact absurd aJ.symm bg
 |some m=>
  rw[q] at aJ;obtain⟨ec,rfl⟩:=iI q;have A:=bN.ef;obtain⟨B,p⟩:=cP aJ bg;clear aJ;have hm:m<len:=by simpa [Nat.blt_eq] using B
  have run:∀(a:Addr),ρ x=.pointer (some a)→∀dst pos after guard,(execOp ρ ⟨dst,.indexAddr t x y,ty,pos,after,guard⟩).run P w=.ok (.value (.pointer (some (a.add (m*sz))))) w:=by intro a h dst pos after guard;simp [execOp,Instr.indexAt,run_underlying d6,h,A,asIntOf,hm,eg hr,Instr.sureAddr]
  cases v<;> simp only[ae.aq] at aZ<;> simp only[bh,aN.not] at p<;> try exact absurd p.symm bg
  case bU cs=>obtain⟨a,di,hJ,ar,ay,ch⟩:=aZ.rG;refine⟨_,p,bs aV _ (run a hJ) ?_⟩;refine .bU _ _ (fun j=>di (m*sz+j)) (lW ar _) (fun j da=>?_) (fun j c aW=>ch _ c (by simpa using aW));rw[add_add];exact ay _ (by simp at da;omega)
  case ref a o=>
   refine⟨_,p,?_⟩;cases h:a.aq s.aa with
   |l i=>cases a<;> simp [Loc.aq] at h
   |g d j=>rw[h] at aZ;obtain⟨hJ,cF,da⟩:=aZ.l1;refine bs aV _ (run _ hJ) ?_;simp only[ae.aq,h,fF (show(⟨κ.loc d j,o,none⟩:Addr).spot=none from rfl)];exact .ref d j _ cF da
omit aV in
theorem rM{v:ae}{m y:Nat}{x:Value}{D:Nat}(h:eD v=some m)(aZ:ds κ D v x)(hm:m≤y)(code:BoundsCode):(Instr.sliceBound x y code).run P w=.ok m w:=by obtain⟨ec,rfl⟩:=iI h;rw[aZ.ef];simp [Instr.sliceBound,asIntOf,hm]
omit aV in
theorem BH{v:ae}{m:Nat}(h:eD v=some m)(d:Nat):v.aq d=v:=by obtain⟨ec,rfl⟩:=iI h;rfl
omit aV in
theorem yH{G:Nat→ae}{an:Nat→ae}{a:Act}(bI:vj κ s an a)(dM:jR κ G){o:Option br}{p:Option Operand}(h:fa o p=true){q m:Nat}(e:dv G an o q=some m):
  (o=none∧p=none∧m=q)∨∃x y v,o=some x∧p=some y∧eD v=some m∧ds κ (s.aa+1) v (a.eval y):=by
 cases o with
 |none=>cases p with
  |none=>simp [dv] at e;exact .inl ⟨rfl,rfl,e.symm⟩
  |some y=>simp [fa] at h
 |some x=>cases p with
  |none=>simp [fa] at h
  |some y=>simp only[dv] at e;have bD:=bk bI dM (show cp x y=true by simpa [fa] using h);rw[BH e] at bD;exact .inr ⟨x,y,_,rfl,rfl,e,bD⟩
omit aV in
theorem pz{G:Nat→ae}{an:Nat→ae}{a:Act}(bI:vj κ s an a)(dM:jR κ G){o:Option br}{p:Option Operand}(h:fa o p=true){e m:Nat}(q:dv G an o e=some m):
  (o=none∧p=none∧m=e)∨∃x y,o=some x∧p=some y∧∀(Y:Nat) (code:BoundsCode),m≤Y→(Instr.sliceBound (a.eval y) Y code).run P w=.ok m w:=by
 rcases yH bI dM h q with ar|⟨x,y,v,ar,ay,ch,dk⟩
 ·exact .inl ar
 ·exact .inr ⟨x,y,ar,ay,fun Y code hm=>rM ch dk hm code⟩
omit aV in
theorem g4{G:Nat→ae}{an:Nat→ae}{a:Act}(bI:vj κ s an a)(dM:jR κ G){fW bN ii:Option br}{e p q:Option Operand}(r:fa fW e=true)(y:fa bN p=true)(A:fa ii q=true)
  {l h m len cap:Nat}(kf:dv G an fW 0=some l)(B:dv G an bN len=some h)(F:dv G an ii cap=some m)(ar:l≤h)(ay:h≤m)(ch:m≤cap)(H:ii.isSome=true→bN.isSome=true)(I:Bool):
  (Instr.sliceBounds I len cap (e.map a.eval) (p.map a.eval) (q.map a.eval)).run P w=.ok (l,h,m) w:=by
 have J:h≤cap:=by omega
 rcases pz (P:=P) (w:=w) bI dM r kf with⟨rfl,rfl,rfl⟩|⟨M,N,rfl,rfl,O⟩ <;>
 rcases pz (P:=P) (w:=w) bI dM y B with⟨rfl,rfl,rfl⟩|⟨U,V,rfl,rfl,Y⟩ <;>
 rcases pz (P:=P) (w:=w) bI dM A F with⟨rfl,rfl,rfl⟩|⟨Z,aa,rfl,rfl,ab⟩ <;>
 first
  |(simp at H;done)
  |simp (discharger:=omega) [Instr.sliceBounds, *]
end
section
variable{P:Program}{ty:TypeId}{ρ:Operand→Value}{κ:a5}{s:ag}{w:World}(aV:cL κ s w)
theorem m2(a:ByteArray)(l h:Nat):(a.extract l h).data.toList=(a.data.toList.drop l).take (h-l):=by simp [List.extract_eq_take_drop]
include aV
theorem vz{E:Env}(bh:E.F=.not){k:ae→ag→ah}{r:ah}(bg:r≠.fail){an:Nat→ae}{a:Act}(bI:vj κ s an a)(dM:jR κ E.au){t:TypeId}{x:br}{y:Operand}{fW bN:Option br}{q A:Option Operand}(d6:P.underlying t=some .string)
  (H:cp x y=true)(I:fa fW q=true)(J:fa bN A=true)(aJ:jk E an s k (ap E.au an x) fW bN=r):∃fp,k fp s=r∧dB P (.slice t y q A none) ty a.eval κ s w fp s:=by
 have aZ:=bk bI dM H;generalize bD:ap E.au an x=v at aZ aJ;cases v<;> simp only[ae.aq] at aZ<;> simp only[jk] at aJ<;> try exact absurd aJ.symm bg
 rename_i eB;cases kf:dv E.au an fW 0 with
 |none=>simp only[kf] at aJ;exact absurd aJ.symm bg
 |some l=>
  cases e:dv E.au an bN eB.length with
  |none=>simp only[kf,e] at aJ;exact absurd aJ.symm bg
  |some h=>
   simp only[kf,e,bh,aN.not] at aJ;obtain⟨p,M⟩:=cP aJ bg;rw[bm] at p;have ar:=dL p.1;have ay:=dL p.2;obtain⟨c,ex,aW⟩:=aZ.hW;have eF:c.size=eB.length:=by have:=congrArg List.length aW;rw[ht,Array.length_toList] at this;exact this
   refine⟨_,M,bs aV (.string (c.extract l h)) (fun _ _ _ _=>?_) (.str _ _ ?_)⟩
   ·have B:=g4 (P:=P) (w:=w) bI dM I J (show fa none none=true from rfl) (len:=c.size) (cap:=c.size) kf (by rw[eF];exact e) (m:=c.size) rfl ar (by omega) (aC _) (by simp) false;simp only[Option.map_none] at B;simp [execOp,Instr.sliceAt,Instr.slice,run_underlying d6,ex,B]
   ·rw[m2,List.map_take,List.map_drop,aW]
theorem vA{E:Env}(bh:E.F=.not){k:ae→ag→ah}{r:ah}(bg:r≠.fail){an:Nat→ae}{a:Act}(bI:vj κ s an a)(dM:jR κ E.au){t e:TypeId}{sz n:Nat}{x:br}{y:Operand}{fW bN ii:Option br}{q B H:Option Operand}(d6:P.underlying t=some (.array n e))(hr:eR P e=some sz)
  (N:cp x y=true)(O:fa fW q=true)(U:fa bN B=true)(V:fa ii H=true)(Y:ii.isSome=true→bN.isSome=true)(aJ:ie E an s k sz n (ap E.au an x) fW bN ii=r):∃fp,k fp s=r∧dB P (.slice t y q B H) ty a.eval κ s w fp s:=by
 have aZ:=bk bI dM N;generalize bD:ap E.au an x=v at aZ aJ;have run:∀(A:Addr) (l h m:Nat),a.eval y=.pointer (some A)→(Instr.sliceBounds false n n (q.map a.eval) (B.map a.eval) (H.map a.eval)).run P w=.ok (l,h,m) w→∀dst pos after guard,(execOp a.eval ⟨dst,.slice t y q B H,ty,pos,after,guard⟩).run P w=.ok (.value (.slice (some (if m=l then A else A.add (l*sz))) (h-l) (m-l))) w:=by intro A l h m ex p dst pos after guard;simp [execOp,Instr.sliceAt,run_underlying d6,ex,p,eg hr,Instr.sureAddr]
 cases v<;> simp only[ae.aq] at aZ<;> simp only[ie] at aJ<;> try exact absurd aJ.symm bg
 rename_i b off;cases kf:dv E.au an fW 0 with
 |none=>simp only[kf] at aJ;exact absurd aJ.symm bg
 |some l=>
  cases I:dv E.au an bN n with
  |none=>simp only[kf,I] at aJ;exact absurd aJ.symm bg
  |some h=>
   cases J:dv E.au an ii n with
   |none=>simp only[kf,I,J] at aJ;exact absurd aJ.symm bg
   |some m=>
    simp only[kf,I,J,bh,aN.not] at aJ;obtain⟨p,Z⟩:=cP aJ bg;simp only[bm] at p;have ar:=dL p.1.1;have ay:=dL p.1.2;have ch:=dL p.2;refine⟨_,Z,?_⟩;cases M:b.aq s.aa with
    |l i=>cases b<;> simp [Loc.aq] at M
    |g d j=>
     rw[M] at aZ;obtain⟨ex,cF,da⟩:=aZ.l1;have ab:=g4 (P:=P) (w:=w) bI dM O U V (len:=n) (cap:=n) kf I J ar ay ch Y false;refine bs aV _ (run _ _ _ _ ex ab) ?_;simp only[ae.aq,M]
     have:(if m=l then(⟨κ.loc d j,off,none⟩:Addr) else(⟨κ.loc d j,off,none⟩:Addr).add (l*sz))=⟨κ.loc d j,if m=l then off else off+l*sz,none⟩:=by
      split
      ·rfl
      ·simp [fF]
     rw[this];exact .cD d j _ _ _ _ sz cF da (by omega) (.inl rfl)
omit aV in
theorem tx.left{g:ga}{es:List ae}(h:tx g es)(cE:∀d j,g≠.dW (.g d j)):∀e,e∈es→e.bj=true:=by
 rcases h with h|⟨d,j,e,_⟩
 ·exact h
 ·exact absurd e (cE d j)
omit aV in
theorem tx.part{g':ga}{es:List ae}(h:∀e,e∈es→e.bj=true)(l n:Nat):tx g' ((es.drop l).take n):=.inl fun e he=>h e (List.mem_of_mem_drop (List.mem_of_mem_take he))
theorem xc{E:Env}(bh:E.F=.not){k:ae→ag→ah}{r:ah}(bg:r≠.fail){an:Nat→ae}{a:Act}(bI:vj κ s an a)(dM:jR κ E.au){t e:TypeId}{sz:Nat}{x:br}{y:Operand}{fW bN ii:Option br}{ad af O:Option Operand}(d6:P.underlying t=some (.slice e))(hr:eR P e=some sz)
  (aw:cp x y=true)(ai:fa fW ad=true)(aj:fa bN af=true)(U:fa ii O=true)(ao:ii.isSome=true→bN.isSome=true)(aJ:jw E an s k sz (ap E.au an x) fW bN ii=r):∃fp,k fp s=r∧dB P (.slice t y ad af O) ty a.eval κ s w fp s:=by
 have aZ:=bk bI dM aw;generalize bD:ap E.au an x=v at aZ aJ;have run:∀(A:Option Addr) (len cap l h m:Nat),a.eval y=.slice A len cap→(Instr.sliceBounds true len cap (ad.map a.eval) (af.map a.eval) (O.map a.eval)).run P w=.ok (l,h,m) w→∀dst pos after guard,(execOp a.eval ⟨dst,.slice t y ad af O,ty,pos,after,guard⟩).run P w=.ok (.value (.slice (if m=l then A else A.map (·.add (l*sz))) (h-l) (m-l))) w:=by intro A len cap l h m ex p dst pos after guard;simp [execOp,Instr.sliceAt,Instr.slice,run_underlying d6,ex,p,eg hr]
 cases v<;> simp only[ae.aq] at aZ<;> simp only[jw] at aJ<;> try exact absurd aJ.symm bg
 case cm z es g=>
  cases kf:dv E.au an fW 0 with
  |none=>simp only[kf] at aJ;exact absurd aJ.symm bg
  |some l=>
   cases B:dv E.au an bN es.length with
   |none=>simp only[kf,B] at aJ;exact absurd aJ.symm bg
   |some h=>
    simp only[kf,B,bh,aN.not] at aJ;have part:∀(A:Addr) (cap:Nat) (di:Nat→Value) (g':ga),(es≠[]→A.spot=none)→(∀e,e∈es→e.cells.length=sz)→tx (g'.aq s.aa) ((es.drop l).take (h-l))→
      (∀j,j<(es.flatMap ae.cells).length→κ.F (A.add j)=some (di j))→(∀(j:Nat) (c:ae),(es.flatMap ae.cells)[j]? =some c→ds κ (s.aa+1) c (di j))→l≤h→h≤es.length→∀m,h≤m→
      iF κ (s.aa+1) sz (g'.aq s.aa) (h-l) (if m=l then A else A.add (l*sz)) (m-l)→g'.aq s.aa≠.nil→
      ds κ (s.aa+1) ((ae.cm sz ((es.drop l).take (h-l)) g').aq s.aa) (.slice (some (if m=l then A else A.add (l*sz))) (h-l) (m-l)):=by
     intro A cap di g' V dk H Y Z aK ax m aL cE I;have hlen:((es.drop l).take (h-l)).length=h-l:=by simp;omega
     simp only[ae.aq];have jJ:∀e,e∈(es.drop l).take (h-l)→e∈es:=fun e he=>List.mem_of_mem_drop (List.mem_of_mem_take he)
     have az:=eI es sz dk;have as:=eI _ sz (fun e he=>dk e (jJ e he));have aA:∀j,j<(h-l)*sz→((((es.drop l).take (h-l))).flatMap ae.cells)[j]? =(es.flatMap ae.cells)[l*sz+j]?:=by
      intro j da;have aB:0<sz:=Nat.pos_of_ne_zero (fun eU=>by rw[eU] at da;simp at da);have f8:j/sz<h-l:=Nat.div_lt_of_lt_mul (by rw[ed];exact da);have h4:j%sz<sz:=Nat.mod_lt _ aB;have tB:j=j/sz*sz+j%sz:=by rw[ed];exact(Nat.div_add_mod j sz).symm
      have hle:l+j/sz<es.length:=by omega
      have dI:((es.drop l).take (h-l))[j/sz]? =some es[l+j/sz]:=by rw[List.getElem?_take,if_pos f8,List.getElem?_drop,fB hle]
      have aD:es[l+j/sz]? =some es[l+j/sz]:=fB hle;have f1:=m1 _ sz _ _ (fun e he=>dk e (jJ e he)) dI (j%sz) h4;have f2:=m1 es sz _ _ dk aD (j%sz) h4;rw[←tB] at f1;rw[f1,←f2];congr 1;rw[eL];omega
     by_cases av:m=l
     ·have eU:h-l=0:=by omega
      rw[if_pos av] at cE ⊢;have aE:(es.drop l).take (h-l)=[]:=by rw[eU];simp
      rw[aE];rw[eU] at cE ⊢;exact .cm sz [] _ A _ di cE (Nat.zero_le _) (fun h=>absurd rfl h) (fun e he=>by simp at he) (.inl fun e he=>by simp at he) (fun j da=>by simp at da) (fun j c aW=>by simp at aW)
     ·rw[if_neg av] at cE ⊢;have key:ds κ (s.aa+1) (ae.cm sz ((es.drop l).take (h-l)) (g'.aq s.aa)) (.slice (some (A.add (l*sz))) ((es.drop l).take (h-l)).length (m-l)):=by
       refine .cm sz _ _ _ _ (fun j=>di (l*sz+j)) (by rw[hlen];exact cE) (by rw[hlen];omega) (fun e6=>lW (V (fun nY=>e6 (by simp [nY]))) _) (fun e he=>dk e (jJ e he)) H (fun j da=>?_) (fun j c aW=>?_)
       ·rw[add_add];refine Y _ ?_;rw[as,hlen] at da;rw[az]
        have:h*sz≤es.length*sz:=fi _ ax;have aM:l*sz+(h-l)*sz=h*sz:=by rw[←eL];congr 1;omega
        omega
       ·have da:=(ez.1 aW).1;rw[as,hlen] at da;rw[aA j da] at aW;exact Z _ c aW
      rw[hlen] at key;exact key
    cases ii with
    |none=>
     cases O with
     |some y=>simp [fa] at U
     |none=>
     simp only at aJ;obtain⟨p,ab⟩:=cP aJ bg;rw[bm,bm,bm] at p;have ac:z=sz:=(c4 p.1.1.1).symm;subst ac;have ar:=dL p.1.1.2;have ay:=dL p.1.2;have ak:=p.2;refine⟨_,ab,?_⟩;rcases aZ.hf with⟨rfl,cE,ex⟩|⟨A,cap,di,ex,cE,df,V,dk,H,Y,Z⟩
     ·have I:g=.nil:=by cases g<;> simp_all [ga.aq]
      subst I;simp only[cr,Nat.le_zero_eq] at ay;subst ay;simp only[Nat.le_zero_eq] at ar;subst ar;have M:=g4 (P:=P) (w:=w) bI dM ai aj U (len:=0) (cap:=0) kf B (m:=0) rfl (aC _) (aC _) (aC _) (by simp) true;exact bs aV _ (run _ _ _ _ _ _ ex M) (by simp;exact .kn z)
     ·have M:=g4 (P:=P) (w:=w) bI dM ai aj U (len:=es.length) (cap:=cap) kf B (m:=cap) rfl ar (by omega) (aC _) (by simp) true;refine bs aV _ (run _ _ _ _ _ _ ex M) ?_;have gb:=fun g' aF al I=>part A cap di g' V dk aF Y Z ar ay cap (by omega) al I
      have dI:(if cap=l then some A else Option.map (fun x=>x.add (l*z)) (some A))=some (if cap=l then A else A.add (l*z)):=by split<;> rfl
      rw[dI];cases g with
      |nil=>simp [ga.aq,iF] at cE
      |any=>exact gb .any (.part (H.left (by simp [ga.aq])) l (h-l)) trivial (by simp [ga.aq])
      |exact=>
       simp only[ga.aq,iF] at cE;subst cE;by_cases J:h=es.length
       ·subst J;simp only[↓reduceIte];exact gb .exact (.part (H.left (by simp [ga.aq])) l _) rfl (by simp [ga.aq])
       ·simp only[J,↓reduceIte];exact gb .any (.part (H.left (by simp [ga.aq])) l (h-l)) trivial (by simp [ga.aq])
      |dW b=>
       by_cases J:l=0∧h=es.length
       ·obtain⟨rfl,rfl⟩:=J;simp only[true_and,↓reduceIte];refine gb (.dW b) (by simpa using H) ?_ (by simp [ga.aq]);simp only[Nat.sub_zero,Nat.zero_mul,Addr.add,↓reduceIte];simpa using cE
       ·have tN:∀e,e∈es→e.bj=true:=by
         simp only[oM,Bool.or_eq_true,bm] at ak;rcases ak with⟨aG,aH⟩|q
         ·exact absurd ⟨c4 aG,c4 aH⟩ J
         ·exact d5.1 q
        simp only[J,↓reduceIte];exact gb .any (.part tN l (h-l)) trivial (by simp [ga.aq])
    |some aI=>
     cases O with
     |none=>simp [fa] at U
     |some aO=>
     cases N:eD (ap E.au an aI) with
     |none=>simp only[N] at aJ;cases g<;> simp only at aJ<;> exact absurd aJ.symm bg
     |some m=>
      simp only[N] at aJ;have I:g≠.nil:=by rintro rfl;exact absurd aJ.symm bg
      have h4:(bif Nat.beq sz z&&Nat.ble l h&&Nat.ble h m&&Nat.ble m es.length&&tu g es then k (.cm z ((es.drop l).take (h-l)) (if h=m then .exact else .any)) s else .fail)=r:=by cases g<;> first|exact absurd rfl I|exact aJ
      obtain⟨p,ab⟩:=cP h4 bg;simp only[bm] at p;have ac:z=sz:=(c4 p.1.1.1.1).symm;subst ac;have ar:=dL p.1.1.1.2;have ay:=dL p.1.1.2;have ch:=dL p.1.2;have ak:=p.2;refine⟨_,ab,?_⟩;rcases aZ.hf with⟨rfl,cE,ex⟩|⟨A,cap,di,ex,cE,df,V,dk,H,Y,Z⟩
      ·exact absurd (by cases g<;> simp_all [ga.aq]) I
      ·have M:=g4 (P:=P) (w:=w) bI dM ai aj U (len:=es.length) (cap:=cap) kf B (m:=m) N ar ay (by omega) ao true;refine bs aV _ (run _ _ _ _ _ _ ex M) ?_;have tN:∀e,e∈es→e.bj=true:=by
        cases g with
        |dW b=>exact d5.1 ak
        |nil=>exact H.left (by simp [ga.aq])
        |exact=>exact H.left (by simp [ga.aq])
        |any=>exact H.left (by simp [ga.aq])
       have gb:=fun g' al I=>part A cap di g' V dk (.part tN l (h-l)) Y Z ar (by omega) m ay al I
       have dI:(if m=l then some A else Option.map (fun x=>x.add (l*z)) (some A))=some (if m=l then A else A.add (l*z)):=by split<;> rfl
       rw[dI];by_cases J:h=m
       ·subst J;simp only[↓reduceIte];exact gb .exact rfl (by simp [ga.aq])
       ·simp only[J,↓reduceIte];exact gb .any trivial (by simp [ga.aq])
 case cD b off len cap z=>
  cases kf:dv E.au an fW 0 with
  |none=>simp only[kf] at aJ;exact absurd aJ.symm bg
  |some l=>
   cases B:dv E.au an bN len with
   |none=>simp only[kf,B] at aJ;exact absurd aJ.symm bg
   |some h=>
    cases N:dv E.au an ii cap with
    |none=>simp only[kf,B,N] at aJ;exact absurd aJ.symm bg
    |some m=>
     simp only[kf,B,N,bh,aN.not] at aJ;obtain⟨p,ab⟩:=cP aJ bg;simp only[bm] at p;have ac:z=sz:=(c4 p.1.1.1.1).symm;subst ac;have ar:=dL p.1.1.1.2;have ay:=dL p.1.1.2;have ch:=dL p.1.2;have sQ:=dL p.2;refine⟨_,ab,?_⟩;cases am:b.aq s.aa with
     |l i=>cases b<;> simp [Loc.aq] at am
     |g d j=>
      rw[am] at aZ;obtain⟨ex,cF,da⟩:=aZ.F7 sQ;have M:=g4 (P:=P) (w:=w) bI dM ai aj U (len:=len) (cap:=cap) kf B N ar ay ch ao true;refine bs aV _ (run _ _ _ _ _ _ ex M) ?_;simp only[ae.aq,am]
      have:(if m=l then some (⟨κ.loc d j,off,none⟩:Addr) else Option.map (fun(x:Addr)=>x.add (l*z)) (some ⟨κ.loc d j,off,none⟩))=some ⟨κ.loc d j,if m=l then off else off+l*z,none⟩:=by
       split
       ·rfl
       ·simp [fF]
      rw[this];exact .cD d j _ _ _ _ z cF da (by omega) (.inl rfl)
end
theorem xd(l:List Value):∀(n:Nat) (cs:Array Value) (off:Nat),(l.zipIdx n).foldl (fun cs (p:Value×Nat)=>cs.setIfInBounds (off+p.2) p.1) cs=(dO cs.toList (off+n) l).toArray:=by
 induction l with
 |nil=>intro n cs off;simp [dO]
 |cons v l e=>intro n cs off;simp only[List.zipIdx_cons,List.foldl_cons,dO];rw[e (n+1)];congr 1;simp [Array.toList_setIfInBounds,Nat.add_assoc]
theorem o3(C:Array Value)(cs:Array Value)(off:Nat):C.zipIdx.foldl (fun cs (p:Value×Nat)=>cs.setIfInBounds (off+p.2) p.1) cs=(dO cs.toList off C.toList).toArray:=by rw[←Array.foldl_toList,Array.toList_zipIdx,xd];simp
section
variable{P:Program}{ty:TypeId}{ρ:Operand→Value}{κ:a5}{s:ag}{w:World}(aV:cL κ s w)
def jZ(place:Nat→Option (Nat×Nat)):List (Nat×Nat×br)→List (Nat×Operand)→Bool
 |[],[]=>true
 |(off,sz,x)::eo,(i,y)::e=>(place i==some (off,sz))&&cp x y&&jZ place eo e
 |_,_=>false
theorem tO{G:Nat→ae}{an:Nat→ae}{a:Act}(bI:vj κ s an a)(dM:jR κ G)(place:Nat→Option (Nat×Nat)):∀(eo:List (Nat×Nat×br)) (A:List (Nat×Operand)) (cs r:List ae) (xs:List Value),
  jZ place eo A=true→d9 κ (s.aa+1) cs xs→eY G s.aa an cs eo=some r→∃B,Instr.fill place xs.toArray (A.map fun p=>(p.1,a.eval p.2))=some B.toArray∧d9 κ (s.aa+1) r B
 |[],[],cs,r,xs,_,h,bg=>by simp only[eY,a8] at bg;exact⟨xs,rfl,bg ▸ h⟩
 |[],_::_,_,_,_,h,_,_=>by simp [jZ] at h
 |_::_,[],_,_,_,h,_,_=>by simp [jZ] at h
 |(off,sz,x)::eo,(i,y)::A,cs,r,xs,F,h,bg=>by
  simp only[jZ,bm,beq_iff_eq] at F;simp only[eY] at bg;have aZ:=bk bI dM F.1.2;generalize (ap G an x).aq s.aa=v at aZ bg;cases q:(v.fj&&Nat.beq v.cells.length sz&&Nat.ble (off+sz) cs.length) with
  |false=>rw[q] at bg;simp at bg
  |true=>
   rw[q,ci] at bg;simp only[bm] at q;have bD:=aZ.cells q.1.1;have ar:=c4 q.1.2;have ay:=dL q.2;have ch:=h.dO bD (o:=off) (by omega);obtain⟨B,e,H⟩:=tO bI dM place eo A _ r _ F.2 ch bg;refine⟨B,?_,H⟩;have eF:(a.eval y).cells.size=sz:=by rw[←Array.length_toList,bD.1,ar]
   have hle:¬(off+(a.eval y).cells.size>xs.toArray.size):=by simp only[List.size_toArray,h.1,eF];omega
   have I:decide (off+(a.eval y).cells.size>xs.toArray.size)=false:=dT hle;have J:=o3 (a.eval y).cells xs.toArray off;simp only[fM,Instr.fill,F.1.1,eF,ne_eq,not_true_eq_false,du,Bool.false_or];rw[←eF,I];simp only[bL,↓reduceIte];rw[J];exact e
def jy(P:Program)(t:TypeId)(z:List ae):Bool:=
 match (P.info? t).bind (·.zero) with
 |some v=>mo z v.cells.toList
 |none=>false
theorem kt{t:TypeId}{z:List ae}(h:jy P t z=true)(w:World):∃v,(zeroValue t).run P w=.ok v w∧(∀κ D,d9 κ D z v.cells.toList)∧ae.a6 z=true∧∃i,P.info? t=some i∧i.zero=some v:=by
 unfold jy at h;cases bN:P.info? t with
 |none=>simp [bN] at h
 |some i=>
  cases hr:i.zero with
  |none=>simp [bN,hr] at h
  |some v=>simp only[bN,fZ,hr] at h;obtain⟨ar,ay⟩:=mN _ _ h;exact⟨v,by simp [zeroValue,typeInfo,bN,hr],ar,ay,i,rfl,hr⟩
include aV
theorem tP{v:Value}{t:TypeId}{o:Op}{cs:List ae}(aW:d9 κ (s.aa+1) cs v.cells.toList)(h:∀dst pos after guard,(execOp ρ ⟨dst,o,ty,pos,after,guard⟩).run P w=.ok (.value (.pointer (some ⟨w.heap.size,0,none⟩))) (w.alloc (.cells v.cells t))):
  dB P o ty ρ κ s w (.ref (.l s.own.length) 0) (s.new (.cells cs)):=by
 obtain⟨κ',ar,ay,ch,dk⟩:=aV.n4 cs v.cells t aW (w':=w.alloc (.cells v.cells t)) rfl rfl rfl rfl;refine⟨_,κ',_,.inl h,ay,ar,?_⟩;simp only[ae.aq,Loc.aq];rw[←ch];exact .ref _ _ _ (Nat.lt_succ_self _) dk
theorem xe{t:TypeId}{z:List ae}(hr:jy P t z=true):dB P (.alloc t) ty ρ κ s w (.ref (.l s.own.length) 0) (s.new (.cells z)):=by obtain⟨v,e,ar,_,_⟩:=kt hr w;exact tP aV (v:=v) (t:=t) (ar _ _) (fun _ _ _ _=>by simp [execOp,Instr.alloc,e,newVar,newRow])
theorem vB{t:TypeId}{x:Operand}{v:ae}(aZ:ds κ (s.aa+1) (v.aq s.aa) (ρ x))(bD:v.fj=true):dB P (.box t x) ty ρ κ s w (.ref (.l s.own.length) 0) (s.new (.cells (v.aq s.aa).cells)):=
 tP aV (v:=ρ x) (t:=t) (aZ.cells (by rw[tG];exact bD)) (fun _ _ _ _=>by simp [execOp,Instr.box,newVar,newRow])
theorem o4{C:Array Value}{t:TypeId}{o:Op}{cs:List ae}(aW:d9 κ (s.aa+1) cs C.toList)(x:Addr→Value)(v:ae)(e:∀κ',f6 κ κ' (s.aa+1)→(∀j,j<cs.length→κ'.F ⟨w.heap.size,j,none⟩=C[j]?)→ds κ' (s.aa+1) (v.aq s.aa) (x ⟨w.heap.size,0,none⟩))
  (h:∀dst pos after guard,(execOp ρ ⟨dst,o,ty,pos,after,guard⟩).run P w=.ok (.value (x ⟨w.heap.size,0,none⟩)) (w.alloc (.cells C t))):dB P o ty ρ κ s w v s:=by
 obtain⟨ar,ay⟩:=aV.p0 (w':=w.alloc (.cells C t)) C t (0,0) rfl rfl rfl rfl;have bO:C.size=cs.length:=by simpa using aW.1
 refine⟨_,_,_,.inl h,ay,ar,e _ ay.k (fun j da=>?_)⟩;rw[nu (Nat.zero_le _) (by omega),Array.getElem?_eq_getElem (by omega)]
theorem xf{t:TypeId}{x:Operand}{v:ae}(aZ:ds κ (s.aa+1) (v.aq s.aa) (ρ x))(bD:v.fj=true):dB P (.box t x) ty ρ κ s w (.bU (v.aq s.aa).cells) s:=by
 have aW:=aZ.cells (by rw[tG];exact bD);refine o4 aV (t:=t) aW (fun a=>.pointer (some a)) _ (fun κ' c3 ka=>?_) (fun _ _ _ _=>by simp [execOp,Instr.box,newVar,newRow]);refine .bU _ _ (fun j=>(ρ x).cells.getD j undef) rfl (fun j da=>?_) (fun j c da=>?_)
 ·rw[fF rfl];simp only[bc];rw[ka j da]
  have:j<(ρ x).cells.size:=by have:=aW.1;simp at this;omega
  simp [Array.getD,this]
 ·obtain⟨y,fb,e⟩:=aW.get da
  have:(ρ x).cells.getD j undef=y:=by
   have h:(ρ x).cells[j]? =some y:=by simpa using fb
   simp [Array.getD_eq_getD_getElem?,h]
  rw[this];exact e.mono c3
theorem vC{f:Nat}{cs:List br}{dw:List Operand}{G:Nat→ae}{an:Nat→ae}{a:Act}(bI:vj κ s an a)(dM:jR κ G)(h:dp cs dw=true):
  dB P (.makeFunc (.func f) #[] dw.toArray) ty a.eval κ s w (.fn f (cs.map fun x=>(ap G an x).aq s.aa)) s:=by
 have key:∀(cs:List br) (dw:List Operand),dp cs dw=true→d9 κ (s.aa+1) (cs.map fun x=>(ap G an x).aq s.aa) (dw.map a.eval):=by
  intro cs
  induction cs with
  |nil=>intro dw h;cases dw with
   |nil=>exact .nil _ _
   |cons _ _=>simp [dp] at h
  |cons c cs e=>intro dw h;cases dw with
   |nil=>simp [dp] at h
   |cons y p=>simp only[dp,bm] at h;exact .cons (bk bI dM h.1) (e p h.2)
 have c3:=key cs dw h;exact bs aV (.func (.func f) #[] (dw.map a.eval).toArray) (fun _ _ _ _=>by simp [execOp,Instr.makeFunc]) (.fn f _ _ c3.1 c3.2)
theorem oT{G:Nat→ae}{an:Nat→ae}{a:Act}(bI:vj κ s an a)(dM:jR κ G){t:TypeId}{z cs:List ae}{eo:List (Nat×Nat×br)}{q:List (Nat×Operand)}{jD:Array Field}(d6:P.underlying t=some (.struct jD))(hr:jy P t z=true)
  {pl:Array (Nat×Nat)}(r:(jD.toList.mapM fun f=>(eR P f.type).map fun n=>(f.offset,n))=some pl.toList)(y:jZ (pl[·]?) eo q=true)(aW:eY G s.aa an z eo=some cs):
  dB P (.build t q.toArray) ty a.eval κ s w (.agg cs) s:=by
 obtain⟨v,e,ar,_,_⟩:=kt hr w;have A:∀(jD:List Field) (pl:List (Nat×Nat)),(jD.mapM fun f=>(eR P f.type).map fun n=>(f.offset,n))=some pl→(jD.mapM fun f=>do pure (f.offset,←sizeOf f.type):Sem _).run P w=.ok pl w:=by
  intro jD
  induction jD with
  |nil=>intro pl h;simp at h;subst h;simp
  |cons f jD B=>
   intro pl h;simp only[List.mapM_cons,Option.bind_eq_bind,Option.bind_eq_some_iff,Option.pure_def,a8] at h;obtain⟨p,gb,eo,F,rfl⟩:=h;cases eF:eR P f.type with
   |none=>simp [eF] at gb
   |some n=>
    simp only[eF,eb,a8] at gb;subst gb
    have:=B eo F;simp only[bind_pure_comp] at this;simp [List.mapM_cons,eg eF,this]
 have hm:(jD.mapM fun f=>do pure (f.offset,←sizeOf f.type):Sem _).run P w=.ok pl w:=by
  rw[Array.mapM_eq_mapM_toList]
  have:=A jD.toList pl.toList r;simp only[bind_pure_comp] at this;simp [this]
 obtain⟨H,hJ,bD⟩:=tO bI dM _ eo q z cs v.cells.toList y (ar _ _) aW;refine bs aV (.agg H.toArray) (fun _ _ _ _=>?_) (.agg _ _ bD.1 bD.2);simp only[Array.toArray_toList] at hJ;simp only[bind_pure_comp] at hm;simp [execOp,Instr.build,e,run_underlying d6,hm,hJ]
theorem pA{G:Nat→ae}{an:Nat→ae}{a:Act}(bI:vj κ s an a)(dM:jR κ G){t el:TypeId}{len sz:Nat}{z cs:List ae}{eo:List (Nat×Nat×br)}{h:List (Nat×Operand)}(d6:P.underlying t=some (.array len el))(eF:eR P el=some sz)(hr:jy P t z=true)
  (p:jZ (fun i=>some (i*sz,sz)) eo h=true)(aW:eY G s.aa an z eo=some cs):
  dB P (.build t h.toArray) ty a.eval κ s w (.agg cs) s:=by
 obtain⟨v,e,ar,_,_⟩:=kt hr w;obtain⟨q,hJ,bD⟩:=tO bI dM _ eo h z cs v.cells.toList p (ar _ _) aW;refine bs aV (.agg q.toArray) (fun _ _ _ _=>?_) (.agg _ _ bD.1 bD.2);simp only[Array.toArray_toList] at hJ;simp [execOp,Instr.build,e,run_underlying d6,eg eF,hJ]
omit aV in
theorem mq{G:Nat→ae}{an:Nat→ae}{a:Act}(bI:vj κ s an a)(dM:jR κ G)(sz:Nat):∀(eo:List br) (q:List Operand) (i:Nat) (es:List ae) (pre:List Value) (rest:List Value),
  dp eo q=true→es=eo.map (fun x=>(ap G an x).aq s.aa)→(∀e,e∈es→e.fj=true∧e.cells.length=sz)→pre.length=i*sz→rest.length=q.length*sz→
  ∃xs,Instr.fill (fun i=>some (i*sz,sz)) (pre++rest).toArray ((q.zipIdx i).map fun p=>(p.2,a.eval p.1))=some (pre++xs).toArray∧d9 κ (s.aa+1) (es.flatMap ae.cells) xs
 |[],[],i,es,pre,rest,_,he,_,_,aJ=>by
  subst he
  have:rest=[]:=by simpa using aJ
  subst this;exact⟨[],by simp [Instr.fill],.nil _ _⟩
 |[],_::_,_,_,_,_,h,_,_,_,_=>by simp [dp] at h
 |_::_,[],_,_,_,_,h,_,_,_,_=>by simp [dp] at h
 |x::eo,y::q,i,es,pre,rest,r,he,A,gb,aJ=>by
  simp only[dp,bm] at r;subst he;have aZ:=bk bI dM r.1;obtain⟨ar,ay⟩:=A ((ap G an x).aq s.aa) (by simp);have bD:=aZ.cells ar;have eF:(a.eval y).cells.toList.length=sz:=by rw[bD.1,ay]
  have tN:rest.length=sz+q.length*sz:=by rw[aJ,bM,Nat.succ_mul,Nat.add_comm]
  have H:dO (pre++rest) (i*sz) (a.eval y).cells.toList=(pre++(a.eval y).cells.toList)++rest.drop sz:=by
   apply List.ext_getElem?;intro j;rw[gw _ _ _ (by simp only[f9];omega),eF];by_cases J:j<i*sz
   ·rw[if_neg (by omega),tr,g1 (by omega),g1 (by omega)]
   ·by_cases I:j<i*sz+sz
    ·rw[if_pos ⟨by omega,I⟩,tr,im (by omega),g1 (by omega),gb]
    ·rw[if_neg (by omega),im (by omega),im (by simp only[f9];omega),List.getElem?_drop];congr 1;simp only[f9];omega
  obtain⟨xs,e,fG⟩:=mq bI dM sz eo q (i+1) _ (pre++(a.eval y).cells.toList) (rest.drop sz) r.2 rfl (fun e he=>A e (by simp at he ⊢;exact .inr he)) (by simp only[f9,gb,eF,Nat.succ_mul]) (by simp only[List.length_drop];omega);refine⟨(a.eval y).cells.toList++xs,?_,by simpa using bD.append fG⟩;have B:(a.eval y).cells.size=sz:=by rw[←Array.length_toList];exact eF
  have hle:decide (i*sz+(a.eval y).cells.size>(pre++rest).toArray.size)=false:=dT (by simp only[List.size_toArray,f9];omega);have F:=o3 (a.eval y).cells (pre++rest).toArray (i*sz);rw[H] at F;simp only[List.zipIdx_cons,fM,Instr.fill,B,ne_eq,not_true_eq_false,du,Bool.false_or];rw[B] at hle;rw[hle];simp only[bL,↓reduceIte];rw[F,e,tr]
omit aV in
theorem k8{t el:TypeId}{sz n:Nat}{v:Value}{parts:Array (Nat×Value)}{xs:Array Value}(d6:P.underlying t=some (.slice el))(eF:eR P el=some sz)(bD:(zeroValue el).run P w=.ok v w)(gC:¬(n*sz>2^24))
  (bg:Instr.fill (fun i=>some (i*sz,sz)) ((Array.range (n*sz)).map (v.cells[· % v.cells.size]!)) parts.toList=some xs):(Instr.buildSlice t n parts).run P w=.ok (.slice (some ⟨w.heap.size,0,none⟩) n n) (w.alloc (.cells xs el)):=by
 unfold Instr.buildSlice;simp only[Sem.run_bind,run_underlying d6,Result.andThen_ok,eg eF];rw[if_neg gC];by_cases eU:n*sz=0
 ·have nY:(Array.range (n*sz)).map (fun x=>(#[]:Array Value)[x%(#[]:Array Value).size]!)=(Array.range (n*sz)).map (v.cells[· % v.cells.size]!):=by
   rw[eU];simp
  rw[if_pos eU];simp only[Sem.run_bind,Sem.run_pure,Result.andThen_ok];rw[nY,bg];simp [newRow]
 ·rw[if_neg eU];simp only[Sem.run_bind,bD,Result.andThen_ok,Sem.run_pure];rw[bg];simp [newRow]
theorem p7{G:Nat→ae}{an:Nat→ae}{a:Act}(bI:vj κ s an a)(dM:jR κ G){t el:TypeId}{sz:Nat}{z:List ae}{eo:List br}{r:List Operand}(d6:P.underlying t=some (.slice el))(eF:eR P el=some sz)(hr:jy P el z=true)(I:z.length=sz)
  (gC:¬(r.length*sz>2^24))(B:dp eo r=true)(aJ:ae.a6 (eo.map (ap G an))=true)(bD:∀e,e∈eo.map (ap G an)→e.fj=true∧e.cells.length=sz):
  dB P (.buildSlice t r.length (r.zipIdx.map fun p=>(p.2,p.1)).toArray) ty a.eval κ s w (.cm sz (eo.map (ap G an)) .exact) s:=by
 obtain⟨v,e,ar,_,_⟩:=kt hr w;have H:eo.map (fun x=>(ap G an x).aq s.aa)=eo.map (ap G an):=by apply List.map_congr_left;intro x aZ;exact iV (d5.1 aJ _ (List.mem_map_of_mem aZ)) _
 have Y:v.cells.size=sz:=by rw[←Array.length_toList,(ar κ 0).1,I]
 have hlen:(eo.map (ap G an)).length=r.length:=by
  have:∀(eo:List br) (r:List Operand),dp eo r=true→eo.length=r.length:=by
   intro eo
   induction eo with
   |nil=>intro r h;cases r<;> simp [dp] at h ⊢
   |cons p eo J=>intro r h;cases r with
    |nil=>simp [dp] at h
    |cons q r=>simp only[dp,bm] at h;simp [J r h.2]
  simp [this eo r B]
 obtain⟨xs,hJ,fG⟩:=mq bI dM sz eo r 0 (eo.map (ap G an)) [] ((Array.range (r.length*sz)).map (v.cells[· % v.cells.size]!)).toList B H.symm bD (by simp) (by simp);have F:∀dst pos after guard,(execOp a.eval ⟨dst,.buildSlice t r.length (r.zipIdx.map fun p=>(p.2,p.1)).toArray,ty,pos,after,guard⟩).run P w=.ok (.value (.slice (some ⟨w.heap.size,0,none⟩) r.length r.length)) (w.alloc (.cells xs.toArray el)):=by
  intro dst pos after guard;simp only[List.nil_append,Array.toArray_toList] at hJ;have M:=k8 (parts:=((r.zipIdx.map fun p=>(p.2,p.1)).toArray.map fun p=>(p.1,a.eval p.2))) d6 eF e gC (xs:=xs.toArray) (by rw[Array.toList_map,List.map_map];exact hJ)
  have aZ:∀(o:Oper),o.op=.buildSlice t r.length (r.zipIdx.map fun p=>(p.2,p.1)).toArray→execOp a.eval o=(do pure (.value (←Instr.buildSlice t r.length ((r.zipIdx.map fun p=>(p.2,p.1)).toArray.map fun p=>(p.1,a.eval p.2)))):Sem Next):=by intro o N;unfold execOp;rw[N]
  rw[aZ _ rfl,Sem.run_bind,M];rfl
 have aW:d9 κ (s.aa+1) ((eo.map (ap G an)).flatMap ae.cells) xs.toArray.toList:=fG;generalize O:Op.buildSlice t r.length (r.zipIdx.map fun p=>(p.2,p.1)).toArray=op at F ⊢;generalize df:r.length=n at F hlen;generalize Z:eo.map (ap G an)=es at aW hlen aJ bD ⊢;clear O df hJ fG H gC B;refine o4 aV (t:=el) aW (fun A=>.slice (some A) n n) (.cm sz es .exact) (fun κ' c3 ka=>?_) F;simp only[ae.aq,ga.aq];rw[←hlen];refine .cm sz _ .exact _ _ (fun j=>xs.getD j undef) rfl (aC _) (fun _=>rfl) (fun e he=>(bD e he).2) (.inl fun e he=>d5.1 aJ e he) (fun j da=>?_) (fun j c da=>?_)
 ·rw[fF rfl];simp only[bc];rw[ka j da];have bO:xs.length=(es.flatMap ae.cells).length:=aW.1
  have:j<xs.length:=by omega
  simp [List.getD,this]
 ·obtain⟨y,fb,U⟩:=aW.get da
  have:xs.getD j undef=y:=by have V:xs[j]? =some y:=fb;simp [List.getD,V]
  rw[this];exact U.mono c3
end
theorem vD(c:ae):(DB c).cells=[c]:=by cases c<;> rfl
theorem e5(sz:Nat):∀(n:Nat) (cs:List ae),(chunk sz n cs).length=n
 |0,_=>rfl
 |n+1,cs=>by simp [chunk,e5 sz n]
theorem j0(sz:Nat)(eF:sz≠0):∀(n:Nat) (cs:List ae),n*sz≤cs.length→(chunk sz n cs).flatMap ae.cells=cs.take (n*sz)∧∀e,e∈chunk sz n cs→e.cells.length=sz
 |0,cs,_=>by simp [chunk]
 |n+1,cs,h=>by
  rw[Nat.succ_mul] at h;obtain⟨ar,ay⟩:=j0 sz eF n (cs.drop sz) (by simp;omega);have cF:(mW sz cs).cells=cs.take sz:=by
   unfold mW;split
   ·cases cs with
    |nil=>simp at h
    |cons c cs=>rw[vD];simp
   ·rfl
  have bO:(cs.take sz).length=sz:=by simp;omega
  refine⟨?_,?_⟩
  ·simp only[chunk,List.flatMap_cons];rw[cF,ar,Nat.succ_mul,Nat.add_comm,←List.take_add]
  ·intro e he;simp only[chunk,List.mem_cons] at he;rcases he with rfl |he
   ·rw[cF,bO]
   ·exact ay e he
section
variable{P:Program}{ty:TypeId}{ρ:Operand→Value}{κ:a5}{s:ag}{w:World}(aV:cL κ s w)
include aV
theorem sR{v:ae}{x:Operand}(aZ:ds κ (s.aa+1) (v.aq s.aa) (ρ x))(df:isNil v=some false):dB P (.nilCheck x) ty ρ κ s w v s:=by
 refine bs aV (ρ x) (fun dst pos after guard=>?_) aZ;generalize fb:ρ x=y at aZ;generalize bD:v.aq s.aa=fp at aZ;have e:isNil fp=some false:=by
  rw[←bD];cases v with
  |cm sz es g=>cases g<;> first|exact df|(simp [isNil] at df)
  |_=>exact df
 cases aZ<;> simp [isNil] at e<;> simp [execOp,fb]
omit aV in
theorem BI{v:ae}(d:Nat):isNil (v.aq d)=isNil v:=by
 cases v with
 |cm sz es g=>cases g<;> rfl
 |_=>rfl
omit aV in
theorem yI{e:LH}{v:ae}(d:Nat):gA e (v.aq d)=gA e v:=by cases v<;> cases e<;> rfl
def o5(e:LH)(d:TypeDesc):Bool:=
 match e,d with
 |.bool,.bool|.slice,.slice _|.ptr,.pointer _|.func,.func .. |.map,.map .. |.iface,.interface _=>true
 |_,_=>false
omit aV in
theorem r8(t:TypeId)(X Y:Value):Op.equal t X Y=Op.equalIn (9999+1) t X Y:=rfl
inductive gD:TypeDesc→Value→Value→Bool→Prop
 |bool (a b:Bool):gD .bool (.bool a) (.bool b) (a==b)
 |LL (el:TypeId) (l c:Nat) (B:Option Addr) (l' nk:Nat):gD (.slice el) (.slice none l c) (.slice B l' nk) B.isNone
 |LM (el:TypeId) (a:Addr) (l c l' nk:Nat):gD (.slice el) (.slice (some a) l c) (.slice none l' nk) false
 |W1 (el:TypeId) (B:Option Addr):gD (.pointer el) (.pointer none) (.pointer B) B.isNone
 |W2 (el:TypeId) (a:Addr):gD (.pointer el) (.pointer (some a)) (.pointer none) false
 |func0 (p r:Array TypeId) (v:Bool):gD (.func p r v) .nilFunc .nilFunc true
 |func1 (p r:Array TypeId) (v:Bool) (f:Fn) (x y:Array Value):gD (.func p r v) .nilFunc (.func f x y) false
 |func2 (p r:Array TypeId) (v:Bool) (f:Fn) (x y:Array Value):gD (.func p r v) (.func f x y) .nilFunc false
 |W3 (k el:TypeId) (B:Option Nat):gD (.map k el) (.map none) (.map B) B.isNone
 |W4 (k el:TypeId) (a:Nat):gD (.map k el) (.map (some a)) (.map none) false
 |LN (yJ:Array (String×TypeId)) (t:TypeId) (v:Value):gD (.interface yJ) .nilIface (.iface t v) false
 |DG (yJ:Array (String×TypeId)) (t:TypeId) (v:Value):gD (.interface yJ) (.iface t v) .nilIface false
omit aV in
theorem gD.run{t:TypeId}{d:TypeDesc}(d6:P.underlying t=some d){X Y:Value}{b:Bool}(h:gD d X Y b):(Op.equal t X Y).run P w=.ok b w:=by rw[r8];generalize (9999:Nat)=n;cases h<;> simp only[Op.equalIn,Sem.run_bind,run_underlying d6,Result.andThen_ok,Sem.run_pure]
omit aV in
theorem gD.guard{d:TypeDesc}{X Y:Value}{b:Bool}(h:gD d X Y b)(op:BinOp)(t:TypeId)(x y:Operand):(eqGuard op t x y X Y).run P w=.ok () w:=by cases h<;> unfold eqGuard<;> cases op<;> rfl
omit aV in
theorem gD.gives{t yt:TypeId}{d:TypeDesc}(d6:P.underlying t=some d){x y:Operand}{b:Bool}(neg:Bool)(h:gD d (ρ x) (ρ y) b)(dst:Option Tmp)(pos:String)(after:Array Edge)(guard:Option (Nat×Bool)):
  (execOp ρ ⟨dst,.binOp (if neg then .neq else .eql) t x y yt,ty,pos,after,guard⟩).run P w=.ok (.value (.bool (bif neg then !b else b))) w:=by
 have ar:=h.run (w:=w) d6;have ay:=h.guard (P:=P) (w:=w) (if neg then .neq else .eql) t x y;have p:∀(op:BinOp),op=.eql∨op=.neq→binOp op t (ρ x) (ρ y)=match op with
   |.eql=>(do pure (.bool (←Op.equal t (ρ x) (ρ y))):Sem Value)
   |_=>(do pure (.bool (!(←Op.equal t (ρ x) (ρ y)))):Sem Value):=by
  intro op q;generalize ρ x=X at h;generalize ρ y=Y at h;rcases q with rfl |rfl <;> cases h<;> rfl
 cases neg
 ·have e:=p .eql (.inl rfl);simp only[bL,↓reduceIte] at ay ⊢;simp only[execOp,Sem.run_bind,ay,Result.andThen_ok,e,ar,Sem.run_pure,cond_false]
 ·have e:=p .neq (.inr rfl);simp only[↓reduceIte] at ay ⊢;simp only[execOp,Sem.run_bind,ay,Result.andThen_ok,e,ar,Sem.run_pure,ci]
omit aV in
theorem tQ(e:LH)(v u:ae)(d:Nat):pt e (v.aq d) (u.aq d)=pt e v u:=by
 cases e with
 |bool=>cases v<;> cases u<;> rfl
 |agg=>cases v<;> cases u<;> rfl
 |_=>simp only[pt,yI,BI]
omit aV in
theorem r9{D:Nat}{v:ae}{X:Value}(h:ds κ D v X)(c3:gA .slice v=true):∃A l c,X=.slice A l c∧∀b,isNil v=some b→A.isNone=b:=by
 cases v<;> simp [gA] at c3
 case cm sz es g=>
  rcases h.hf with⟨rfl,rfl,rfl⟩|⟨a,cap,di,rfl,cE,_⟩
  ·exact⟨_,_,_,rfl,fun b e=>by simpa [isNil] using e⟩
  ·refine⟨_,_,_,rfl,fun b e=>?_⟩;cases g<;> simp [isNil,iF] at e cE<;> simp [←e]
 case cD a off len cap sz=>cases h;exact⟨_,_,_,rfl,fun b e=>by simpa [isNil] using e⟩
omit aV in
theorem wj{D:Nat}{v:ae}{X:Value}(h:ds κ D v X)(c3:gA .ptr v=true):∃A,X=.pointer A∧∀b,isNil v=some b→A.isNone=b:=by cases h<;> simp [gA] at c3<;> exact⟨_,rfl,fun b e=>by simpa [isNil] using e⟩
omit aV in
theorem tR{D:Nat}{v:ae}{X:Value}(h:ds κ D v X)(c3:gA .func v=true):(X=.nilFunc∧∀b,isNil v=some b→b=true)∨((∃f x y,X=.func f x y)∧∀b,isNil v=some b→b=false):=by
 cases h<;> simp [gA] at c3
 ·exact .inr ⟨⟨_,_,_,rfl⟩,fun b e=>by simpa [isNil] using e.symm⟩
 ·exact .inl ⟨rfl,fun b e=>by simpa [isNil] using e.symm⟩
omit aV in
theorem wk{D:Nat}{v:ae}{X:Value}(h:ds κ D v X)(c3:gA .map v=true):∃A,X=.map A∧∀b,isNil v=some b→A.isNone=b:=by cases h<;> simp [gA] at c3<;> exact⟨_,rfl,fun b e=>by simpa [isNil] using e⟩
omit aV in
theorem sa{D:Nat}{v:ae}{X:Value}(h:ds κ D v X)(c3:gA .iface v=true):(X=.nilIface∧∀b,isNil v=some b→b=true)∨((∃t x,X=.iface t x)∧∀b,isNil v=some b→b=false):=by
 cases h<;> simp [gA] at c3
 ·exact .inr ⟨⟨_,_,rfl⟩,fun b e=>by simpa [isNil] using e.symm⟩
 ·exact .inl ⟨rfl,fun b e=>by simpa [isNil] using e.symm⟩
omit aV in
theorem Hh{D:Nat}{e:LH}{v u:ae}{X Y:Value}{d:TypeDesc}{b:Bool}(cF:o5 e d=true)(aZ:ds κ D v X)(fb:ds κ D u Y)(h:pt e v u=some b):gD d X Y b:=by
 have main:e≠.bool→(∀h5,e≠.agg h5)→∃p q,gA e v=true∧gA e u=true∧isNil v=some p∧isNil u=some q∧(p=true∧b=q∧¬(q=true∧e=.iface)∨p=false∧q=true∧b=false):=by
  intro ar ay;have H:(bif gA e v&&gA e u then
    match isNil v,isNil u with
    |some true,some b=>bif b&&decide (e=.iface) then none else some b
    |some false,some true=>some false
    |_,_=>none
   else none)=some b:=by
   cases e<;> first|exact absurd rfl ar|exact absurd rfl (ay _)|exact h
  cases c3:(gA e v&&gA e u) with
  |false=>rw[c3] at H;simp at H
  |true=>
   rw[c3,ci] at H;rw[bm] at c3;cases bD:isNil v with
   |none=>rw[bD] at H;simp at H
   |some p=>
    cases hu:isNil u with
    |none=>rw[bD,hu] at H;cases p<;> simp at H
    |some q=>
     rw[bD,hu] at H;refine⟨p,q,c3.1,c3.2,rfl,rfl,?_⟩;cases p
     ·cases q
      ·simp at H
      ·right;simp at H;exact⟨rfl,rfl,H⟩
     ·left
      simp only at H;cases f8:(q&&decide (e=.iface)) with
      |true=>rw[f8] at H;simp at H
      |false=>rw[f8] at H;simp at H f8;exact⟨rfl,H.symm,by simpa using f8⟩
 cases e
 case bool=>
  have N:d=.bool:=by cases d<;> simp [o5] at cF ⊢
  subst N;cases v<;> cases u<;> simp [pt] at h;subst h;rw[aZ.gB,fb.gB];exact .bool _ _
 case agg h5=>cases d<;> simp [o5] at cF
 case slice=>
  obtain⟨el,rfl⟩:∃el,d=.slice el:=by cases d<;> simp [o5] at cF ⊢
  obtain⟨p,q,k1,rr,ku,J,I⟩:=main (by simp) (by simp);obtain⟨A,l,c,rfl,r⟩:=r9 aZ k1;obtain⟨B,l',nk,rfl,F⟩:=r9 fb rr;have r:=r p ku;have F:=F q J;rcases I with⟨rfl,rfl,_⟩|⟨rfl,rfl,rfl⟩
  ·cases A<;> simp at r;rw[←F];exact .LL ..
  ·cases A<;> simp at r;cases B<;> simp at F;exact .LM ..
 case ptr=>
  obtain⟨el,rfl⟩:∃el,d=.pointer el:=by cases d<;> simp [o5] at cF ⊢
  obtain⟨p,q,k1,rr,ku,J,I⟩:=main (by simp) (by simp);obtain⟨A,rfl,r⟩:=wj aZ k1;obtain⟨B,rfl,F⟩:=wj fb rr;have r:=r p ku;have F:=F q J;rcases I with⟨rfl,rfl,_⟩|⟨rfl,rfl,rfl⟩
  ·cases A<;> simp at r;rw[←F];exact .W1 ..
  ·cases A<;> simp at r;cases B<;> simp at F;exact .W2 ..
 case map=>
  obtain⟨k,el,rfl⟩:∃k el,d=.map k el:=by cases d<;> simp [o5] at cF ⊢
  obtain⟨p,q,k1,rr,ku,J,I⟩:=main (by simp) (by simp);obtain⟨A,rfl,r⟩:=wk aZ k1;obtain⟨B,rfl,F⟩:=wk fb rr;have r:=r p ku;have F:=F q J;rcases I with⟨rfl,rfl,_⟩|⟨rfl,rfl,rfl⟩
  ·cases A<;> simp at r;rw[←F];exact .W3 ..
  ·cases A<;> simp at r;cases B<;> simp at F;exact .W4 ..
 case func=>
  obtain⟨eo,M,n6,rfl⟩:∃eo M n6,d=.func eo M n6:=by cases d<;> simp [o5] at cF ⊢
  obtain⟨p,q,k1,rr,ku,J,I⟩:=main (by simp) (by simp);rcases tR aZ k1 with⟨rfl,r⟩|⟨⟨f,x,y,rfl⟩,r⟩<;> rcases tR fb rr with⟨rfl,F⟩|⟨⟨vo,kH,s5,rfl⟩,F⟩<;> have r:=r p ku<;> have F:=F q J<;> subst r F<;> simp at I<;> try subst I
  ·exact .func0 ..
  ·exact .func1 ..
  ·exact .func2 ..
 case iface=>
  obtain⟨yJ,rfl⟩:∃yJ,d=.interface yJ:=by cases d<;> simp [o5] at cF ⊢
  obtain⟨p,q,k1,rr,ku,J,I⟩:=main (by simp) (by simp);rcases sa aZ k1 with⟨rfl,r⟩|⟨⟨f,x,rfl⟩,r⟩<;> rcases sa fb rr with⟨rfl,F⟩|⟨⟨vo,kH,rfl⟩,F⟩<;> have r:=r p ku<;> have F:=F q J<;> subst r F<;> simp at I<;> try subst I
  ·exact .LN ..
  ·exact .DG ..
theorem yK{neg:Bool}{v:ae}{t yt:TypeId}{x:Operand}{yJ:Array (String×TypeId)}{op:BinOp}{z:ae}(r:op=if neg then .neq else .eql)(d6:P.underlying t=some (.interface yJ))(aZ:ds κ (s.aa+1) (v.aq s.aa) (ρ x))(aW:ρ (.const .nilIface)=.nilIface)(h:w4 neg v=some z):dB P (.binOp op t x (.const .nilIface) yt) ty ρ κ s w z s:=by
 cases v<;> simp [w4] at h
 case iface LC fp=>
  subst h;obtain⟨y,A,fb⟩:=ds.BF (t:=LC) (v:=fp) aZ;have bg:gD (.interface yJ) (ρ x) (ρ (.const .nilIface)) false:=by rw[A,aW];exact .DG yJ LC y
  have:=bs (P:=P) (ty:=ty) (o:=.binOp op t x (.const .nilIface) yt) (ρ:=ρ) aV (v:=.bool neg) _ (fun dst pos after guard=>by have:=bg.gives (ty:=ty) (w:=w) (yt:=yt) d6 neg dst pos after guard;rw[r];exact this) (by cases neg<;> exact .bool _)
  exact this
 case hx=>
  subst h;have ex:ρ x=.nilIface:=by simp only[ae.aq] at aZ;generalize ρ x=q at aZ;cases aZ;rfl
  refine bs aV (.bool (!neg)) (fun dst pos after guard=>?_) (.bool _);subst r;have dI:(Op.equal t .nilIface .nilIface).run P w=.ok true w:=by rw[r8];generalize (9999:Nat)=n;simp only[Op.equalIn,Sem.run_bind,run_underlying d6,Result.andThen_ok,Sem.run_pure]
  cases neg
  ·have e:(eqGuard .eql t x (.const .nilIface) .nilIface .nilIface).run P w=.ok () w:=by
    unfold eqGuard;cases x<;> rfl
   have p:binOp .eql t .nilIface .nilIface=(do pure (.bool (←Op.equal t .nilIface .nilIface)):Sem Value):=rfl;simp only[execOp,bL,↓reduceIte,ex,aW,Sem.run_bind,e,Result.andThen_ok,p,dI,Sem.run_pure,gJ]
  ·have e:(eqGuard .neq t x (.const .nilIface) .nilIface .nilIface).run P w=.ok () w:=by
    unfold eqGuard;cases x<;> rfl
   have p:binOp .neq t .nilIface .nilIface=(do pure (.bool (!(←Op.equal t .nilIface .nilIface))):Sem Value):=rfl;simp only[execOp,↓reduceIte,ex,aW,Sem.run_bind,e,Result.andThen_ok,p,dI,Sem.run_pure,gV]
theorem F8{e:LH}{b neg:Bool}{v u:ae}{t yt:TypeId}{x y:Operand}{d:TypeDesc}{op:BinOp}(p:op=if neg then .neq else .eql)(d6:P.underlying t=some d)(cF:o5 e d=true)
  (aZ:ds κ (s.aa+1) (v.aq s.aa) (ρ x))(fb:ds κ (s.aa+1) (u.aq s.aa) (ρ y))(h:pt e v u=some b):dB P (.binOp op t x y yt) ty ρ κ s w (.bool (bif neg then !b else b)) s:=by
 subst p;exact bs aV _ ((Hh cF aZ fb (by rw[tQ];exact h)).gives d6 neg) (.bool _)
end
end Go.Ab
end
