/- A part of the proof: no condition. -/
import Derived.Calls
import Derived.Below
import Derived.Laws.World
import Derived.Laws.Cells
import Derived.Laws.Entries
import Derived.Laws.IdiomCopy
import Derived.Laws.Strings
import Derived.Laws.Slices
import Derived.Laws.MakeOwn
import Derived.Laws.BytesArg
set_option linter.unusedSectionVars false
section
namespace Go
theorem aM{p:Prop}[Decidable p](h:¬p):decide p=false:=decide_eq_false h
theorem a7{p:Prop}[Decidable p](h:p):decide p=true:=decide_eq_true h
theorem bZ{α:Type _}{i:Nat}{a:α}{l:List α}:l[i]? =some a↔∃h:i<l.length,l[i]=a:=List.getElem?_eq_some_iff
theorem b2{α:Type _}{β:Type _}{e:List α}(f:α→β):(e.map f).length=e.length:=List.length_map f
theorem ev{α:Type _}{l m:List α}{i:Nat}(h:i<l.length):(l++m)[i]? =l[i]?:=List.getElem?_append_left h
theorem c2{n m:Nat}(h:n.beq m=true):n=m:=Nat.eq_of_beq_eq_true h
theorem bL(a b:Bool):((a&&b)=true)=(a=true∧b=true):=Bool.and_eq_true a b
theorem bV{α:Type _}(a b:α):(some a=some b)=(a=b):=Option.some.injEq a b
theorem ew{α:Type _}{l:List α}{i j:Nat}(h:i≠j){a:α}:(l.set i a)[j]? =l[j]?:=List.getElem?_set_ne h
theorem dt{α:Type _}{a:α}{l:List α}{i:Nat}:(a::l).drop (i+1)=l.drop i:=List.drop_succ_cons
theorem dM{α:Type _}{l:List α}{i:Nat}(h:i<l.length):l[i]? =some l[i]:=List.getElem?_eq_getElem h
theorem dN{n m:Nat}(h:n≤m):n.ble m=true:=Nat.ble_eq_true_of_le h
theorem dW{n m:Nat}(h:n.ble m=true):n≤m:=Nat.le_of_ble_eq_true h
theorem co:(false=true)=False:=Bool.false_eq_true
theorem c0{α:Type _}{a:α}{e:List α}:(a::e).length=e.length+1:=List.length_cons
theorem dm{α:Type _}{e eB:List α}:(e++eB).length=e.length+eB.length:=List.length_append
theorem ij{p:Prop}[Decidable p]:(decide p=true)=p:=decide_eq_true_eq
theorem jY{α:Type _}(e eB cs:List α):e++eB++cs=e++(eB++cs):=List.append_assoc e eB cs
theorem bT{α:Type _}{l:List α}:l.drop 0=l:=List.drop_zero
theorem hk{α:Type _}{β:Type _}(a:α)(f:α→Option β):(some a).bind f=f a:=Option.bind_some a f
theorem eU{α:Type _}{β:Type _}(a:α)(f:α→β):(some a).map f=some (f a):=Option.map_some a f
theorem ek{α:Type _}:([]:List α).length=0:=List.length_nil
theorem mc{α:Type _}{a:α}:¬a∈([]:List α):=List.not_mem_nil
theorem h4{α:Type _}{l:List α}{n:Nat}(h:n<l.length):l[n]∈l:=List.getElem_mem h
theorem aX(n:Nat):n≤n:=Nat.le_refl n
theorem cf(n:Nat):0+n=n:=Nat.zero_add n
theorem cG(b:Bool):(true&&b)=b:=Bool.true_and b
theorem c1(b:Bool):(false&&b)=false:=Bool.false_and b
theorem cb{α:Sort _}(a b:α):(bif true then a else b)=a:=rfl
theorem dk(h:Decidable True): @decide True h=true:=decide_true h
theorem c9(h:Decidable False): @decide False h=false:=decide_false h
theorem gl{α:Type _}{l:List α}{i:Nat}(h:i<l.length):l.drop i=l[i]::l.drop (i+1):=List.drop_eq_getElem_cons h
theorem gG{α:Type _}{l:List α}{i:Nat}(h:l.length≤i):l.take i=l:=List.take_of_length_le h
theorem hl{α:Type _}{l:List α}{i:Nat}(h:l.length≤i):l.drop i=[]:=List.drop_of_length_le h
theorem fw{α:Type _}{β:Type _}(f:α→β)(l:List α)(i:Nat):(l.map f)[i]? =l[i]?.map f:=by simp
theorem eC:(!false)=true:=rfl
theorem eV:(!true)=false:=rfl
theorem eD(b:Bool):(b&&b)=b:=Bool.and_self b
theorem gf{α:Type _}(l:List α):l++[]=l:=List.append_nil l
theorem dE(n m:Nat):n*m=m*n:=Nat.mul_comm n m
theorem fm{a b:Nat}(h:a<b):a%b=a:=Nat.mod_eq_of_lt h
theorem eg(a b c:Nat):a*(b+c)=a*b+a*c:=Nat.mul_add a b c
theorem e6(a b c:Nat):a*b*c=a*(b*c):=Nat.mul_assoc a b c
theorem e7{a b:Nat}(c:Nat)(h:a≤b):a*c≤b*c:=Nat.mul_le_mul_right c h
theorem gm{a b c:Nat}(h:a<b)(k:b≤c):a<c:=Nat.lt_of_lt_of_le h k
theorem i9{α:Type _}{l m:List α}{i:Nat}(h:l.length≤i):(l++m)[i]? =m[i-l.length]?:=List.getElem?_append_right h
theorem e8{α:Type _}{β:Type _}(a:α)(b:β)(c:α)(d:β):((a,b)=(c,d))=(a=c∧b=d):=Prod.mk.injEq a b c d
theorem hI{α:Type _}{a:α}{l:List α}{i:Nat}:(a::l).take (i+1)=a::l.take i:=List.take_succ_cons
theorem kU{α:Type _}{l:List α}(h:l.length=0):l=[]:=List.eq_nil_of_length_eq_zero h
theorem e0(a b c:Nat):(a+b)*c=a*c+b*c:=Nat.add_mul a b c
theorem fU{α:Type _}{β:Type _}{f:α→β}{a:α}{l:List α}:(a::l).map f=f a::l.map f:=List.map_cons
theorem fE(a:Nat):a.beq a=true:=Nat.beq_refl a
theorem hn{α:Type _}{l:List α}:l.take 0=[]:=List.take_zero
end Go
namespace Go.Ab
inductive Loc where
 |l (i:Nat)
 |g (d i:Nat)
 deriving DecidableEq,Inhabited
inductive cd where
 |nil|exact |any
 |bQ (a:Loc)
 deriving Inhabited
inductive ai where
 |dead
 |bool (b:Bool)
 |int (k:IntKind) (n:Int)
 |str (s:List Nat)
 |aW (sz:Nat) (es:List ai) (g:cd)
 |cw (a:Loc) (off len cap sz:Nat)
 |ref (a:Loc) (off:Nat)
 |bM (cs:List ai)
 |gU
 |fn (f:Nat) (ep:List ai)
 |fx
 |map (a:Loc)
 |c4
 |iface (t:Nat) (v:ai)
 |e2
 |agg (cs:List ai)
 |cT (vs:List ai)
 deriving Inhabited
inductive bd where
 |cells (cs:List ai)
 |tok (n:Nat)
 |map (es:List (ai×ai))
 |gone
 deriving Inhabited
structure aq where
 own:List bd
 up:List (List bd)
 ro:List (List bd)
 deriving Inhabited
def aq.aa(s:aq):Nat:=s.up.length+s.ro.length
inductive ao where
 |fail
 |ok (v:ai) (s:aq)
 |panic (v:ai) (s:aq)
 deriving Inhabited
inductive ey where
 |e
 |n (l:ey) (v:ai) (r:ey)
 deriving Inhabited
def ey.get:ey→Nat→ai
 |.e,_=>.dead
 |.n l v r,i=>bif Nat.beq i 0 then v else bif Nat.beq (i%2) 1 then l.get ((i-1)/2) else r.get ((i-1)/2)
def ey.jj:Nat→Nat→ai→(ey→ao)→ey→ao
 |0,_,_,_,_=>.fail
 |d+1,i,v,k,.e=>
  bif Nat.beq i 0 then k (.n .e v .e)
  else bif Nat.beq (i%2) 1 then ey.jj d ((i-1)/2) v (fun l=>k (.n l .dead .e)) .e
  else ey.jj d ((i-1)/2) v (fun r=>k (.n .e .dead r)) .e
 |d+1,i,v,k,.n l x r=>
  bif Nat.beq i 0 then k (.n l v r)
  else bif Nat.beq (i%2) 1 then ey.jj d ((i-1)/2) v (fun l=>k (.n l x r)) l
  else ey.jj d ((i-1)/2) v (fun r=>k (.n l x r)) r
inductive dp where
 |e
 |n (l:dp) (b:Bool) (r:dp)
 deriving Inhabited
def ey.jZ:dp→(ey→ao)→ey→ao
 |.e,k,_=>k .e
 |.n h _ u,k,.e=>ey.jZ h (fun l=>ey.jZ u (fun r=>k (.n l .dead r)) .e) .e
 |.n h b u,k,.n l v r=>ey.jZ h (fun l=>ey.jZ u (fun r=>k (.n l (bif b then v else .dead) r)) r) l
inductive bR where
 |t (n:Nat)
 |c (v:ai)
 |g (n:Nat)
 |at(t b off:Nat)
 |C1 (b off:Nat)
 deriving Inhabited
inductive Bk where
 |int (k:IntKind)|str|bool
 deriving DecidableEq,Inhabited
inductive ai3 where
 |bool|slice|ptr|func|map|iface
 |agg (ia:List Bk)
 deriving DecidableEq,Inhabited
inductive gx where
 |move (x:bR)
 |pF (x:bR)
 |pick (c a b:bR)
 |alloc (zero:List ai)
 |dz (x:bR)
 |hA (x:bR)
 |build (zero:List ai) (parts:List (Nat×Nat×bR))
 |buildSlice (sz:Nat) (parts:List bR)
 |load (n:Option Nat) (a:bR)
 |store (n:Nat) (a v:bR)
 |nilCheck (x:bR)
 |bin (op:BinOp) (x y:bR)
 |eq (neg:Bool) (e:ai3) (x y:bR)
 |un (op:UnOp) (x:bR)
 |lX (k:IntKind) (x:bR)
 |oT (x:bR)
 |fM (x:bR)
 |hQ (x:bR)
 |dA (t:Nat) (x:bR)
 |hB (f:Nat) (ep:List bR)
 |makeSlice (zero:List ai) (bytes:Nat) (l c:bR)
 |fV (x:bR) (eQ bk:Option bR)
 |slice (sz:Nat) (x:bR) (eQ bk iU:Option bR)
 |fieldAddr (off:Nat) (a:bR)
 |field (off:Nat) (n:Option Nat) (x:bR)
 |fy (sz:Nat) (x i:bR)
 |fW (sz len:Nat) (x i:bR)
 |cZ (x i:bR)
 |oU (sz len:Nat) (n:Option Nat) (x i:bR)
 |extract (x:bR) (i:Nat)
 |call (f:Nat) (args:List bR)
 |cV (f:bR) (args:List bR)
 |gR (f:Nat) (args:List bR)
 |mo (f:bR) (args:List bR)
 |len (str:Bool) (x:bR)
 |append (sz bytes:Nat) (at_:Option bR) (s x:bR)
 |copy (sz:Nat) (d s:bR)
 |min (xs:List bR)
 |max (xs:List bR)
 |makeMap (at_:Option bR)
 |kn (lk:Bk) (m k v:bR)
 |lookup (lk:Bk) (zero:ai) (ok:Bool) (m k:bR)
 |rU (neg:Bool) (x:bR)
 |jk (ia:List (Option Nat×bR)) (f:Nat) (args:List bR)
 |jI (ia:List (Option Nat×bR)) (f:bR) (args:List bR)
 |jd (sz len:Nat) (x:bR) (eQ bk iU:Option bR)
 |j8 (sz bytes:Nat) (at_:Option bR) (s x:bR)
 |kV (sz bytes:Nat) (at_:Option bR) (s x:bR)
 |g3 (sz:Nat) (parts:List bR)
 |iL (sz bytes:Nat) (s x:bR)
 |no
 deriving Inhabited
structure cN where
 dst:Option Nat
 guard:Option (Nat×Bool)
 op:gx
 deriving Inhabited
inductive ad where
 |skip
 |region (nW:Option (List (bR×Nat×bR×Nat))) (ops:List cN)
 |seq (a b:ad)
 |mask (m:dp) (a:ad)
 |cond (c:bR) (aw9 axa:ad)
 |block (id:Nat) (body:ad)
 |loop (bf:dp) (body:ad)
 |exit (id:Nat)
 |scope (body:ad)
 |ret
 deriving Inhabited
inductive vA where
 |t (n:Nat)
 |cell (a:Nat) (n:Option Nat)
 deriving Inhabited
structure bY where
 avv:Nat
 iA:Nat
 results:List vA
 bf:Bool
 body:ad
 deriving Inhabited
mutual
def ai.bp:ai→Bool
 |.cw .. |.ref .. |.map _=>false
 |.aW _ _ (.bQ _)=>false
 |.bM cs|.fn _ cs|.agg cs|.cT cs=>ai.bj cs
 |.iface _ v=>v.bp
 |_=>true
def ai.bj:List ai→Bool
 |[]=>true
 |v::vs=>v.bp&&ai.bj vs
end
def Loc.low(d:Nat):Loc→Bool
 |.l _=>false
 |.g e _=>Nat.ble e d
mutual
def ai.low(d:Nat):ai→Bool
 |.cw a _ _ _ _=>a.low d
 |.ref a _=>a.low d
 |.map a=>a.low d
 |.aW _ _ (.bQ a)=>a.low d
 |.bM cs|.fn _ cs|.agg cs|.cT cs=>ai.ll d cs
 |.iface _ v=>v.low d
 |_=>true
def ai.ll(d:Nat):List ai→Bool
 |[]=>true
 |v::vs=>v.low d&&ai.ll d vs
end
def Loc.ak(d:Nat):Loc→Loc
 |.l i=>.g d i
 |a=>a
def cd.ak(d:Nat):cd→cd
 |.bQ a=>.bQ (a.ak d)
 |g=>g
def ai.ak(d:Nat):ai→ai
 |.aW sz es g=>.aW sz es (g.ak d)
 |.cw a off len cap sz=>.cw (a.ak d) off len cap sz
 |.ref a off=>.ref (a.ak d) off
 |.map a=>.map (a.ak d)
 |v=>v
def ai.cells:ai→List ai
 |.agg cs=>cs
 |v=>[v]
def RK:ai→ai
 |.agg xs=>.agg [.agg xs]
 |c=>c
def x5(sz:Nat)(cs:List ai):ai:=
 match sz with
 |1=>RK (cs.getD 0 .dead)
 |_=>.agg (cs.take sz)
def chunk(sz:Nat):Nat→List ai→List ai
 |0,_=>[]
 |n+1,cs=>x5 sz cs::chunk sz n (cs.drop sz)
def aq.get(s:aq):Loc→Option bd
 |.l i=>s.own[i]?
 |.g d i=>if d=s.aa then s.own[i]? else if d<s.aa then((s.up++s.ro)[s.aa-1-d]?).bind (·[i]?) else none
def aq.set(s:aq)(a:Loc)(o:bd):Option aq:=
 match a with
 |.l i=>some {s with own:=s.own.set i o}
 |.g d i=>
  if d=s.aa then some {s with own:=s.own.set i o}
  else if d<s.aa∧s.ro.length≤d then some {s with up:=s.up.modify (s.aa-1-d) (·.set i o)}
  else none
def aq.uP(s:aq):Loc→Bool
 |.l _=>true
 |.g d _=>d=s.aa
def aq.ho(s:aq)(a:Loc)(vs:List ai):Bool:=
 s.uP a||ai.bj vs||(match a with
  |.g d _=>ai.ll d vs
  |.l _=>false)
def aq.new(s:aq)(o:bd):aq:={s with own:=s.own++[o]}
def aq.gg(s:aq)(a:Loc)(o:bd):Option (Loc×aq):=
 match a with
 |.l _=>some (.l s.own.length,s.new o)
 |.g d _=>
  if d=s.aa then some (.l s.own.length,s.new o)
  else if d<s.aa∧s.ro.length≤d then
   match s.up[s.aa-1-d]? with
   |some l=>some (.g d l.length,{s with up:=s.up.modify (s.aa-1-d) (· ++ [o])})
   |none=>none
  else none
def mY:Loc→Loc→Bool
 |.l i,.l j=>Nat.beq i j
 |.g d i,.g e j=>Nat.beq d e&&Nat.beq i j
 |_,_=>false
def mj:ai→Nat→ai
 |.ref a o,off=>.ref a (o+off)
 |_,_=>.dead
def rV:ai→ai→Nat→ai
 |.ref a o,.ref iE o',off=>bif mY a iE&&Nat.beq o (o'+off) then .ref a o else .dead
 |_,_,_=>.dead
theorem FJ{a b:Loc}(h:mY a b=true):a=b:=by
 cases a<;> cases b<;> simp [mY] at h
 ·rw[h]
 ·rw[h.1,h.2]
theorem RL(x y:ai)(off:Nat):rV x y off=.dead∨(rV x y off=x∧rV x y off=mj y off):=by
 cases x<;> cases y<;> try exact .inl rfl
 ·rename_i a o iE o';have e:rV (.ref a o) (.ref iE o') off=bif mY a iE&&Nat.beq o (o'+off) then .ref a o else .dead:=rfl
  rw[e];cases h:mY a iE&&Nat.beq o (o'+off) with
  |false=>exact .inl rfl
  |true=>simp only[bL] at h;have aD:=FJ h.1;have aG:=c2 h.2;subst aD aG;exact .inr ⟨rfl,rfl⟩
def aL(G:Nat→ai)(aC:Nat→ai):bR→ai
 |.t n=>aC n
 |.c v=>v
 |.g n=>G n
 |.at t b off=>rV (aC t) (aC b) off
 |.C1 b off=>mj (aC b) off
def kW(aC:ey)(d:Option Nat)(v:ai)(k:ey→ao):ao:=
 match d with
 |some n=>aC.jj 12 n v k
 |none=>k aC
structure bb where
 gH:ai→(ai→ao)→ao
 v1:ai→(ai→ao)→ao
 l:List ai→(List ai→ao)→ao
 s:aq→(aq→ao)→ao
def bb.not:bb:={gH:=fun v k=>k v,v1:=fun v k=>k v,l:=fun v k=>k v,s:=fun v k=>k v}
def eE:ai→Option Nat
 |.int _ n=>if 0≤n then some n.toNat else none
 |_=>none
def dB(s:aq):ai→Option (Nat×List ai)
 |.aW sz es (.bQ _)=>if ai.bj es then some (sz,es) else none
 |.aW sz es _=>some (sz,es)
 |.str eB=>some (1,eB.map fun b=>.int .u8 (b:Nat))
 |.cw a off len _ sz=>
  match s.get a with
  |some (.cells cs)=>let es:=chunk sz len (cs.drop off);if ai.bj es&&Nat.ble (off+len*sz) cs.length&& !Nat.beq sz 0 then some (sz,es) else none
  |_=>none
 |_=>none
def iM:List ai→List ai→Option Bool
 |[],[]=>some true
 |.int k a::xs,.int jh b::e=>if k=jh then(iM xs e).map ((a==b)&& ·) else none
 |.bool a::xs,.bool b::e=>(iM xs e).map ((a==b)&& ·)
 |.str a::xs,.str b::e=>(iM xs e).map ((a==b)&& ·)
 |_,_=>none
def j9:List Nat→List Nat→Bool
 |_,[]=>false
 |[],_::_=>true
 |a::x,b::y=>Nat.blt a b||(Nat.beq a b&&j9 x y)
def gy(op:BinOp)(k:IntKind)(a b:Int):Option ai:=
 match op with
 |.add=>some (.int k (k.wrap (a+b)))
 |.sub=>some (.int k (k.wrap (a-b)))
 |.mul=>some (.int k (k.wrap (a*b)))
 |.quo=>if b=0 then none else some (.int k (k.wrap (a.tdiv b)))
 |.rem=>if b=0 then none else some (.int k (a.tmod b))
 |.and=>some (.int k (k.wrap (BitVec.ofInt k.bits a &&& BitVec.ofInt k.bits b).toNat))
 |.or=>some (.int k (k.wrap (BitVec.ofInt k.bits a ||| BitVec.ofInt k.bits b).toNat))
 |.xor=>some (.int k (k.wrap (BitVec.ofInt k.bits a ^^^ BitVec.ofInt k.bits b).toNat))
 |.andNot=>some (.int k (k.wrap (BitVec.ofInt k.bits a &&& ~~~BitVec.ofInt k.bits b).toNat))
 |.eql=>some (.bool (a==b))
 |.neq=>some (.bool (a != b))
 |.lss=>some (.bool (a<b))
 |.leq=>some (.bool (a≤b))
 |.gtr=>some (.bool (a>b))
 |.geq=>some (.bool (a≥b))
 |_=>none
def nF(op:BinOp)(k:IntKind)(a b:Int):Option ai:=
 if b<0 then none else
 match op with
 |.shl=>some (.int k (k.wrap (a*2^(min b.toNat k.bits))))
 |.shr=>some (.int k (a.fdiv (2^(min b.toNat k.bits))))
 |_=>none
def rW(op:BinOp)(x y:List Nat):Option ai:=
 match op with
 |.add=>if Nat.ble (x.length+y.length) 1099511627776 then some (.str (x++y)) else none
 |.eql=>some (.bool (x==y))
 |.neq=>some (.bool (!(x==y)))
 |.lss=>some (.bool (j9 x y))
 |.leq=>some (.bool (j9 x y||x==y))
 |.gtr=>some (.bool (!(j9 x y||x==y)))
 |.geq=>some (.bool (!j9 x y))
 |_=>none
def isNil:ai→Option Bool
 |.gU|.fx|.c4|.e2=>some true
 |.aW _ _ .nil=>some true
 |.aW _ _ .exact |.aW _ _ .any|.aW _ _ (.bQ _)|.cw .. |.ref .. |.bM _|.fn .. |.map _|.iface ..=>some false
 |_=>none
def gN:ai3→ai→Bool
 |.slice,.aW .. |.slice,.cw ..=>true
 |.ptr,.gU|.ptr,.ref .. |.ptr,.bM _=>true
 |.func,.fx|.func,.fn ..=>true
 |.map,.c4|.map,.map _=>true
 |.iface,.e2|.iface,.iface ..=>true
 |_,_=>false
def gz:List Bk→List ai→Bool
 |[],[]=>true
 |.int k::ia,.int jh _::xs=>decide (jh=k)&&gz ia xs
 |.str::ia,.str _::xs=>gz ia xs
 |.bool::ia,.bool _::xs=>gz ia xs
 |_,_=>false
def pA(e:ai3)(x y:ai):Option Bool:=
 match e with
 |.bool=>
  match x,y with
  |.bool a,.bool b=>some (a==b)
  |_,_=>none
 |.agg ia=>
  match x,y with
  |.agg xs,.agg h=>bif gz ia xs&&gz ia h then iM xs h else none
  |_,_=>none
 |e=>
  bif gN e x&&gN e y then
   match isNil x,isNil y with
   |some true,some b=>bif b&&decide (e=.iface) then none else some b
   |some false,some true=>some false
   |_,_=>none
  else none
def uQ(neg:Bool):ai→Option ai
 |.e2=>some (.bool (!neg))
 |.iface ..=>some (.bool neg)
 |_=>none
def al(op:BinOp)(x y:ai):Option ai:=
 match op,x,y with
 |.shl,.int k a,.int _ b=>nF .shl k a b
 |.shr,.int k a,.int _ b=>nF .shr k a b
 |op,.int k a,.int jh b=>if k=jh then gy op k a b else none
 |op,.str a,.str b=>rW op a b
 |_,_,_=>none
def iN(op:UnOp)(x:ai):Option ai:=
 match op,x with
 |.neg,.int k n=>some (.int k (k.wrap (0-n)))
 |.xor,.int k n=>some (.int k (k.wrap (BitVec.ofInt k.bits (if k.signed then -1 else k.max) ^^^ BitVec.ofInt k.bits n).toNat))
 |.not,.bool b=>some (.bool (!b))
 |_,_=>none
def min2(x y:ai):Option ai:=
 match x,y with
 |.int k a,.int _ b=>some (.int k (if b<a then b else a))
 |_,_=>none
def max2(x y:ai):Option ai:=
 match x,y with
 |.int k a,.int _ b=>some (.int k (if b>a then b else a))
 |_,_=>none
def x6(f:ai→ai→Option ai):ai→List ai→Option ai
 |x,[]=>some x
 |x,y::e=>(f x y).bind fun z=>x6 f z e
def cS(G:Nat→ai)(aC:Nat→ai)(o:Option bR)(e:Nat):Option Nat:=
 match o with
 |none=>some e
 |some x=>eE (aL G aC x)
def kB(es:List ai):Option (List Nat):=
 match es with
 |[]=>some []
 |.int .u8 n::es=>if n.toNat<256 then(kB es).map (n.toNat:: ·) else none
 |_=>none
def dq{α:Type}(cs:List α)(off:Nat)(vs:List α):List α:=
 match vs with
 |[]=>cs
 |v::vs=>dq (cs.set off v) (off+1) vs
def ai.fo:ai→Bool
 |.dead|.cT _=>false
 |_=>true
def ai.dZ:ai→Bool
 |.dead|.cT _|.agg _=>false
 |_=>true
def e9(G:Nat→ai)(d:Nat)(aC:Nat→ai):List ai→List (Nat×Nat×bR)→Option (List ai)
 |cs,[]=>some cs
 |cs,(off,sz,x)::fk=>
  let v:=(aL G aC x).ak d
  bif v.fo&&Nat.beq v.cells.length sz&&Nat.ble (off+sz) cs.length then e9 G d aC (dq cs off v.cells) fk else none
def rX(G:Nat→ai)(aC:Nat→ai):bR×Nat×bR×Nat→Bool
 |(x,n,y,m)=>
  match aL G aC x,aL G aC y with
  |.ref (.l i) o,.ref (.l j) q=> !Nat.beq i j||Nat.ble (o+n) q||Nat.ble (q+m) o
  |.bM _,.ref ..=>true
  |_,_=>false
inductive avw where
 |norm|exit (id:Nat)|ret|panic (v:ai)
 deriving Inhabited
abbrev cP:=avw→ey→aq→ao
abbrev nC:=ey→aq→cP→ao
def cW(g:nC)(k:cP):cP:=fun x aC s=>
 match x with
 |.norm=>g aC s k
 |x=>k x aC s
def cx(m:dp)(g:nC)(k:cP):cP:=fun x aC s=>
 match x with
 |.norm=>ey.jZ m (fun aC=>g aC s k) aC
 |x=>k x aC s
def bw(id:Nat)(k:cP):cP:=fun x aC s=>
 match x with
 |.exit j=>bif Nat.beq j id then k .norm aC s else k (.exit j) aC s
 |x=>k x aC s
def da(step:nC)(bf:dp):Nat→nC
 |0,_,_,_=>.fail
 |n+1,aC,s,k=>step aC s (cx bf (da step bf n) k)
structure Env where
 F:bb
 aS:Nat→ai
 call:Nat→List ai→aq→ao
 loop:nC→dp→nC
def Loc.same:Loc→Loc→Bool
 |.l i,.l j=>Nat.beq i j
 |.g d i,.g e j=>Nat.beq d e&&Nat.beq i j
 |_,_=>false
def cd.same:cd→cd→Bool
 |.nil,.nil|.exact,.exact |.any,.any=>true
 |.bQ a,.bQ b=>a.same b
 |_,_=>false
mutual
def ai.same:ai→ai→Bool
 |.dead,.dead|.gU,.gU|.fx,.fx|.c4,.c4|.e2,.e2=>true
 |.bool a,.bool b=>a==b
 |.int k a,.int jh b=>decide (k=jh)&&a==b
 |.str a,.str b=>a==b
 |.aW z a g,.aW aqV b g'=>Nat.beq z aqV&&g.same g'&&ai.lp a b
 |.cw a x y z q,.cw iE nD xe aqV rq=>a.same iE&&Nat.beq x nD&&Nat.beq y xe&&Nat.beq z aqV&&Nat.beq q rq
 |.ref a x,.ref iE nD=>a.same iE&&Nat.beq x nD
 |.bM a,.bM b=>ai.lp a b
 |.fn f a,.fn MY b=>Nat.beq f MY&&ai.lp a b
 |.map a,.map b=>a.same b
 |.iface t v,.iface abh fX=>Nat.beq t abh&&v.same fX
 |.agg a,.agg b=>ai.lp a b
 |.cT a,.cT b=>ai.lp a b
 |_,_=>false
def ai.lp:List ai→List ai→Bool
 |[],[]=>true
 |a::as,b::eB=>a.same b&&ai.lp as eB
 |_,_=>false
end
def ik(G:Nat→ai)(aC:Nat→ai):Option bR→Option Loc
 |none=>some (.l 0)
 |some x=>
  match aL G aC x with
  |.ref a _=>some a
  |.map a=>some a
  |_=>none
def pG:ai→ai→Option Bool
 |.int k a,.int jh b=>if k=jh then some (a==b) else none
 |.str a,.str b=>some (a==b)
 |.bool a,.bool b=>some (a==b)
 |_,_=>none
def isKey:Bk→ai→Bool
 |.int k,.int jh _=>decide (jh=k)
 |.str,.str _=>true
 |.bool,.bool _=>true
 |_,_=>false
def findKey(k:ai):List (ai×ai)→Option (Option ai)
 |[]=>some none
 |(x,v)::es=>
  match pG k x with
  |some true=>some (some v)
  |some false=>findKey k es
  |none=>none
def putKey(k v:ai):List (ai×ai)→Option (List (ai×ai))
 |[]=>some [(k,v)]
 |(x,u)::es=>
  match pG k x with
  |some true=>some ((x,v)::es)
  |some false=>(putKey k v es).map ((x,u):: ·)
  |none=>none
section
variable(E:Env)(aC:Nat→ai)(s:aq)(k kp:ai→aq→ao)
def w1(v:Option ai):ao:=
 match v with
 |some v=>E.F.v1 v fun v=>k v s
 |none=>.fail
def fc(m:Option Nat)(cs:List ai):ao:=
 match m with
 |none=>match cs with
  |c::_=>E.F.gH c fun v=>k v s
  |[]=>.fail
 |some n=>bif Nat.ble n cs.length then E.F.v1 (.agg (cs.take n)) fun v=>k v s else .fail
def jJ(a:Loc)(off:Nat)(vs:List ai):ao:=
 match s.get a with
 |some (.cells cs)=>
  bif Nat.ble (off+vs.length) cs.length&&s.ho a vs&&vs.all ai.dZ then
   E.F.l (dq cs off vs) fun cs=>
   match s.set a (.cells cs) with
   |some s=>E.F.s s fun s=>k .dead s
   |none=>.fail
  else .fail
 |_=>.fail
def ka(x:ai)(eQ bk:Option bR):ao:=
 match x with
 |.str eB=>
  match cS E.aS aC eQ 0,cS E.aS aC bk eB.length with
  |some l,some h=>bif Nat.ble l h&&Nat.ble h eB.length then E.F.v1 (.str ((eB.drop l).take (h-l))) fun v=>k v s else .fail
  |_,_=>.fail
 |_=>.fail
def qC(g:cd)(l h:Nat)(es:List ai):Bool:=
 match g with
 |.bQ _=>(Nat.beq l 0&&Nat.beq h es.length)||ai.bj es
 |_=>true
def pH(g:cd)(es:List ai):Bool:=
 match g with
 |.bQ _=>ai.bj es
 |_=>true
def ko(z:Nat)(x:ai)(eQ bk iU:Option bR):ao:=
 match x with
 |.aW sz es g=>
  match cS E.aS aC eQ 0,cS E.aS aC bk es.length with
  |some l,some h=>
   match iU with
   |none=>
    bif Nat.beq z sz&&Nat.ble l h&&Nat.ble h es.length&&qC g l h es then
     E.F.v1 (.aW sz ((es.drop l).take (h-l)) (match g with
      |.nil=>.nil
      |.exact=>if h=es.length then .exact else .any
      |.bQ a=>if l=0∧h=es.length then .bQ a else .any
      |.any=>.any)) fun v=>k v s
    else .fail
   |some x=>
    match eE (aL E.aS aC x),g with
    |_,.nil=>.fail
    |some m,_=>bif Nat.beq z sz&&Nat.ble l h&&Nat.ble h m&&Nat.ble m es.length&&pH g es then E.F.v1 (.aW sz ((es.drop l).take (h-l)) (if h=m then .exact else .any)) fun v=>k v s else .fail
    |_,_=>.fail
  |_,_=>.fail
 |.cw a off len cap sz=>
  match cS E.aS aC eQ 0,cS E.aS aC bk len,cS E.aS aC iU cap with
  |some l,some h,some m=>bif Nat.beq z sz&&Nat.ble l h&&Nat.ble h m&&Nat.ble m cap&&Nat.ble len cap then E.F.v1 (.cw a (if m=l then off else off+l*sz) (h-l) (m-l) sz) fun v=>k v s else .fail
  |_,_,_=>.fail
 |_=>.fail
def fl(q bytes:Nat)(b:Loc)(x y:ai):ao:=
 match dB s y with
 |none=>.fail
 |some (z,new)=>
  match x with
  |.aW sz es g=>
   bif Nat.beq z q&&Nat.beq sz q&&Nat.ble ((es.length+new.length)*bytes) 1099511627776 then
    match new with
    |[]=>k (.aW sz es g) s
    |_::_=>
     match g with
     |.nil|.exact=>
      match s.gg b (.tok (es.length+new.length)) with
      |some (l,s)=>E.F.v1 (.aW sz (es++new) (.bQ l)) fun v=>E.F.s s fun s=>k v s
      |none=>.fail
     |.bQ a=>
      match s.get a with
      |some (.tok n)=>
       bif Nat.beq n es.length&&(new.flatMap ai.cells).all ai.dZ then
        match s.set a (.tok (es.length+new.length)) with
        |some s=>E.F.v1 (.aW sz (es++new) (.bQ a)) fun v=>E.F.s s fun s=>k v s
        |none=>.fail
       else .fail
      |_=>.fail
     |.any=>.fail
   else .fail
  |.cw a off len cap sz=>
   match s.get a with
   |some (.cells cs)=>
    bif Nat.beq z q&&Nat.beq sz q&&Nat.ble (len+new.length) cap&&Nat.ble (off+(len+new.length)*sz) cs.length&&s.ho a new&&(new.flatMap ai.cells).all ai.dZ then
     E.F.l (dq cs (off+len*sz) (new.flatMap ai.cells)) fun cs=>
     match s.set a (.cells cs) with
     |some s=>E.F.v1 (.cw a off (len+new.length) cap sz) fun v=>E.F.s s fun s=>k v s
     |none=>.fail
    else .fail
   |_=>.fail
  |_=>.fail
def uR(s:aq)(l:Loc)(vs:List ai):Bool:=
 match l with
 |.l _=>ai.ll s.aa vs
 |.g d _=>ai.ll d vs
def kC(q bytes:Nat)(b:Loc)(x y:ai):ao:=
 match y with
 |.aW z new _=>
  match x with
  |.aW sz es g=>
   bif Nat.beq z q&&Nat.beq sz q&&Nat.ble ((es.length+new.length)*bytes) 1099511627776 then
    match new with
    |[]=>.fail
    |_::_=>
     match g with
     |.nil=>
      bif uR s b new then
       match s.gg b (.tok (es.length+new.length)) with
       |some (l,s)=>E.F.v1 (.aW sz (es++new) (.bQ l)) fun v=>E.F.s s fun s=>k v s
       |none=>.fail
      else .fail
     |.bQ a=>
      match s.get a with
      |some (.tok n)=>
       bif Nat.beq n es.length&&(new.flatMap ai.cells).all ai.dZ&&uR s a new then
        match s.set a (.tok (es.length+new.length)) with
        |some s=>E.F.v1 (.aW sz (es++new) (.bQ a)) fun v=>E.F.s s fun s=>k v s
        |none=>.fail
       else .fail
      |_=>.fail
     |_=>.fail
   else .fail
  |_=>.fail
 |_=>.fail
def kD(q bytes:Nat)(x y:ai):ao:=
 match dB s y with
 |none=>.fail
 |some (z,new)=>
  match new with
  |[]=>.fail
  |_::_=>
   match x with
   |.aW sz [] .nil=>
    bif Nat.beq z q&&Nat.beq sz q&&Nat.ble (new.length*bytes) 1099511627776&&(new.flatMap ai.cells).all ai.dZ then
     E.F.l (new.flatMap ai.cells) fun cs=>E.F.v1 (.cw (.l s.own.length) 0 new.length 0 q) fun v=>E.F.s (s.new (.cells cs)) fun s=>k v s
    else .fail
   |.cw (.l i) 0 len 0 sz=>
    match s.own[i]? with
    |some (.cells cs)=>
     bif Nat.beq z q&&Nat.beq sz q&&Nat.beq cs.length (len*q)&& !Nat.beq len 0&&Nat.ble ((len+new.length)*bytes) 1099511627776&&(new.flatMap ai.cells).all ai.dZ&& !Nat.beq q 0 then
      E.F.l (cs++new.flatMap ai.cells) fun cs=>E.F.v1 (.cw (.l s.own.length) 0 (len+new.length) 0 q) fun v=>E.F.s {s with own:=s.own.set i .gone++[.cells cs]} fun s=>k v s
     else .fail
    |_=>.fail
   |_=>.fail
def mZ(sz:Nat)(x:ai)(i:ai):ao:=
 match eE i with
 |none=>.fail
 |some i=>
  match x with
  |.aW z es _=>
   bif Nat.beq z sz then
    match es[i]? with
    |some e=>E.F.v1 (.bM e.cells) fun v=>k v s
    |none=>.fail
   else .fail
  |.cw a off len _ z=>bif Nat.beq z sz&&Nat.blt i len then E.F.v1 (.ref a (off+i*sz)) fun v=>k v s else .fail
  |_=>.fail
def jl(sz len:Nat)(x:ai)(i:ai):ao:=
 match eE i with
 |none=>.fail
 |some i=>
  bif Nat.blt i len then
   match x with
   |.bM cs=>E.F.v1 (.bM (cs.drop (i*sz))) fun v=>k v s
   |.ref a off=>E.F.v1 (.ref a (off+i*sz)) fun v=>k v s
   |_=>.fail
  else .fail
def cV(f:Nat)(args:List ai):ao:=
 match E.call f args s with
 |.ok v s'=>bif Nat.beq s'.aa s.aa then k v s' else .fail
 |.panic v s'=>kp v s'
 |.fail=>.fail
def cellsOf(v:ai):Option (List ai):=
 match v with
 |.bM cs=>some cs
 |.ref a off=>
  match s.get a with
  |some (.cells cs)=>some (cs.drop off)
  |_=>none
 |_=>none
def dH(s:aq)(n:Option Nat)(v:ai):Option (List ai):=(cellsOf s v).map fun cs=>cs.take (n.getD 1)
def nX:Option (List ai)→Option (List ai)→Bool
 |some a,some b=>ai.lp a b
 |_,_=>false
def hC(xs:List (Option Nat×ai))(f:Nat)(args:List ai):ao:=
 cV E s (fun v s'=>bif xs.all fun x=>nX (dH s x.1 x.2) (dH s' x.1 x.2) then k v s' else .fail) kp f args
def hD(f:Nat)(args:List ai):ao:=
 bif ai.bj args then
  match E.call f args {own:=[],up:=[],ro:=[]} with
  |.ok v _=>bif v.bp then k v s else .fail
  |_=>.fail
 else .fail
def fq(n:Option Nat)(v:ai):ao:=
 match v with
 |.bM cs=>fc E s k n cs
 |.ref a off=>
  match s.get a with
  |some (.cells cs)=>fc E s k n (cs.drop off)
  |_=>.fail
 |_=>.fail
def hR(off:Nat)(v:ai):ao:=
 match v with
 |.bM cs=>E.F.v1 (.bM (cs.drop off)) fun v=>k v s
 |.ref a o=>E.F.v1 (.ref a (o+off)) fun v=>k v s
 |_=>.fail
def mq(off:Nat)(n:Option Nat)(v:ai):ao:=
 match v with
 |.agg cs=>fc E s k n (cs.drop off)
 |_=>.fail
def jm(v i:ai):ao:=
 match v with
 |.str eB=>
  match eE i with
  |some i=>
   match eB[i]? with
   |some b=>E.F.v1 (.int .u8 b) fun v=>k v s
   |none=>.fail
  |none=>.fail
 |_=>.fail
def kX(sz len:Nat)(n:Option Nat)(v i:ai):ao:=
 match v with
 |.agg cs=>
  match eE i with
  |some i=>bif Nat.blt i len then fc E s k n (cs.drop (i*sz)) else .fail
  |none=>.fail
 |_=>.fail
def kE(i:Nat)(v:ai):ao:=
 match v with
 |.cT vs=>w1 E s k vs[i]?
 |_=>.fail
def rY(str:Bool)(v:ai):ao:=
 match str,v with
 |true,.str eB=>E.F.v1 (.int .i64 eB.length) fun v=>k v s
 |false,.aW _ es _=>E.F.v1 (.int .i64 es.length) fun v=>k v s
 |false,.cw _ _ n _ _=>E.F.v1 (.int .i64 n) fun v=>k v s
 |_,_=>.fail
def copyV(d x:ai):ao:=
 match d with
 |.cw a off len _ sz=>
  match dB s x with
  |some (z,es)=>
   match s.get a with
   |some (.cells cs)=>
    bif Nat.beq z sz&&Nat.ble (off+len*sz) cs.length&&((es.take (min es.length len)).flatMap ai.cells).all ai.dZ then
     E.F.l (dq cs off ((es.take (min es.length len)).flatMap ai.cells)) fun cs=>
     match s.set a (.cells cs) with
     |some s=>E.F.v1 (.int .i64 (min es.length len:Nat)) fun v=>E.F.s s fun s=>k v s
     |none=>.fail
    else .fail
   |_=>.fail
  |none=>.fail
 |_=>.fail
def mr(q:Nat)(d x:ai):ao:=
 match d with
 |.cw a off len cap sz=>bif Nat.beq sz q then copyV E s k (.cw a off len cap sz) x else .fail
 |_=>.fail
def nY(zero:List ai)(bytes:Nat)(l c:ai):ao:=
 match eE l with
 |some l=>
  match eE c with
  |some c=>
   bif Nat.ble l c&&Nat.ble (c*bytes) 1099511627776 then
    E.F.l (List.replicate c zero).flatten fun cs=>E.F.v1 (.cw (.l s.own.length) 0 l c zero.length) fun v=>E.F.s (s.new (.cells cs)) fun s=>k v s
   else .fail
  |none=>.fail
 |none=>.fail
def hp(n:Nat)(a v:ai):ao:=
 match a with
 |.ref a off=>bif v.fo&&Nat.beq v.cells.length n then jJ E s k a off v.cells else .fail
 |_=>.fail
def kF(d:IntKind)(v:ai):ao:=
 match v with
 |.int _ n=>E.F.v1 (.int d (d.wrap n)) fun v=>k v s
 |_=>.fail
def m0(v:ai):ao:=
 match v with
 |.str eB=>k (.str eB) s
 |_=>.fail
def g4(v:ai):ao:=
 match v with
 |.str eB=>E.F.v1 (.aW 1 (eB.map fun b=>.int .u8 (b:Nat)) .any) fun v=>k v s
 |_=>.fail
def hS(v:ai):ao:=
 match v with
 |.str _=>.fail
 |v=>
  match dB s v with
  |some (_,es)=>w1 E s k ((kB es).map .str)
  |none=>.fail
def pI(c a b:ai):ao:=
 match c with
 |.bool t=>E.F.gH (bif t then a else b) fun v=>k v s
 |_=>.fail
def jn(v:ai):ao:=
 match isNil v with
 |some false=>E.F.gH v fun v=>k v s
 |_=>.fail
def nG(v:ai):ao:=
 match v with
 |.cw (.l i) off len cap sz=>
  match s.own[i]? with
  |some (.cells cs)=>
   let es:=chunk sz len (cs.drop off)
   bif ai.bj es&&Nat.ble (off+len*sz) cs.length&& !Nat.beq sz 0 then
    E.F.v1 (.aW sz es (if len=cap then .exact else .any)) fun v=>E.F.s {s with own:=s.own.set i .gone} fun s=>k v s
   else .fail
  |_=>.fail
 |_=>.fail
def hT(sz:Nat)(es:List ai):ao:=
 bif ai.bj es&&es.all (fun e=>e.fo&&Nat.beq e.cells.length sz) then E.F.v1 (.aW sz es .exact) fun v=>k v s else .fail
def kb(sz:Nat)(es:List ai):ao:=
 bif ai.ll s.aa es&&es.all (fun e=>e.fo&&Nat.beq e.cells.length sz) then
  E.F.v1 (.aW sz es (.bQ (.l s.own.length))) fun v=>E.F.s (s.new (.tok es.length)) fun s=>k v s
 else .fail
def lK(f:ai)(args:List ai):ao:=
 match f with
 |.fn f ep=>E.F.l (args++ep) fun args=>cV E s k kp f args
 |_=>.fail
def kc(f:ai)(args:List ai):ao:=
 match f with
 |.fn f ep=>E.F.l (args++ep) fun args=>hD E s k f args
 |_=>.fail
def kY(xs:List (Option Nat×ai))(f:ai)(args:List ai):ao:=
 match f with
 |.fn f ep=>E.F.l (args++ep) fun args=>hC E s k kp xs f args
 |_=>.fail
def lL(f:ai→ai→Option ai)(xs:List ai):ao:=
 match xs with
 |x::xs=>w1 E s k (x6 f x xs)
 |[]=>.fail
def er(q bytes:Nat)(b:Option Loc)(x y:ai):ao:=
 match b with
 |some b=>fl E s k q bytes b x y
 |none=>.fail
def lq(q bytes:Nat)(b:Option Loc)(x y:ai):ao:=
 match x with
 |.aW sz es g=>er E s k q bytes b (.aW sz es g) y
 |_=>.fail
def m1(q bytes:Nat)(b:Option Loc)(x y:ai):ao:=
 match b with
 |some b=>kC E s k q bytes b x y
 |none=>.fail
def iO(z n:Nat)(x:ai)(eQ bk iU:Option bR):ao:=
 match x with
 |.ref a off=>
  match cS E.aS aC eQ 0,cS E.aS aC bk n,cS E.aS aC iU n with
  |some l,some h,some m=>bif Nat.ble l h&&Nat.ble h m&&Nat.ble m n then E.F.v1 (.cw a (if m=l then off else off+l*z) (h-l) (m-l) z) fun v=>k v s else .fail
  |_,_,_=>.fail
 |_=>.fail
def kG(b:Option Loc):ao:=
 match b with
 |some b=>
  match s.gg b (.map []) with
  |some (l,s)=>E.F.v1 (.map l) fun v=>E.F.s s fun s=>k v s
  |none=>.fail
 |none=>.fail
def kd(lk:Bk)(m x v:ai):ao:=
 match m with
 |.map a=>
  match s.get a with
  |some (.map es)=>
   bif isKey lk x&&v.fo&&s.ho a [x,v] then
    match putKey x v es with
    |some es=>
     match s.set a (.map es) with
     |some s=>E.F.s s fun s=>k .dead s
     |none=>.fail
    |none=>.fail
   else .fail
  |_=>.fail
 |_=>.fail
def entriesOf:ai→Option (List (ai×ai))
 |.c4=>some []
 |.map a=>
  match s.get a with
  |some (.map es)=>some es
  |_=>none
 |_=>none
def ke(lk:Bk)(zero:ai)(ok:Bool)(m x:ai):ao:=
 bif isKey lk x then
  match entriesOf s m with
  |some es=>
   match findKey x es with
   |some (some v)=>E.F.v1 (bif ok then .cT [v,.bool true] else v) fun v=>k v s
   |some none=>E.F.v1 (bif ok then .cT [zero,.bool false] else zero) fun v=>k v s
   |none=>.fail
  |none=>.fail
 else .fail
def bB(op:gx):ao:=
 match op with
 |.move x=>E.F.gH (aL E.aS aC x) fun v=>k v s
 |.pick c a b=>pI E s k (aL E.aS aC c) (aL E.aS aC a) (aL E.aS aC b)
 |.alloc zero=>E.F.v1 (.ref (.l s.own.length) 0) fun v=>E.F.s (s.new (.cells zero)) fun s=>k v s
 |.dz x=>bif (aL E.aS aC x).fo then E.F.v1 (.bM ((aL E.aS aC x).ak s.aa).cells) fun v=>k v s else .fail
 |.hA x=>bif (aL E.aS aC x).fo then E.F.l ((aL E.aS aC x).ak s.aa).cells fun cs=>E.F.v1 (.ref (.l s.own.length) 0) fun v=>E.F.s (s.new (.cells cs)) fun s=>k v s else .fail
 |.build zero parts=>w1 E s k ((e9 E.aS s.aa aC zero parts).map .agg)
 |.buildSlice sz parts=>hT E s k sz (parts.map (aL E.aS aC))
 |.pF x=>nG E s k (aL E.aS aC x)
 |.load n a=>fq E s k n (aL E.aS aC a)
 |.store n a v=>hp E s k n (aL E.aS aC a) ((aL E.aS aC v).ak s.aa)
 |.nilCheck x=>jn E s k (aL E.aS aC x)
 |.bin op x y=>w1 E s k (al op (aL E.aS aC x) (aL E.aS aC y))
 |.eq neg e x y=>w1 E s k ((pA e (aL E.aS aC x) (aL E.aS aC y)).map fun b=>.bool (bif neg then !b else b))
 |.un op x=>w1 E s k (iN op (aL E.aS aC x))
 |.lX d x=>kF E s k d (aL E.aS aC x)
 |.oT x=>m0 s k (aL E.aS aC x)
 |.fM x=>hS E s k (aL E.aS aC x)
 |.hQ x=>g4 E s k (aL E.aS aC x)
 |.dA t x=>E.F.v1 (.iface t ((aL E.aS aC x).ak s.aa)) fun v=>k v s
 |.hB f ep=>E.F.v1 (.fn f (ep.map fun x=>(aL E.aS aC x).ak s.aa)) fun v=>k v s
 |.makeSlice zero bytes l c=>nY E s k zero bytes (aL E.aS aC l) (aL E.aS aC c)
 |.fV x eQ bk=>ka E aC s k (aL E.aS aC x) eQ bk
 |.slice z x eQ bk iU=>ko E aC s k z (aL E.aS aC x) eQ bk iU
 |.fieldAddr off a=>hR E s k off (aL E.aS aC a)
 |.field off n x=>mq E s k off n (aL E.aS aC x)
 |.fy sz x i=>mZ E s k sz (aL E.aS aC x) (aL E.aS aC i)
 |.fW sz len x i=>jl E s k sz len (aL E.aS aC x) (aL E.aS aC i)
 |.cZ x i=>jm E s k (aL E.aS aC x) (aL E.aS aC i)
 |.oU sz len n x i=>kX E s k sz len n (aL E.aS aC x) (aL E.aS aC i)
 |.extract x i=>kE E s k i (aL E.aS aC x)
 |.call f args=>E.F.l (args.map fun x=>(aL E.aS aC x).ak s.aa) fun args=>cV E s k kp f args
 |.cV f args=>lK E s k kp (aL E.aS aC f) (args.map fun x=>(aL E.aS aC x).ak s.aa)
 |.gR f args=>E.F.l (args.map fun x=>(aL E.aS aC x).ak s.aa) fun args=>hD E s k f args
 |.mo f args=>kc E s k (aL E.aS aC f) (args.map fun x=>(aL E.aS aC x).ak s.aa)
 |.len b x=>rY E s k b (aL E.aS aC x)
 |.append q bytes b x y=>er E s k q bytes (ik E.aS aC b) (aL E.aS aC x) (aL E.aS aC y)
 |.copy q d x=>mr E s k q (aL E.aS aC d) (aL E.aS aC x)
 |.min xs=>lL E s k min2 (xs.map fun x=>(aL E.aS aC x).ak s.aa)
 |.max xs=>lL E s k max2 (xs.map fun x=>(aL E.aS aC x).ak s.aa)
 |.makeMap b=>kG E s k (ik E.aS aC b)
 |.kn lk m x v=>kd E s k lk (aL E.aS aC m) ((aL E.aS aC x).ak s.aa) ((aL E.aS aC v).ak s.aa)
 |.lookup lk zero ok m x=>ke E s k lk zero ok (aL E.aS aC m) ((aL E.aS aC x).ak s.aa)
 |.jk ia f args=>E.F.l (args.map fun x=>(aL E.aS aC x).ak s.aa) fun args=>hC E s k kp (ia.map fun x=>(x.1,aL E.aS aC x.2)) f args
 |.jI ia f args=>kY E s k kp (ia.map fun x=>(x.1,aL E.aS aC x.2)) (aL E.aS aC f) (args.map fun x=>(aL E.aS aC x).ak s.aa)
 |.rU neg x=>w1 E s k (uQ neg (aL E.aS aC x))
 |.jd z n x eQ bk iU=>iO E aC s k z n (aL E.aS aC x) eQ bk iU
 |.kV q bytes b x y=>m1 E s k q bytes (ik E.aS aC b) (aL E.aS aC x) (aL E.aS aC y)
 |.g3 sz parts=>kb E s k sz (parts.map fun x=>(aL E.aS aC x).ak s.aa)
 |.iL q bytes x y=>kD E s k q bytes (aL E.aS aC x) (aL E.aS aC y)
 |.j8 q bytes b x y=>lq E s k q bytes (ik E.aS aC b) (aL E.aS aC x) (aL E.aS aC y)
 |.no=>.fail
end
def m2(g:Option (Nat×Bool))(aC:ey)(k:Bool→ao):ao:=
 match g with
 |none=>k true
 |some (t,want)=>
  match aC.get t with
  |.bool b=>k (b==want)
  |.cT _=>k false
  |_=>.fail
def fe(E:Env):List cN→ey→aq→(ey→aq→ao)→(ai→ey→aq→ao)→ao
 |[],aC,s,fin,_=>fin aC s
 |o::os,aC,s,fin,e=>
  m2 o.guard aC fun w=>
   bif w then bB E aC.get s (fun v s=>kW aC o.dst v fun aC=>fe E os aC s fin e) (fun v s=>e v aC s) o.op
   else kW aC o.dst (.cT []) fun aC=>fe E os aC s fin e
def exec(E:Env):ad→nC
 |.skip,aC,s,k=>k .norm aC s
 |.region none ops,aC,s,k=>fe E ops aC s (fun aC s=>k .norm aC s) (fun _ _ _=>.fail)
 |.region (some nW) ops,aC,s,k=>bif nW.all (rX E.aS aC.get) then fe E ops aC s (fun aC s=>k .norm aC s) (fun _ _ _=>.fail) else .fail
 |.seq a b,aC,s,k=>exec E a aC s (cW (exec E b) k)
 |.mask m a,aC,s,k=>ey.jZ m (fun aC=>exec E a aC s k) aC
 |.cond c a b,aC,s,k=>
  match aL E.aS aC.get c with
  |.bool t=>bif t then exec E a aC s k else exec E b aC s k
  |_=>.fail
 |.block id c,aC,s,k=>exec E c aC s (bw id k)
 |.loop bf c,aC,s,k=>ey.jZ bf (fun aC=>E.loop (exec E c) bf aC s k) aC
 |.exit id,aC,s,k=>k (.exit id) aC s
 |.scope c,aC,s,k=>exec E c aC s k
 |.ret,aC,s,k=>k .ret aC s
def iF(s:aq)(i off len cap sz:Nat):Option ai:=
 match s.own[i]? with
 |some (.cells cs)=>let es:=chunk sz len (cs.drop off);if ai.bj es&&Nat.ble (off+len*sz) cs.length&& !Nat.beq sz 0 then some (.aW sz es (if len=cap then .exact else .any)) else none
 |_=>none
def dT(s:aq):ai→Option ai
 |.cw (.l i) off len cap sz=>iF s i off len cap sz
 |.cw (.g d i) off len cap sz=>if d=s.aa then iF s i off len cap sz else if d<s.aa then some (.cw (.g d i) off len cap sz) else none
 |.ref (.g d i) off=>if d<s.aa then some (.ref (.g d i) off) else none
 |.aW sz es (.bQ (.l _))=>if ai.bj es then some (.aW sz es .any) else none
 |.aW sz es (.bQ (.g d i))=>if d<s.aa then some (.aW sz es (.bQ (.g d i))) else if ai.bj es then some (.aW sz es .any) else none
 |.map (.g d i)=>if d<s.aa then some (.map (.g d i)) else none
 |v=>if v.bp then some v else none
def ha{α β:Type}(f:α→Option β):List α→Option (List β)
 |[]=>some []
 |x::xs=>(f x).bind fun y=>(ha f xs).map fun e=>y::e
def freeze(s:aq):ai→Option ai
 |.agg cs=>(ha (dT s) cs).map .agg
 |v=>dT s v
def rZ(aC:ey)(s:aq):vA→Option ai
 |.t n=>some (aC.get n)
 |.cell a n=>
  match aC.get a with
  |.ref a off=>
   match s.get a,n with
   |some (.cells cs),none=>cs[off]?
   |some (.cells cs),some n=>if Nat.ble (off+n) cs.length then some (.agg ((cs.drop off).take n)) else none
   |_,_=>none
  |_=>none
def q7:List ai→ai
 |[v]=>v
 |vs=>.cT vs
def finish(F:bb)(fn:bY)(aC:ey)(s:aq):ao:=
 match ha (rZ aC s) fn.results with
 |some vs=>
  if fn.bf then F.l (vs.map (ai.ak s.aa)) fun vs=>.ok (q7 vs) s
  else
   match ha (freeze s) vs with
   |some vs=>
    match s.up with
    |own::up=>F.l vs fun vs=>F.s {own,up,ro:=s.ro} fun s=>.ok (q7 vs) s
    |[]=>.fail
   |none=>.fail
 |none=>.fail
def abi(F:bb)(fn:bY):cP:=fun x aC s=>
 match x with
 |.norm=>finish F fn aC s
 |.ret=>finish F fn aC s
 |_=>.fail
def aV:List ai→Nat→ey→(ey→ao)→ao
 |[],_,aC,k=>k aC
 |v::vs,i,aC,k=>aC.jj 12 i v fun aC=>aV vs (i+1) aC k
def call(F:bb)(T:Nat→Option bY)(G:Nat→ai)(X:Nat→List ai→aq→ao):Nat→Nat→List ai→aq→ao
 |0,_,_,_=>.fail
 |n+1,f,args,s=>
  match T f with
  |none=>X f args s
  |some fn=>
   bif Nat.beq args.length fn.avv then
    aV args 0 .e fun aC=>exec {F,aS:=G,call:=call F T G X n,loop:=fun step bf=>da step bf n} fn.body aC
     (if fn.bf then s else {own:=[],up:=s.own::s.up,ro:=s.ro})
     (abi F fn)
   else .fail
theorem Loc.jo{a b:Loc}:a.same b=true↔a=b:=by cases a<;> cases b<;> simp [Loc.same]
theorem cd.jo{a b:cd}:a.same b=true↔a=b:=by cases a<;> cases b<;> simp [cd.same,Loc.jo]
mutual
theorem ai.jo:∀(a b:ai),a.same b=true↔a=b
 |.dead,b=>by cases b<;> simp [ai.same]
 |.gU,b=>by cases b<;> simp [ai.same]
 |.fx,b=>by cases b<;> simp [ai.same]
 |.c4,b=>by cases b<;> simp [ai.same]
 |.e2,b=>by cases b<;> simp [ai.same]
 |.bool a,b=>by cases b<;> simp [ai.same]
 |.int k a,b=>by cases b<;> simp [ai.same]
 |.str a,b=>by cases b<;> simp [ai.same]
 |.aW z a g,b=>by cases b<;> simp [ai.same,cd.jo,ai.iV a,and_assoc];intro _;exact And.comm
 |.cw a x y z q,b=>by cases b<;> simp [ai.same,Loc.jo,and_assoc]
 |.ref a x,b=>by cases b<;> simp [ai.same,Loc.jo]
 |.bM a,b=>by cases b<;> simp [ai.same,ai.iV a]
 |.fn f a,b=>by cases b<;> simp [ai.same,ai.iV a]
 |.map a,b=>by cases b<;> simp [ai.same,Loc.jo]
 |.iface t v,b=>by cases b<;> simp [ai.same,ai.jo v]
 |.agg a,b=>by cases b<;> simp [ai.same,ai.iV a]
 |.cT a,b=>by cases b<;> simp [ai.same,ai.iV a]
theorem ai.iV:∀(a b:List ai),ai.lp a b=true↔a=b
 |[],b=>by cases b<;> simp [ai.lp]
 |x::xs,b=>by cases b<;> simp [ai.lp,ai.jo x,ai.iV xs]
end
theorem mL{a b:Option (List ai)}:nX a b=true↔∃l,a=some l∧b=some l:=by cases a<;> cases b<;> simp only[nX,ai.iV,co,bV,reduceCtorEq,false_and,and_false,exists_false,exists_eq_left'];exact eq_comm
def hM(n:Nat)(k:Nat→ao):ao:=Nat.casesOn n (k 0) (fun p=>k (p+1))
def qD(n:Int)(k:Int→ao):ao:=
 match n with
 |.ofNat m=>hM m fun m=>k (.ofNat m)
 |.negSucc m=>hM m fun m=>k (.negSucc m)
def oV:List Nat→(List Nat→ao)→ao
 |[],k=>k []
 |x::xs,k=>hM x fun x=>oV xs fun xs=>k (x::xs)
def r0(v:ai)(k:ai→ao):ao:=
 match v with
 |.dead=>k .dead
 |.bool b=>match b with
  |true=>k (.bool true)
  |false=>k (.bool false)
 |.int i n=>qD n fun n=>k (.int i n)
 |.str s=>k (.str s)
 |.aW sz es g=>k (.aW sz es g)
 |.cw a off len cap sz=>k (.cw a off len cap sz)
 |.ref a off=>k (.ref a off)
 |.bM cs=>k (.bM cs)
 |.gU=>k .gU
 |.fn f ep=>k (.fn f ep)
 |.fx=>k .fx
 |.map a=>k (.map a)
 |.c4=>k .c4
 |.iface t v=>k (.iface t v)
 |.e2=>k .e2
 |.agg cs=>k (.agg cs)
 |.cT vs=>k (.cT vs)
def ms:List ai→(List ai→ao)→ao
 |[],k=>k []
 |x::xs,k=>r0 x fun x=>ms xs fun xs=>k (x::xs)
def mM(a:Loc)(k:Loc→ao):ao:=
 match a with
 |.l i=>hM i fun i=>k (.l i)
 |.g d i=>hM d fun d=>hM i fun i=>k (.g d i)
def x7(g:cd)(k:cd→ao):ao:=
 match g with
 |.nil=>k .nil
 |.exact=>k .exact
 |.any=>k .any
 |.bQ a=>mM a fun a=>k (.bQ a)
def C2(v:ai)(k:ai→ao):ao:=
 match v with
 |.dead=>k .dead
 |.bool b=>match b with
  |true=>k (.bool true)
  |false=>k (.bool false)
 |.int i n=>qD n fun n=>k (.int i n)
 |.str s=>oV s fun s=>k (.str s)
 |.aW sz es g=>ms es fun es=>x7 g fun g=>k (.aW sz es g)
 |.cw a off len cap sz=>mM a fun a=>hM off fun off=>hM len fun len=>hM cap fun cap=>k (.cw a off len cap sz)
 |.ref a off=>mM a fun a=>hM off fun off=>k (.ref a off)
 |.bM cs=>ms cs fun cs=>k (.bM cs)
 |.gU=>k .gU
 |.fn f ep=>ms ep fun ep=>k (.fn f ep)
 |.fx=>k .fx
 |.map a=>mM a fun a=>k (.map a)
 |.c4=>k .c4
 |.iface t v=>r0 v fun v=>k (.iface t v)
 |.e2=>k .e2
 |.agg cs=>ms cs fun cs=>k (.agg cs)
 |.cT vs=>ms vs fun vs=>k (.cT vs)
def uS(o:bd)(k:bd→ao):ao:=
 match o with
 |.cells cs=>k (.cells cs)
 |.tok n=>hM n fun n=>k (.tok n)
 |.map es=>k (.map es)
 |.gone=>k .gone
def m3:List bd→(List bd→ao)→ao
 |[],k=>k []
 |x::xs,k=>uS x fun x=>m3 xs fun xs=>k (x::xs)
def oi:List (List bd)→(List (List bd)→ao)→ao
 |[],k=>k []
 |x::xs,k=>m3 x fun x=>oi xs fun xs=>k (x::xs)
def x8(s:aq)(k:aq→ao):ao:=m3 s.own fun own=>oi s.up fun up=>oi s.ro fun ro=>k {own,up,ro}
def bb.full:bb:={gH:=r0,v1:=C2,l:=ms,s:=x8}
theorem kZ(n:Nat)(k:Nat→ao):hM n k=k n:=by cases n<;> rfl
theorem r1(n:Int)(k:Int→ao):qD n k=k n:=by cases n<;> simp [qD,kZ]
theorem q8:∀(l:List Nat) (k:List Nat→ao),oV l k=k l
 |[],_=>rfl
 |x::xs,k=>by simp [oV,kZ,q8 xs]
theorem rr(v:ai)(k:ai→ao):r0 v k=k v:=by cases v<;> simp only[r0,r1];split<;> rfl
theorem rs:∀(l:List ai) (k:List ai→ao),ms l k=k l
 |[],_=>rfl
 |x::xs,k=>by simp [ms,rr,rs xs]
theorem r2(a:Loc)(k:Loc→ao):mM a k=k a:=by cases a<;> simp [mM,kZ]
theorem FK(a:cd)(k:cd→ao):x7 a k=k a:=by cases a<;> simp [x7,r2]
theorem MZ(v:ai)(k:ai→ao):C2 v k=k v:=by cases v<;> simp only[C2,r1,q8,rs,r2,FK,kZ,rr];split<;> rfl
theorem C3(o:bd)(k:bd→ao):uS o k=k o:=by cases o<;> simp [uS,kZ]
theorem nZ:∀(l:List bd) (k:List bd→ao),m3 l k=k l
 |[],_=>rfl
 |x::xs,k=>by simp [m3,C3,nZ xs]
theorem r3:∀(l:List (List bd)) (k:List (List bd)→ao),oi l k=k l
 |[],_=>rfl
 |x::xs,k=>by simp [oi,nZ,r3 xs]
theorem FL(s:aq)(k:aq→ao):x8 s k=k s:=by simp [x8,nZ,r3]
theorem bb.abj:bb.full=bb.not:=by
 unfold bb.full bb.not;congr<;> funext v k
 ·exact rr v k
 ·exact MZ v k
 ·exact rs v k
 ·exact FL v k
def xf(f:Nat):List (Nat×bY)→Option bY
 |[]=>none
 |(g,c)::l=>bif Nat.beq f g then some c else xf f l
theorem vB{f:Nat}{c:bY}:∀{l:List (Nat×bY)},xf f l=some c→(f,c)∈l
 |[],h=>by cases h
 |(g,d)::l,h=>by
  simp only[xf] at h;cases e:Nat.beq f g with
  |true=>
   rw[e] at h
   have:=c2 e;subst this;obtain rfl:=Option.some.inj h;exact List.mem_cons_self ..
  |false=>rw[e] at h;exact List.mem_cons_of_mem _ (vB h)
end Go.Ab
end
section
namespace Go.Ab
structure b9 where
 F:Addr→Option Value
 n:Nat→Nat
 loc:Nat→Nat→Nat
 nB:Nat→Nat→Nat→Option (Addr×Nat×Nat)
def iP(κ:b9)(D:Nat)(sz:Nat):cd→Nat→Addr→Nat→Prop
 |.nil,_,_,_=>False
 |.exact,n,_,cap=>cap=n
 |.any,_,_,_=>True
 |.bQ (.g d i),n,a,cap=>d<D∧i<κ.n d∧κ.nB d i n=some (a,cap,sz)
 |.bQ (.l _),_,_,_=>False
def x9(g:cd)(es:List ai):Prop:=(∀e,e∈es→e.bp=true)∨∃d j,g=.bQ (.g d j)∧∀e,e∈es→e.low d=true
inductive c8 (κ:b9) (D:Nat):ai→Value→Prop
 |dead (x:Value):c8 κ D .dead x
 |bool (b:Bool):c8 κ D (.bool b) (.bool b)
 |int (k:IntKind) (n:Int):c8 κ D (.int k n) (.int k n)
 |str (eB:List Nat) (s:ByteArray) (h:s.data.toList.map UInt8.toNat=eB):c8 κ D (.str eB) (.string s)
 |lr (sz:Nat):c8 κ D (.aW sz [] .nil) (.slice none 0 0)
 |aW (sz:Nat) (es:List ai) (g:cd) (a:Addr) (cap:Nat) (aF:Nat→Value) (bD:iP κ D sz g es.length a cap) (bX:es.length≤cap) (bl:es≠[]→a.spot=none)
   (dY:∀e,e∈es→e.cells.length=sz) (aQ:x9 g es)
   (kQ:∀j,j<(es.flatMap ai.cells).length→κ.F (a.add j)=some (aF j))
   (bG:∀(j:Nat) (c:ai),(es.flatMap ai.cells)[j]? =some c→c8 κ D c (aF j)):c8 κ D (.aW sz es g) (.slice (some a) es.length cap)
 |cw (d i off len cap mN sz:Nat) (bI:d<D) (bk:i<κ.n d) (br:len≤mN) (a9:mN=cap∨(cap=0∧0<len∧off=0∧κ.nB d i len=some (⟨κ.loc d i,0,none⟩,mN,sz))):c8 κ D (.cw (.g d i) off len cap sz) (.slice (some ⟨κ.loc d i,off,none⟩) len mN)
 |ref (d i off:Nat) (bI:d<D) (bk:i<κ.n d):c8 κ D (.ref (.g d i) off) (.pointer (some ⟨κ.loc d i,off,none⟩))
 |bM (cs:List ai) (a:Addr) (aF:Nat→Value) (bl:a.spot=none) (kQ:∀j,j<cs.length→κ.F (a.add j)=some (aF j))
   (bG:∀(j:Nat) (c:ai),cs[j]? =some c→c8 κ D c (aF j)):c8 κ D (.bM cs) (.pointer (some a))
 |gU:c8 κ D .gU (.pointer none)
 |fn (f:Nat) (cs:List ai) (xs:List Value) (br:xs.length=cs.length) (bG:∀(j:Nat) (c:ai) (x:Value),cs[j]? =some c→xs[j]? =some x→c8 κ D c x):c8 κ D (.fn f cs) (.func (.func f) #[] xs.toArray)
 |fx:c8 κ D .fx .nilFunc
 |c4:c8 κ D .c4 (.map none)
 |map (d i:Nat) (bI:d<D) (bk:i<κ.n d):c8 κ D (.map (.g d i)) (.map (some (κ.loc d i)))
 |iface (t:Nat) (v:ai) (x:Value) (h:c8 κ D v x):c8 κ D (.iface t v) (.iface t x)
 |e2:c8 κ D .e2 .nilIface
 |agg (cs:List ai) (xs:List Value) (br:xs.length=cs.length) (bG:∀(j:Nat) (c:ai) (x:Value),cs[j]? =some c→xs[j]? =some x→c8 κ D c x):c8 κ D (.agg cs) (.agg xs.toArray)
 |cT (cs:List ai) (xs:List Value) (br:xs.length=cs.length) (bG:∀(j:Nat) (c:ai) (x:Value),cs[j]? =some c→xs[j]? =some x→c8 κ D c x):c8 κ D (.cT cs) (.tuple xs.toArray)
def ea(κ:b9)(D:Nat)(cs:List ai)(xs:List Value):Prop:=xs.length=cs.length∧∀(j:Nat) (c:ai) (x:Value),cs[j]? =some c→xs[j]? =some x→c8 κ D c x
structure hJ (κ κ':b9) (D:Nat):Prop where
 F:∀a v,κ.F a=some v→κ'.F a=some v
 n:∀d,d<D→κ.n d≤κ'.n d
 loc:∀d i,d<D→i<κ.n d→κ'.loc d i=κ.loc d i
 nB:∀d i n x,d<D→i<κ.n d→κ.nB d i n=some x→κ'.nB d i n=some x
theorem hJ.refl(κ:b9)(D:Nat):hJ κ κ D:=⟨fun _ _ h=>h,fun _ _=>aX _,fun _ _ _ _=>rfl,fun _ _ _ _ _ _ h=>h⟩
theorem hJ.trans{κ κ' r:b9}{D:Nat}(h:hJ κ κ' D)(k:hJ κ' r D):hJ κ r D:=
 ⟨fun a v e=>k.F a v (h.F a v e),fun d bI=>Nat.le_trans (h.n d bI) (k.n d bI),
  fun d i bI bk=>(k.loc d i bI (gm bk (h.n d bI))).trans (h.loc d i bI bk),
  fun d i n x bI bk e=>k.nB d i n x bI (gm bk (h.n d bI)) (h.nB d i n x bI bk e)⟩
theorem hJ.low{κ κ':b9}{D r:Nat}(h:hJ κ κ' D)(e:r≤D):hJ κ κ' r:=
 ⟨h.F,fun d bI=>h.n d (gm bI e),fun d i bI=>h.loc d i (gm bI e),fun d i n x bI=>h.nB d i n x (gm bI e)⟩
theorem iP.mono{κ κ':b9}{D sz n cap:Nat}{g:cd}{a:Addr}(h:iP κ D sz g n a cap)(k:hJ κ κ' D):iP κ' D sz g n a cap:=by unfold iP at *;split at h<;> simp_all;obtain⟨aD,aG,bz⟩:=h;exact⟨gm aG (k.n _ aD),k.nB _ _ _ _ aD aG bz⟩
theorem c8.mono{κ κ':b9}{D:Nat}{v:ai}{x:Value}(h:c8 κ D v x)(k:hJ κ κ' D):c8 κ' D v x:=by
 induction h with
 |dead x=>exact .dead x
 |bool b=>exact .bool b
 |int k n=>exact .int k n
 |str eB s h=>exact .str eB s h
 |lr sz=>exact .lr sz
 |aW sz es g a cap aF bD bX bl dY aQ kQ bG e=>exact .aW sz es g a cap aF (bD.mono k) bX bl dY aQ (fun j cp=>k.F _ _ (kQ j cp)) e
 |cw d i off len cap mN sz bI bk br a9=>rw[←k.loc d i bI bk];exact .cw d i off len cap mN sz bI (gm bk (k.n d bI)) br (a9.imp id fun⟨aD,aG,bz,cz⟩=>⟨aD,aG,bz,by rw[k.loc d i bI bk];exact k.nB d i len _ bI bk cz⟩)
 |ref d i off bI bk=>rw[←k.loc d i bI bk];exact .ref d i off bI (gm bk (k.n d bI))
 |bM cs a aF bl kQ bG e=>exact .bM cs a aF bl (fun j cp=>k.F _ _ (kQ j cp)) e
 |gU=>exact .gU
 |fn f cs xs br bG e=>exact .fn f cs xs br e
 |fx=>exact .fx
 |c4=>exact .c4
 |map d i bI bk=>rw[←k.loc d i bI bk];exact .map d i bI (gm bk (k.n d bI))
 |iface t v x h e=>exact .iface t v x e
 |e2=>exact .e2
 |agg cs xs br bG e=>exact .agg cs xs br e
 |cT cs xs br bG e=>exact .cT cs xs br e
theorem c8.up{κ:b9}{D u:Nat}{v:ai}{x:Value}(h:c8 κ D v x)(r:D≤u):c8 κ u v x:=by
 induction h with
 |dead x=>exact .dead x
 |bool b=>exact .bool b
 |int k n=>exact .int k n
 |str eB s h=>exact .str eB s h
 |lr sz=>exact .lr sz
 |aW sz es g a cap aF bD bX bl dY aQ kQ bG e=>refine .aW sz es g a cap aF ?_ bX bl dY aQ kQ e;unfold iP at *;split at bD<;> simp_all;exact gm bD.1 r
 |cw d i off len cap mN sz bI bk br a9=>exact .cw d i off len cap mN sz (gm bI r) bk br a9
 |ref d i off bI bk=>exact .ref d i off (gm bI r) bk
 |bM cs a aF bl kQ bG e=>exact .bM cs a aF bl kQ e
 |gU=>exact .gU
 |fn f cs xs br bG e=>exact .fn f cs xs br e
 |fx=>exact .fx
 |c4=>exact .c4
 |map d i bI bk=>exact .map d i (gm bI r) bk
 |iface t v x h e=>exact .iface t v x e
 |e2=>exact .e2
 |agg cs xs br bG e=>exact .agg cs xs br e
 |cT cs xs br bG e=>exact .cT cs xs br e
theorem iW{cs:List ai}(h:ai.bj cs=true){j:Nat}{c:ai}(a9:cs[j]? =some c):c.bp=true:=by
 induction cs generalizing j with
 |nil=>simp at a9
 |cons v vs e=>
  simp only[ai.bj,bL] at h;cases j with
  |zero=>simp at a9;exact a9 ▸ h.1
  |succ j=>exact e h.2 (by simpa using a9)
theorem eh{cs:List ai}:ai.bj cs=true↔∀c,c∈cs→c.bp=true:=by
 induction cs with
 |nil=>simp [ai.bj]
 |cons v vs e=>simp [ai.bj,e]
theorem il{e:ai}(h:e.bp=true){c:ai}(a9:c∈e.cells):c.bp=true:=by
 unfold ai.cells at a9;split at a9
 ·exact eh.1 (by simpa [ai.bp] using h) c a9
 ·simp at a9;exact a9 ▸ h
theorem c8.bp{κ:b9}{D:Nat}{v:ai}{x:Value}(h:c8 κ D v x)(aQ:v.bp=true){κ':b9}(y:Nat)(kQ:∀a v,κ.F a=some v→κ'.F a=some v):c8 κ' y v x:=by
 induction h with
 |dead x=>exact .dead x
 |bool b=>exact .bool b
 |int k n=>exact .int k n
 |str eB s h=>exact .str eB s h
 |lr sz=>exact .lr sz
 |aW sz es g a cap aF bD bX bl dY hF u bG r=>
  refine .aW sz es g a cap aF ?_ bX bl dY hF (fun j cp=>kQ _ _ (u j cp)) (fun j c a9=>r j c a9 ?_)
  ·cases g<;> simp_all [ai.bp,iP]
  ·obtain⟨e,he,B⟩:=List.mem_flatMap.1 (List.mem_of_getElem? a9);rcases hF with hF|⟨d,j,rfl,_⟩
   ·exact il (hF e he) B
   ·simp [ai.bp] at aQ
 |cw d i off len cap mN sz bI bk br a9=>simp [ai.bp] at aQ
 |ref d i off bI bk=>simp [ai.bp] at aQ
 |bM cs a aF bl u bG r=>exact .bM cs a aF bl (fun j cp=>kQ _ _ (u j cp)) (fun j c a9=>r j c a9 (iW (by simpa [ai.bp] using aQ) a9))
 |gU=>exact .gU
 |fn f cs xs br bG r=>exact .fn f cs xs br (fun j c x a9 aT=>r j c x a9 aT (iW (by simpa [ai.bp] using aQ) a9))
 |fx=>exact .fx
 |c4=>exact .c4
 |map d i bI bk=>simp [ai.bp] at aQ
 |iface t v x h r=>exact .iface t v x (r (by simpa [ai.bp] using aQ))
 |e2=>exact .e2
 |agg cs xs br bG r=>exact .agg cs xs br (fun j c x a9 aT=>r j c x a9 aT (iW (by simpa [ai.bp] using aQ) a9))
 |cT cs xs br bG r=>exact .cT cs xs br (fun j c x a9 aT=>r j c x a9 aT (iW (by simpa [ai.bp] using aQ) a9))
theorem jK{v:ai}(h:v.bp=true)(d:Nat):v.ak d=v:=by cases v<;> simp_all [ai.bp,ai.ak];rename_i g;cases g<;> simp_all [ai.bp,cd.ak]
theorem oj{d:Nat}{cs:List ai}(h:ai.ll d cs=true){j:Nat}{c:ai}(a9:cs[j]? =some c):c.low d=true:=by
 induction cs generalizing j with
 |nil=>simp at a9
 |cons v vs e=>
  simp only[ai.ll,bL] at h;cases j with
  |zero=>simp at a9;exact a9 ▸ h.1
  |succ j=>exact e h.2 (by simpa using a9)
theorem Loc.kH{d ga:Nat}(h:d≤ga){a:Loc}(r:a.low d=true):a.low ga=true:=by
 cases a with
 |l i=>cases r
 |g e i=>exact dN (Nat.le_trans (dW r) h)
mutual
theorem ai.kH{d ga:Nat}(h:d≤ga):∀(v:ai),v.low d=true→v.low ga=true
 |.dead,_|.bool _,_|.int _ _,_|.str _,_|.gU,_|.fx,_|.c4,_|.e2,_=>rfl
 |.aW sz es g,bG=>by
  cases g with
  |bQ a=>exact Loc.kH h bG
  |nil=>rfl
  |exact=>rfl
  |any=>rfl
 |.cw a _ _ _ _,bG=>Loc.kH h bG
 |.ref a _,bG=>Loc.kH h bG
 |.map a,bG=>Loc.kH h bG
 |.bM cs,bG=>ai.m4 h cs bG
 |.fn _ cs,bG=>ai.m4 h cs bG
 |.agg cs,bG=>ai.m4 h cs bG
 |.cT cs,bG=>ai.m4 h cs bG
 |.iface _ v,bG=>ai.kH h v bG
theorem ai.m4{d ga:Nat}(h:d≤ga):∀(vs:List ai),ai.ll d vs=true→ai.ll ga vs=true
 |[],_=>rfl
 |v::vs,bG=>by simp only[ai.ll,bL] at bG ⊢;exact⟨ai.kH h v bG.1,ai.m4 h vs bG.2⟩
end
mutual
theorem ai.mu(d:Nat):∀(v:ai),v.bp=true→v.low d=true
 |.dead,_|.bool _,_|.int _ _,_|.str _,_|.gU,_|.fx,_|.c4,_|.e2,_=>rfl
 |.aW sz es g,bG=>by
  cases g with
  |bQ a=>simp [ai.bp] at bG
  |nil=>rfl
  |exact=>rfl
  |any=>rfl
 |.cw a _ _ _ _,bG=>by simp [ai.bp] at bG
 |.ref a _,bG=>by simp [ai.bp] at bG
 |.map a,bG=>by simp [ai.bp] at bG
 |.bM cs,bG=>ai.iX d cs bG
 |.fn _ cs,bG=>ai.iX d cs bG
 |.agg cs,bG=>ai.iX d cs bG
 |.cT cs,bG=>ai.iX d cs bG
 |.iface _ v,bG=>ai.mu d v bG
theorem ai.iX(d:Nat):∀(vs:List ai),ai.bj vs=true→ai.ll d vs=true
 |[],_=>rfl
 |v::vs,bG=>by simp only[ai.bj,bL] at bG;simp only[ai.ll,bL];exact⟨ai.mu d v bG.1,ai.iX d vs bG.2⟩
end
theorem ls{d:Nat}{cs:List ai}:ai.ll d cs=true↔∀c,c∈cs→c.low d=true:=by
 induction cs with
 |nil=>simp [ai.ll]
 |cons v vs e=>simp [ai.ll,e]
theorem ya{d:Nat}{e:ai}(h:e.low d=true){c:ai}(a9:c∈e.cells):c.low d=true:=by
 unfold ai.cells at a9;split at a9
 ·exact ls.1 (by simpa [ai.low] using h) c a9
 ·simp at a9;exact a9 ▸ h
theorem c8.lower{κ:b9}{D d:Nat}{v:ai}{x:Value}(h:c8 κ D v x)(br:v.low d=true):c8 κ (d+1) v x:=by
 induction h with
 |dead x=>exact .dead x
 |bool b=>exact .bool b
 |int k n=>exact .int k n
 |str eB s h=>exact .str eB s h
 |lr sz=>exact .lr sz
 |aW sz es g a cap aF bD bX bl dY hF y bG r=>
  refine .aW sz es g a cap aF ?_ bX bl dY hF y (fun j c a9=>?_)
  ·cases g with
   |bQ l=>
    cases l with
    |l i=>simp [ai.low,Loc.low] at br
    |g e i=>exact⟨Nat.lt_succ_of_le (dW (by simpa [ai.low,Loc.low] using br)),bD.2⟩
   |nil=>exact bD
   |exact=>exact bD
   |any=>exact bD
  ·obtain⟨e,he,B⟩:=List.mem_flatMap.1 (List.mem_of_getElem? a9);rcases hF with hF|⟨ga,kf,rfl,hF⟩
   ·exact(bG j c a9).bp (il (hF e he) B) _ (fun _ _ h=>h)
   ·exact r j c a9 (ai.kH (dW (by simpa [ai.low,Loc.low] using br)) c (ya (hF e he) B))
 |cw e i off len cap mN sz bI bk u a9=>exact .cw e i off len cap mN sz (Nat.lt_succ_of_le (dW (by simpa [ai.low,Loc.low] using br))) bk u a9
 |ref e i off bI bk=>exact .ref e i off (Nat.lt_succ_of_le (dW (by simpa [ai.low,Loc.low] using br))) bk
 |bM cs a aF bl y bG r=>exact .bM cs a aF bl y (fun j c a9=>r j c a9 (oj (by simpa [ai.low] using br) a9))
 |gU=>exact .gU
 |fn f cs xs u bG r=>exact .fn f cs xs u (fun j c x a9 aT=>r j c x a9 aT (oj (by simpa [ai.low] using br) a9))
 |fx=>exact .fx
 |c4=>exact .c4
 |map e i bI bk=>exact .map e i (Nat.lt_succ_of_le (dW (by simpa [ai.low,Loc.low] using br))) bk
 |iface t v x h r=>exact .iface t v x (r (by simpa [ai.low] using br))
 |e2=>exact .e2
 |agg cs xs u bG r=>exact .agg cs xs u (fun j c x a9 aT=>r j c x a9 aT (oj (by simpa [ai.low] using br) a9))
 |cT cs xs u bG r=>exact .cT cs xs u (fun j c x a9 aT=>r j c x a9 aT (oj (by simpa [ai.low] using br) a9))
def aqM(lv:Nat×Nat)(n:Nat):Prop:=∀j,j<n→¬(lv.1≤j∧j<lv.2)
def m5(κ:b9)(D:Nat)(es:List (ai×ai))(hb:List MapEntry):Prop:=
 hb.length=es.length∧∀(j:Nat) (p:ai×ai) (e:MapEntry),es[j]? =some p→hb[j]? =some e→c8 κ D p.1 e.key∧c8 κ D p.2 e.val
theorem m5.mono{κ κ':b9}{D:Nat}{es:List (ai×ai)}{hb:List MapEntry}(h:m5 κ D es hb)(k:hJ κ κ' D):m5 κ' D es hb:=
 ⟨h.1,fun j p e aU he=>⟨(h.2 j p e aU he).1.mono k,(h.2 j p e aU he).2.mono k⟩⟩
def MV(κ:b9)(d i:Nat)(w:World):bd→Prop
 |.cells cs=>(∃C e lv,w.heap[κ.loc d i]? =some (.cells C e lv)∧aqM lv C.size∧ea κ (d+1) cs (C.toList.take cs.length)∧∀m b cap sz,κ.nB d i m=some (b,cap,sz)→cap*sz≤C.size)∧∀o,κ.F ⟨κ.loc d i,o,none⟩=none
 |.tok n=>∃b cap sz,κ.nB d i n=some (⟨b,0,none⟩,cap,sz)∧n≤cap∧(∃C e lv,w.heap[b]? =some (.cells C e lv)∧C.size=cap*sz∧aqM lv C.size)∧(∀o,n*sz≤o→κ.F ⟨b,o,none⟩=none)∧∀m,n<m→κ.nB d i m=none
 |.gone=>True
 |.map es=>∃hb clock,w.heap[κ.loc d i]? =some (.map hb clock)∧m5 κ (d+1) es hb.toList
def cc(κ:b9)(d i:Nat):bd→Option Nat
 |.cells _|.map _=>some (κ.loc d i)
 |.tok n=>(κ.nB d i n).map (·.1.block)
 |.gone=>none
def aq.aC(s:aq)(d:Nat):Option (List bd):=if d=s.aa then some s.own else if d<s.aa then(s.up++s.ro)[s.aa-1-d]? else none
theorem aq.oW(s:aq)(d i:Nat):s.get (.g d i)=(s.aC d).bind (·[i]?):=by
 unfold aq.get aq.aC;by_cases h:d=s.aa
 ·simp [h]
 ·by_cases e:d<s.aa<;> simp [h,e]
theorem aq.hU(s:aq)(a:Loc):s.get (a.ak s.aa)=s.get a:=by
 cases a with
 |l i=>simp [Loc.ak,aq.get]
 |g d i=>rfl
structure dw (κ:b9) (s:aq) (w:World):Prop where
 jq:∀a v,κ.F a=some v→a.spot=none∧w.cell? a=some v
 len:∀d l,s.aC d=some l→l.length=κ.n d
 obj:∀d i o,s.get (.g d i)=some o→MV κ d i w o
 inj:∀d i o ga kf o' b,s.get (.g d i)=some o→s.get (.g ga kf)=some o'→cc κ d i o=some b→cc κ ga kf o'=some b→d=ga∧i=kf
def Live(κ:b9)(s:aq)(b:Nat):Prop:=∃d i o,s.get (.g d i)=some o∧cc κ d i o=some b
structure gi (κ:b9) (s:aq) (w:World) (κ':b9) (s':aq) (w':World):Prop where
 k:hJ κ κ' (s.aa+1)
 aa:s'.aa=s.aa
 size:w.heap.size≤w'.heap.size
 os:w'.os=w.os
 tape:w'.tape=w.tape
 output:w'.output=w.output
 ZT:∀b,b<w.heap.size→¬Live κ s b→w'.heap[b]? =w.heap[b]?
 live:∀b,b<w.heap.size→Live κ' s' b→Live κ s b
 C4:∀a,κ'.F a≠none→κ.F a≠none∨w.heap.size≤a.block∨Live κ s a.block
theorem gi.refl(κ:b9)(s:aq)(w:World):gi κ s w κ s w:=
 ⟨.refl _ _,rfl,aX _,rfl,rfl,rfl,fun _ _ _=>rfl,fun _ _ h=>h,fun _ h=>.inl h⟩
theorem gi.trans{κ r u:b9}{s y B:aq}{w H I:World}(h:gi κ s w r y H)(k:gi r y H u B I):gi κ s w u B I:=by
 refine⟨h.k.trans (h.aa ▸ k.k),k.aa.trans h.aa,Nat.le_trans h.size k.size,k.os.trans h.os,k.tape.trans h.tape,k.output.trans h.output,fun b e br=>?_,fun b e br=>?_,fun a J=>?_⟩
 ·rw[k.ZT b (gm e h.size) (fun K=>br (h.live b e K)),h.ZT b e br]
 ·exact h.live b e (k.live b (gm e h.size) br)
 ·rcases k.C4 a J with aD|aD|aD
  ·exact h.C4 a aD
  ·exact .inr (.inl (Nat.le_trans h.size aD))
  ·by_cases e:a.block<w.heap.size
   ·exact .inr (.inr (h.live _ e aD))
   ·exact .inr (.inl (by omega))
def Cg(κ:b9)(s:aq)(aC:Nat→ai)(a:Act):Prop:=∀t,c8 κ (s.aa+1) ((aC t).ak s.aa) (a.tmps.getD t undef)
theorem Cg.ext{κ κ':b9}{s s':aq}{w w':World}{aC:Nat→ai}{a:Act}(h:Cg κ s aC a)(e:gi κ s w κ' s' w'):Cg κ' s' aC a:=by
 intro t
 have:=(h t).mono e.k;rw[e.aa];exact this
theorem fN{a:Addr}(h:a.spot=none)(j:Nat):a.add j=⟨a.block,a.off+j,none⟩:=by
 unfold Addr.add;split
 ·subst_vars;cases a;simp_all
 ·cases a;simp_all
theorem add_add{a:Addr}(i j:Nat):(a.add i).add j=a.add (i+j):=by unfold Addr.add;by_cases bk:i=0<;> by_cases cp:j=0<;> simp_all<;> omega
theorem m6{a:Addr}(h:a.spot=none)(j:Nat):(a.add j).spot=none:=by rw[fN h]
theorem fY{α:Type}(vs:List α):∀(cs:List α) (o:Nat),(dq cs o vs).length=cs.length:=by
 induction vs with
 |nil=>intro cs o;rfl
 |cons v vs e=>intro cs o;simp [dq,e]
theorem hc{α:Type}(vs:List α):∀(cs:List α) (o:Nat),o+vs.length≤cs.length→∀j,(dq cs o vs)[j]? =if o≤j∧j<o+vs.length then vs[j-o]? else cs[j]?:=by
 induction vs with
 |nil=>intro cs o _ j;simp [dq];omega
 |cons v vs e=>
  intro cs o h j;simp only[c0] at h;simp only[dq];rw[e (cs.set o v) (o+1) (by simp;omega)];by_cases cp:j=o
  ·subst cp;rw[if_neg (by omega),if_pos (by simp)];simp only[Nat.sub_self,List.getElem?_cons_zero];rw[List.getElem?_set_self (by omega)]
  ·by_cases aD:o+1≤j∧j<o+1+vs.length
   ·rw[if_pos aD,if_pos (by simp;omega)];obtain⟨m,rfl⟩:∃m,j=o+1+m:=⟨j-(o+1),by omega⟩;simp only[show o+1+m-(o+1)=m by omega,show o+1+m-o=m+1 by omega,List.getElem?_cons_succ]
   ·rw[if_neg aD,if_neg (by simp;omega)];rw[ew (by omega)]
theorem m7(vs:List Value):∀(w:World) (b o:Nat) (C:Array Value) (e:TypeId) (lv:Nat×Nat),w.heap[b]? =some (.cells C e lv)→o+vs.length≤C.size→
  ∀h,(w.setCells b o vs).heap[h]? =if h=b then some (.cells (dq C.toList o vs).toArray e lv) else w.heap[h]?:=by
 induction vs with
 |nil=>intro w b o C e lv r _ h;simp only[World.setCells,dq];split<;> simp_all
 |cons v vs u=>
  intro w b o C e lv r y h;simp only[c0] at y;have aD:(w.setCell ⟨b,o,none⟩ v).heap[b]? =some (.cells (C.setIfInBounds o v) e lv):=by simp [World.setCell,Array.getElem?_modify,r]
  rw[World.setCells,u _ b (o+1) _ e lv aD (by simp;omega)];split
  ·simp [dq,Array.toList_setIfInBounds]
  ·rename_i cQ;simp [World.setCell,Array.getElem?_modify,Ne.symm cQ]
theorem m8(vs:List Value):∀(w:World) (b o:Nat),(w.setCells b o vs).heap.size=w.heap.size:=by
 induction vs with
 |nil=>intro w b o;rfl
 |cons v vs e=>intro w b o;simp [World.setCells,e]
theorem m9(vs:List Value):∀(w:World) (b o:Nat),(w.setCells b o vs).os=w.os∧(w.setCells b o vs).tape=w.tape∧(w.setCells b o vs).output=w.output:=by
 induction vs with
 |nil=>intro w b o;exact⟨rfl,rfl,rfl⟩
 |cons v vs e=>intro w b o;simp only[World.setCells];exact e _ b (o+1)
theorem fz{w:World}{b o:Nat}{C:Array Value}{e:TypeId}{lv:Nat×Nat}(h:w.heap[b]? =some (.cells C e lv)):w.cell? ⟨b,o,none⟩=C[o]?:=by simp [World.cell?,h]
theorem gA{w w':World}{a:Addr}(h:w'.heap[a.block]? =w.heap[a.block]?):w'.cell? a=w.cell? a:=by simp [World.cell?,h]
theorem pJ{w:World}{a:Addr}{v:Value}(h:w.cell? a=some v):a.block<w.heap.size:=by
 unfold World.cell? at h;split at h
 ·rename_i e;exact(Array.getElem?_eq_some_iff.1 e).1
 ·cases h
theorem ea.get{κ:b9}{D:Nat}{cs:List ai}{xs:List Value}(h:ea κ D cs xs){j:Nat}{c:ai}(a9:cs[j]? =some c):∃x,xs[j]? =some x∧c8 κ D c x:=by
 have cp:j<xs.length:=by rw[h.1];exact(bZ.1 a9).1
 exact⟨xs[j],dM cp,h.2 j c _ a9 (dM cp)⟩
theorem ea.mono{κ κ':b9}{D:Nat}{cs:List ai}{xs:List Value}(h:ea κ D cs xs)(k:hJ κ κ' D):ea κ' D cs xs:=
 ⟨h.1,fun j c x a9 aT=>(h.2 j c x a9 aT).mono k⟩
theorem ea.up{κ:b9}{D e:Nat}{cs:List ai}{xs:List Value}(h:ea κ D cs xs)(k:D≤e):ea κ e cs xs:=
 ⟨h.1,fun j c x a9 aT=>(h.2 j c x a9 aT).up k⟩
theorem ea.nil(κ:b9)(D:Nat):ea κ D [] []:=⟨rfl,fun j c x a9=>by simp at a9⟩
theorem ea.cons{κ:b9}{D:Nat}{c:ai}{x:Value}{cs:List ai}{xs:List Value}(h:c8 κ D c x)(bl:ea κ D cs xs):ea κ D (c::cs) (x::xs):=by
 refine⟨by simp [bl.1],fun j og nD a9 aT=>?_⟩;cases j with
 |zero=>simp at a9 aT;exact a9 ▸ aT ▸ h
 |succ j=>exact bl.2 j og nD (by simpa using a9) (by simpa using aT)
theorem ea.append{κ:b9}{D:Nat}{cs ib:List ai}{xs e:List Value}(h:ea κ D cs xs)(k:ea κ D ib e):ea κ D (cs++ib) (xs++e):=by
 refine⟨by simp [h.1,k.1],fun j c x a9 aT=>?_⟩;by_cases cp:j<cs.length
 ·rw[ev cp] at a9;rw[ev (by rw[h.1];exact cp)] at aT;exact h.2 j c x a9 aT
 ·rw[i9 (by omega)] at a9;rw[i9 (by rw[h.1];omega),h.1] at aT;exact k.2 _ c x a9 aT
theorem ea.xg{κ:b9}{D:Nat}{c:ai}{cs:List ai}{xs:List Value}(h:ea κ D (c::cs) xs):∃x e,xs=x::e∧c8 κ D c x∧ea κ D cs e:=by
 cases xs with
 |nil=>have:=h.1;simp at this
 |cons x e=>exact⟨x,e,rfl,h.2 0 c x rfl rfl,by simpa using h.1,fun j og nD a9 aT=>h.2 (j+1) og nD (by simpa using a9) (by simpa using aT)⟩
theorem ea.drop{κ:b9}{D:Nat}{cs:List ai}{xs:List Value}(h:ea κ D cs xs)(n:Nat):ea κ D (cs.drop n) (xs.drop n):=
 ⟨by simp [h.1],fun j c x a9 aT=>h.2 (n+j) c x (by simpa using a9) (by simpa using aT)⟩
theorem ea.take{κ:b9}{D:Nat}{cs:List ai}{xs:List Value}(h:ea κ D cs xs)(n:Nat):ea κ D (cs.take n) (xs.take n):=by refine⟨by simp [h.1],fun j c x a9 aT=>?_⟩;simp only[List.getElem?_take] at a9 aT;split at a9<;> simp_all;exact h.2 j c x a9 aT
theorem ea.dq{κ:b9}{D:Nat}{cs vs:List ai}{xs e:List Value}(h:ea κ D cs xs)(k:ea κ D vs e){o:Nat}(r:o+vs.length≤cs.length):ea κ D (dq cs o vs) (Ab.dq xs o e):=by
 refine⟨by simp [fY,h.1],fun j c x a9 aT=>?_⟩;rw[hc _ _ _ r] at a9;rw[hc _ _ _ (by rw[k.1,h.1];exact r),k.1] at aT;split at a9
 ·rw[if_pos (by assumption)] at aT;exact k.2 _ _ _ a9 aT
 ·rw[if_neg (by assumption)] at aT;exact h.2 _ _ _ a9 aT
theorem ea.bp{κ:b9}{D:Nat}{cs:List ai}{xs:List Value}(h:ea κ D cs xs)(aQ:ai.bj cs=true){κ':b9}(e:Nat)(kQ:∀a v,κ.F a=some v→κ'.F a=some v):ea κ' e cs xs:=
 ⟨h.1,fun j c x a9 aT=>(h.2 j c x a9 aT).bp (iW aQ a9) e kQ⟩
theorem MV.block{κ:b9}{d i:Nat}{w:World}{o:bd}{b:Nat}(h:MV κ d i w o)(r:cc κ d i o=some b):∃u,w.heap[b]? =some u:=by
 cases o with
 |cells cs=>simp only[cc,bV] at r;subst r;obtain⟨⟨C,e,lv,aD,_⟩,_⟩:=h;exact⟨_,aD⟩
 |tok n=>obtain⟨y,cap,sz,aD,_,⟨C,e,lv,aG,_⟩,_⟩:=h;simp only[cc,aD,eU,bV] at r;subst r;exact⟨_,aG⟩
 |map es=>simp only[cc,bV] at r;subst r;obtain⟨hb,clock,aD,_⟩:=h;exact⟨_,aD⟩
 |gone=>simp [cc] at r
theorem dw.kg{κ:b9}{s:aq}{w:World}(bl:dw κ s w){b:Nat}(h:Live κ s b):b<w.heap.size:=by obtain⟨d,i,o,e,r⟩:=h;obtain⟨y,u⟩:=(bl.obj d i o e).block r;exact(Array.getElem?_eq_some_iff.1 u).1
theorem MV.bf{κ κ':b9}{d i:Nat}{w w':World}{o:bd}(h:MV κ d i w o)(bk:i<κ.n d)(cg:hJ κ κ' (d+1))(cB:∀m,κ'.nB d i m=κ.nB d i m)(u:∀b,cc κ d i o=some b→w'.heap[b]? =w.heap[b]?∧∀x,κ'.F ⟨b,x,none⟩=κ.F ⟨b,x,none⟩):
  MV κ' d i w' o∧cc κ' d i o=cc κ d i o:=by
 cases o with
 |cells cs=>obtain⟨⟨C,e,lv,aD,aG,bz,y⟩,cz⟩:=h;have br:=cg.loc d i (Nat.lt_succ_self d) bk;obtain⟨bU,r⟩:=u _ rfl;refine⟨⟨⟨C,e,lv,by rw[br,bU,aD],aG,bz.mono cg,fun m b cap sz hm=>y m b cap sz (by rw[←cB];exact hm)⟩,fun o=>by rw[br,r,cz]⟩,by simp [cc,br]⟩
 |tok n=>obtain⟨b,cap,sz,aD,cL,⟨C,e,lv,aG,bz,cz⟩,y,B⟩:=h;have br:=cg.nB d i n _ (Nat.lt_succ_self d) bk aD;obtain⟨bU,r⟩:=u b (by simp [cc,aD]);exact⟨⟨b,cap,sz,br,cL,⟨C,e,lv,by rw[bU,aG],bz,cz⟩,fun o H=>by rw[r,y o H],fun m hm=>by rw[cB,B m hm]⟩,by simp [cc,aD,br]⟩
 |map es=>obtain⟨hb,clock,aD,aG⟩:=h;have br:=cg.loc d i (Nat.lt_succ_self d) bk;obtain⟨bU,r⟩:=u _ rfl;exact⟨⟨hb,clock,by rw[br,bU,aD],aG.mono cg⟩,by simp [cc,br]⟩
 |gone=>exact⟨trivial,rfl⟩
theorem dw.r4{κ:b9}{s:aq}{w:World}(bl:dw κ s w){d i:Nat}{o:bd}(h:s.get (.g d i)=some o):i<κ.n d:=by
 rw[aq.oW] at h;cases br:s.aC d with
 |none=>simp [br] at h
 |some l=>rw[br] at h;rw[←bl.len d l br];exact(bZ.1 h).1
theorem aq.jr{s:aq}{d i:Nat}{o:bd}(h:s.get (.g d i)=some o):d≤s.aa:=by
 rcases Nat.lt_trichotomy d s.aa with aD|aD|aD
 ·omega
 ·omega
 ·have aG:d≠s.aa:=by omega
  have bz:¬d<s.aa:=by omega
  simp [aq.get,aG,bz] at h
theorem dw.RM{κ:b9}{s:aq}{w:World}(bl:dw κ s w){d i:Nat}{o:bd}(h:s.get (.g d i)=some o):d<s.aa+1∧i<κ.n d:=⟨by have:=aq.jr h;omega,bl.r4 h⟩
theorem dw.world{κ κ':b9}{s:aq}{w w':World}(bl:dw κ s w)(cg:hJ κ κ' (s.aa+1))(bX:κ'.n=κ.n)(cB:κ'.nB=κ.nB)(kQ:∀a v,κ'.F a=some v→a.spot=none∧w'.cell? a=some v)
  (u:∀b,Live κ s b→w'.heap[b]? =w.heap[b]?∧∀x,κ'.F ⟨b,x,none⟩=κ.F ⟨b,x,none⟩):dw κ' s w':=by
 have key:∀d i o,s.get (.g d i)=some o→MV κ' d i w' o∧cc κ' d i o=cc κ d i o:=fun d i o h=>(bl.obj d i o h).bf (bl.r4 h) (cg.low (by have:=aq.jr h;omega)) (fun m=>by rw[cB]) (fun b y=>u b ⟨d,i,o,h,y⟩)
 refine⟨kQ,fun d l h=>by rw[bX];exact bl.len d l h,fun d i o h=>(key d i o h).1,fun d i o ga kf o' b h r e hN=>?_⟩;rw[(key d i o h).2] at e;rw[(key ga kf o' r).2] at hN;exact bl.inj d i o ga kf o' b h r e hN
def b9.freeze(κ:b9)(b eQ:Nat)(C:Array Value):b9:=
 {κ with F:=fun a=>if a.block=b∧a.spot=none∧eQ≤a.off∧a.off<C.size then C[a.off]? else κ.F a}
theorem oX{κ:b9}{b eQ j:Nat}{C:Array Value}(h:eQ≤j)(cp:j<C.size):(κ.freeze b eQ C).F ⟨b,j,none⟩=some C[j]:=by simp [b9.freeze,h,cp]
theorem hJ.freeze{κ:b9}{b eQ:Nat}{C:Array Value}(e:∀j,eQ≤j→κ.F ⟨b,j,none⟩=none)(D:Nat):hJ κ (κ.freeze b eQ C) D:=by
 refine⟨fun a v h=>?_,fun _ _=>aX _,fun _ _ _ _=>rfl,fun _ _ _ _ _ _ h=>h⟩;simp only[b9.freeze];split
 ·rename_i a9;have aD:=e a.off a9.2.2.1
  have:a=⟨b,a.off,none⟩:=by cases a;simp_all
  rw[this,aD] at h;cases h
 ·exact h
theorem dw.ru{κ:b9}{s:aq}{w:World}(bl:dw κ s w){a:Addr}(h:w.heap.size≤a.block):κ.F a=none:=by
 cases e:κ.F a with
 |none=>rfl
 |some v=>have:=pJ (bl.jq a v e).2;omega
theorem dw.r5{κ:b9}{s:aq}{w w':World}(bl:dw κ s w)(C:Array Value)(e:TypeId)(lv:Nat×Nat)(hw:w'.heap=w.heap.push (.cells C e lv))(u:w'.os=w.os)(cB:w'.tape=w.tape)(hu:w'.output=w.output):
  dw (κ.freeze w.heap.size 0 C) s w'∧gi κ s w (κ.freeze w.heap.size 0 C) s w':=by
 have hold:∀b,b<w.heap.size→w'.heap[b]? =w.heap[b]?:=fun b r=>by rw[hw,Array.getElem?_push];simp [Nat.ne_of_lt r]
 have y:w'.heap[w.heap.size]? =some (.cells C e lv):=by rw[hw];simp
 have cg:∀D,hJ κ (κ.freeze w.heap.size 0 C) D:=fun D=>hJ.freeze (fun j _=>bl.ru (aX _)) D
 refine⟨bl.world (cg _) rfl rfl (fun a v h=>?_) (fun b r=>⟨hold b (bl.kg r),fun x=>?_⟩),⟨cg _,rfl,by rw[hw];simp,u,cB,hu,fun b r _=>hold b r,fun b _ h=>h,fun a h=>?_⟩⟩
 ·simp only[b9.freeze] at h;split at h
  ·rename_i a9;refine⟨a9.2.1,?_⟩;have B:a=⟨w.heap.size,a.off,none⟩:=by cases a;simp_all
   rw[B,fz y];exact h
  ·obtain⟨aD,aG⟩:=bl.jq a v h;exact⟨aD,by rw[gA (hold _ (pJ aG))];exact aG⟩
 ·have:=bl.kg r;simp [b9.freeze,Nat.ne_of_lt this]
 ·simp only[b9.freeze] at h;split at h
  ·rename_i a9;exact .inr (.inl (by omega))
  ·exact .inl h
theorem dw.same{κ:b9}{s:aq}{w w':World}(bl:dw κ s w)(hw:w'.heap=w.heap)(e:w'.os=w.os)(cB:w'.tape=w.tape)(hu:w'.output=w.output):dw κ s w'∧gi κ s w κ s w':=by refine⟨bl.world (.refl _ _) rfl rfl (fun a v h=>?_) (fun b _=>⟨by rw[hw],fun _=>rfl⟩),⟨.refl _ _,rfl,by rw[hw];exact aX _,e,cB,hu,fun b _ _=>by rw[hw],fun _ _ h=>h,fun _ h=>.inl h⟩⟩;obtain⟨aD,aG⟩:=bl.jq a v h;exact⟨aD,by rw[gA (w:=w) (by rw[hw])];exact aG⟩
theorem aq.M0(s:aq)(o:bd):(s.new o).aa=s.aa:=rfl
theorem aq.ai4(s:aq)(o:bd)(d:Nat):(s.new o).aC d=if d=s.aa then some (s.own++[o]) else s.aC d:=by
 unfold aq.aC;simp only[aq.M0];by_cases bI:d=s.aa
 ·simp [bI,aq.new]
 ·simp only[bI,↓reduceIte];rfl
structure iG (s s':aq) (d i:Nat) (o:bd):Prop where
 aa:s'.aa=s.aa
 le:d≤s.aa
 aC:∀ga,s'.aC ga=if ga=d then(s.aC ga).map (· ++ [o]) else s.aC ga
 here:∃l,s.aC d=some l∧l.length=i
theorem iG.new(s:aq)(o:bd):iG s (s.new o) s.aa s.own.length o:=by
 refine⟨rfl,aX _,fun ga=>?_,s.own,by simp [aq.aC],rfl⟩;rw[aq.ai4];split
 ·rename_i h;subst h;simp [aq.aC]
 ·rfl
theorem iG.get{s s':aq}{d i:Nat}{o:bd}(h:iG s s' d i o)(ga kf:Nat):s'.get (.g ga kf)=if ga=d∧kf=i then some o else s.get (.g ga kf):=by
 rw[aq.oW,aq.oW,h.aC];obtain⟨l,aD,aG⟩:=h.here;by_cases bI:ga=d
 ·subst bI;simp only[↓reduceIte,aD,eU,hk,true_and];by_cases bk:kf=i
  ·subst bk;simp [aG]
  ·rw[if_neg bk];by_cases e:kf<l.length
   ·rw[ev e]
   ·rw[List.getElem?_eq_none (by simp;omega),List.getElem?_eq_none (by omega)]
 ·simp [bI]
theorem iG.by{s s':aq}{a l:Loc}{o:bd}(h:s.gg a o=some (l,s')):∃d i,l.ak s.aa=.g d i∧iG s s' d i o:=by
 cases a with
 |l j=>simp only[aq.gg,bV,e8] at h;obtain⟨rfl,rfl⟩:=h;exact⟨_,_,rfl,iG.new s o⟩
 |g d j=>
  simp only[aq.gg] at h;split at h
  ·simp only[bV,e8] at h;obtain⟨rfl,rfl⟩:=h;exact⟨_,_,rfl,iG.new s o⟩
  ·rename_i cQ;split at h
   ·rename_i a9;cases br:s.up[s.aa-1-d]? with
    |none=>rw[br] at h;cases h
    |some uT=>
     rw[br] at h;simp only[bV,e8] at h;obtain⟨rfl,rfl⟩:=h;have hlen:s.aa=s.up.length+s.ro.length:=rfl;have r:s.aa-1-d<s.up.length:=by omega
     have B:s.aC d=some uT:=by simp only[aq.aC,cQ,↓reduceIte,a9.1];rw[ev r,br]
     have y:({s with up:=s.up.modify (s.aa-1-d) (· ++ [o])}:aq).aa=s.aa:=by simp [aq.aa]
     refine⟨d,uT.length,rfl,y,by omega,fun ga=>?_,uT,B,rfl⟩;unfold aq.aC;rw[y];by_cases aD:ga=s.aa
     ·have:¬s.aa=d:=fun e=>cQ e.symm
      simp [aD,this]
     ·by_cases bz:ga<s.aa
      ·simp only[aD,↓reduceIte,bz];by_cases cz:ga=d
       ·subst cz;simp only[↓reduceIte];rw[ev (by simpa using r),ev r,List.getElem?_modify];simp
       ·simp only[cz,↓reduceIte];by_cases u:s.aa-1-ga<s.up.length
        ·rw[ev (by simpa using u),ev u,List.getElem?_modify];have dQ:¬s.aa-1-d=s.aa-1-ga:=by omega
         simp [dQ]
        ·rw[i9 (by simpa using u),i9 (by omega)];simp
      ·have:¬ga=d:=by omega
       simp [aD,bz,this]
   ·cases h
theorem dw.newObj{κ κ':b9}{s:aq}{w w':World}(bl:dw κ s w)(o:bd)(cg:hJ κ κ' (s.aa+1)){s':aq}{H L:Nat}(y:iG s s' H L o)(bX:∀d,κ'.n d=if d=H then κ.n d+1 else κ.n d)(Q:∀d i m,i<κ.n d→κ'.nB d i m=κ.nB d i m)
  (kQ:κ'.F=κ.F∨∃eQ C,(κ'.F=(κ.freeze w.heap.size eQ C).F)∧∃M e lv,w'.heap[w.heap.size]? =some (.cells M e lv)∧∀(j:Nat) (x:Value),C[j]? =some x→M[j]? =some x)(hold:∀b,b<w.heap.size→w'.heap[b]? =w.heap[b]?)(dY:w.heap.size≤w'.heap.size)(R:w'.os=w.os)(cB:w'.tape=w.tape)(hu:w'.output=w.output)
  (U:MV κ' H L w' o)(u:∀b,cc κ' H L o=some b→w.heap.size≤b):dw κ' s' w'∧gi κ s w κ' s' w':=by
 have V:∀b x,b<w.heap.size→κ'.F ⟨b,x,none⟩=κ.F ⟨b,x,none⟩:=by
  intro b x u;rcases kQ with kQ|⟨eQ,C,kQ,_⟩
  ·rw[kQ]
  ·rw[kQ];simp [b9.freeze,Nat.ne_of_lt u]
 have key:∀d i o,s.get (.g d i)=some o→MV κ' d i w' o∧cc κ' d i o=cc κ d i o:=fun d i o h=>(bl.obj d i o h).bf (bl.r4 h) (cg.low (by have:=aq.jr h;omega)) (fun m=>Q d i m (bl.r4 h)) (fun b O=>by have I:=bl.kg ⟨d,i,o,h,O⟩;exact⟨hold b I,fun x=>V b x I⟩)
 refine⟨⟨fun a v h=>?_,fun d l h=>?_,fun d i o' h=>?_,fun d i J ga kf K b h r e hN=>?_⟩,⟨cg,y.aa,dY,R,cB,hu,fun b u _=>hold b u,fun b O br=>?_,fun a B=>?_⟩⟩
 ·rcases kQ with kQ|⟨eQ,C,kQ,M,e,lv,ku,Y⟩
  ·rw[kQ] at h;obtain⟨aD,aG⟩:=bl.jq a v h;exact⟨aD,by rw[gA (hold _ (pJ aG))];exact aG⟩
  ·rw[kQ] at h;simp only[b9.freeze] at h;split at h
   ·rename_i a9;refine⟨a9.2.1,?_⟩;have B:a=⟨w.heap.size,a.off,none⟩:=by cases a;simp_all
    rw[B,fz ku];exact Y _ _ h
   ·obtain⟨aD,aG⟩:=bl.jq a v h;exact⟨aD,by rw[gA (hold _ (pJ aG))];exact aG⟩
 ·rw[y.aC] at h;rw[bX];split at h
  ·rename_i bI;cases bq:s.aC d with
   |none=>rw[bq] at h;cases h
   |some l'=>rw[bq] at h;simp only[eU,bV] at h;rw[←h,if_pos bI,←bl.len d l' bq];simp
  ·rename_i bI;rw[if_neg bI];exact bl.len d l h
 ·rw[y.get] at h;split at h
  ·rename_i a9;obtain⟨rfl,rfl⟩:=a9;simp only[bV] at h;exact h ▸ U
  ·exact(key d i o' h).1
 ·rw[y.get] at h r;split at h
  ·rename_i a9;obtain⟨rfl,rfl⟩:=a9;simp only[bV] at h;subst h;split at r
   ·rename_i lx;exact⟨lx.1.symm,lx.2.symm⟩
   ·rw[(key ga kf K r).2] at hN
    have:=bl.kg ⟨ga,kf,K,r,hN⟩
    have:=u b e;omega
  ·split at r
   ·rename_i lx;obtain⟨rfl,rfl⟩:=lx;simp only[bV] at r;subst r;rw[(key d i J h).2] at e
    have:=bl.kg ⟨d,i,J,h,e⟩
    have:=u b hN;omega
   ·rw[(key d i J h).2] at e;rw[(key ga kf K r).2] at hN;exact bl.inj d i J ga kf K b h r e hN
 ·obtain⟨d,i,o',bD,N⟩:=br;rw[y.get] at bD;split at bD
  ·rename_i a9;obtain⟨rfl,rfl⟩:=a9;simp only[bV] at bD;subst bD
   have:=u b N;omega
  ·rw[(key d i o' bD).2] at N;exact⟨d,i,o',bD,N⟩
 ·by_cases I:a.block<w.heap.size
  ·left
   rcases kQ with kQ|⟨eQ,C,kQ,_⟩
   ·rwa [kQ] at B
   ·rw[kQ] at B;simpa [b9.freeze,Nat.ne_of_lt I] using B
  ·exact .inr (.inl (by omega))
theorem dw.vC{κ:b9}{s:aq}{w w':World}(bl:dw κ s w)(cs:List ai)(C:Array Value)(e:TypeId)(a9:ea κ (s.aa+1) cs C.toList)(hw:w'.heap=w.heap.push (.cells C e (0,0)))(u:w'.os=w.os)(cB:w'.tape=w.tape)(hu:w'.output=w.output):
  ∃κ',dw κ' (s.new (.cells cs)) w'∧gi κ s w κ' (s.new (.cells cs)) w'∧κ'.loc s.aa s.own.length=w.heap.size∧s.own.length<κ'.n s.aa:=by
 have y:s.own.length=κ.n s.aa:=bl.len s.aa s.own (by simp [aq.aC])
 let κ':b9:={κ with n:=fun d=>if d=s.aa then κ.n d+1 else κ.n d,loc:=fun d i=>if d=s.aa∧i=s.own.length then w.heap.size else κ.loc d i,nB:=fun d i m=>if d=s.aa∧i=s.own.length then none else κ.nB d i m}
 have cQ:∀d i,i<κ.n d→¬(d=s.aa∧i=s.own.length):=by
  rintro d i bk ⟨rfl,rfl⟩
  omega
 have cg:hJ κ κ' (s.aa+1):=by
  refine⟨fun _ _ h=>h,fun d _=>?_,fun d i _ bk=>?_,fun d i n x _ bk h=>?_⟩
  ·simp only[κ'];split<;> omega
  ·simp only[κ'];rw[if_neg (cQ d i bk)]
  ·simp only[κ'];rw[if_neg (cQ d i bk)];exact h
 have B:w'.heap[w.heap.size]? =some (.cells C e (0,0)):=by rw[hw];simp
 refine⟨κ',?_⟩
 have:=bl.newObj (κ':=κ') (w':=w') (.cells cs) cg (iG.new s _) (fun d=>rfl) (fun d i m bk=>if_neg (cQ d i bk)) (.inl rfl) (fun b r=>by rw[hw,Array.getElem?_push];simp [Nat.ne_of_lt r]) (by rw[hw];simp) u cB hu
  ⟨⟨C,e,(0,0),by simp [κ',B],fun j _=>by simp,by rw[show C.toList.take cs.length=C.toList from gG (by rw[a9.1];exact aX _)];exact a9.mono cg,fun m b cap sz h=>by simp [κ'] at h⟩,fun o=>bl.ru (by simp [κ'])⟩ (fun b r=>by simp [cc,κ'] at r;omega)
 exact⟨this.1,this.2,by simp [κ'],by simp [κ',y]⟩
theorem aq.lY(s:aq)(a:Loc)(o:bd):s.set (a.ak s.aa) o=s.set a o:=by
 cases a with
 |l i=>simp [Loc.ak,aq.set]
 |g d i=>rfl
theorem vD(l:List (List bd))(n i:Nat)(o:bd)(m:Nat):(l.modify n (·.set i o))[m]? =if m=n then(l[m]?).map (·.set i o) else l[m]?:=by
 rw[List.getElem?_modify];by_cases h:m=n
 ·simp [h]
 ·simp [h,Ne.symm h]
theorem aq.yb{s s':aq}{d i:Nat}{o:bd}(h:s.set (.g d i) o=some s'):s'.aa=s.aa∧∀ga,s'.aC ga=if ga=d then(s.aC ga).map (·.set i o) else s.aC ga:=by
 by_cases bI:d=s.aa
 ·simp only[aq.set,bI,↓reduceIte,bV] at h;subst h;refine⟨rfl,fun ga=>?_⟩;by_cases aD:ga=s.aa
  ·simp [aq.aC,aq.aa,aD,bI]
  ·have B:¬ga=s.up.length+s.ro.length:=aD;simp only[aq.aC,aq.aa,B,bI,↓reduceIte];rfl
 ·by_cases aG:d<s.aa∧s.ro.length≤d
  ·simp only[aq.set,bI,↓reduceIte,aG,and_self,bV] at h;subst h;have u:({s with up:=s.up.modify (s.aa-1-d) (·.set i o)}:aq).aa=s.aa:=by simp [aq.aa]
   refine⟨u,fun ga=>?_⟩;unfold aq.aC;rw[u];by_cases aD:ga=s.aa
   ·have:¬s.aa=d:=fun e=>bI e.symm
    simp [aD,this]
   ·by_cases bz:ga<s.aa
    ·have hlen:s.aa=s.up.length+s.ro.length:=rfl;have y:s.aa-1-d<s.up.length:=by omega
     simp only[aD,↓reduceIte,bz];by_cases cz:ga=d
     ·subst cz;simp only[↓reduceIte];rw[ev (by simpa using y),ev y,vD];simp
     ·simp only[cz,↓reduceIte];by_cases r:s.aa-1-ga<s.up.length
      ·rw[ev (by simpa using r),ev r,vD,if_neg (by omega)]
      ·rw[i9 (by simpa using r),i9 (by omega)];simp
    ·by_cases cz:ga=d
     ·exact absurd (cz ▸ aG.1) bz
     ·simp [aD,bz,cz]
  ·have bz:¬(d<s.aa∧s.ro.length≤d):=aG;simp [aq.set,bI,bz] at h
theorem aq.yc{s s':aq}{d i:Nat}{o u:bd}(h:s.set (.g d i) o=some s')(bD:s.get (.g d i)=some u)(ga kf:Nat):s'.get (.g ga kf)=if ga=d∧kf=i then some o else s.get (.g ga kf):=by
 rw[aq.oW,(aq.yb h).2 ga,aq.oW];by_cases bI:ga=d
 ·subst bI;rw[aq.oW] at bD;cases bq:s.aC ga with
  |none=>simp [bq] at bD
  |some l=>
   rw[bq] at bD;simp only[hk] at bD;have bk:i<l.length:=(bZ.1 bD).1;simp only[↓reduceIte,eU,hk,true_and];by_cases r:kf=i
   ·subst r;simp [bk]
   ·rw[if_neg r,ew (fun e=>r e.symm)]
 ·simp [bI]
theorem dw.setObj{κ κ':b9}{s s':aq}{w w':World}(bl:dw κ s w){d i:Nat}{o o':bd}(bD:s.get (.g d i)=some o)(Q:s.set (.g d i) o'=some s')(cg:hJ κ κ' (s.aa+1))(bX:κ'.n=κ.n)
  (Y:∀ga kf m,¬(ga=d∧kf=i)→κ'.nB ga kf m=κ.nB ga kf m)(kQ:∀a v,κ'.F a=some v→a.spot=none∧w'.cell? a=some v)
  (hold:∀b,b<w.heap.size→cc κ d i o≠some b→w'.heap[b]? =w.heap[b]?∧∀x,κ'.F ⟨b,x,none⟩=κ.F ⟨b,x,none⟩)
  (dY:w.heap.size≤w'.heap.size)(Z:w'.os=w.os)(cB:w'.tape=w.tape)(hu:w'.output=w.output)
  (ab:MV κ' d i w' o')(H:∀b,cc κ' d i o'=some b→cc κ d i o=some b∨w.heap.size≤b):dw κ' s' w'∧gi κ s w κ' s' w':=by
 have L:=aq.yc Q bD;obtain⟨ac,b7⟩:=aq.yb Q;have key:∀r u y,¬(r=d∧u=i)→s.get (.g r u)=some y→MV κ' r u w' y∧cc κ' r u y=cc κ r u y:=fun r u y cQ h=>(bl.obj r u y h).bf (bl.r4 h) (cg.low (by have:=aq.jr h;omega)) (fun m=>Y r u m cQ) (fun b M=>by have N:=bl.kg ⟨r,u,y,h,M⟩;exact hold b N (fun e=>cQ (bl.inj r u y d i o b h bD M e)))
 refine⟨⟨kQ,fun r l h=>?_,fun r u y h=>?_,fun r u y I J K b h B e hN=>?_⟩,⟨cg,ac,dY,Z,cB,hu,fun b H br=>(hold b H (fun e=>br ⟨d,i,o,bD,e⟩)).1,fun b M br=>?_,fun a R=>?_⟩⟩
 ·rw[b7] at h;rw[bX];split at h
  ·cases bq:s.aC r with
   |none=>simp [bq] at h
   |some l'=>rw[bq] at h;simp only[eU,bV] at h;rw[←h];simpa using bl.len r l' bq
  ·exact bl.len r l h
 ·rw[L] at h;split at h
  ·rename_i a9;obtain⟨rfl,rfl⟩:=a9;simp only[bV] at h;exact h ▸ ab
  ·rename_i a9;exact(key r u y a9 h).1
 ·rw[L] at h B;split at h
  ·rename_i a9;obtain⟨rfl,rfl⟩:=a9;simp only[bV] at h;subst h;split at B
   ·rename_i lx;exact⟨lx.1.symm,lx.2.symm⟩
   ·rename_i lx;rw[(key I J K lx B).2] at hN;rcases H b e with aD|aD
    ·obtain⟨aG,bz⟩:=bl.inj I J K _ _ o b B bD hN aD;exact absurd ⟨aG,bz⟩ lx
    ·have:=bl.kg ⟨I,J,K,B,hN⟩;omega
  ·rename_i a9;rw[(key r u y a9 h).2] at e;split at B
   ·rename_i lx;obtain⟨rfl,rfl⟩:=lx;simp only[bV] at B;subst B;rcases H b hN with aD|aD
    ·obtain⟨aG,bz⟩:=bl.inj r u y _ _ o b h bD e aD;exact absurd ⟨aG,bz⟩ a9
    ·have:=bl.kg ⟨r,u,y,h,e⟩;omega
   ·rename_i lx;rw[(key I J K lx B).2] at hN;exact bl.inj r u y I J K b h B e hN
 ·obtain⟨r,u,y,h,O⟩:=br;rw[L] at h;split at h
  ·rename_i a9;obtain⟨rfl,rfl⟩:=a9;simp only[bV] at h;subst h;rcases H b O with aD|aD
   ·exact⟨_,_,o,bD,aD⟩
   ·omega
  ·rename_i a9;rw[(key r u y a9 h).2] at O;exact⟨r,u,y,h,O⟩
 ·by_cases N:a.block<w.heap.size
  ·by_cases U:cc κ d i o=some a.block
   ·exact .inr (.inr ⟨d,i,o,bD,U⟩)
   ·left
    cases aT:κ'.F a with
    |none=>exact absurd aT R
    |some v=>
     have ad:=(kQ a v aT).1;have aD:=(hold a.block N U).2 a.off;have V:a=⟨a.block,a.off,none⟩:=by cases a;simp_all
     rw[V,←aD,←V];exact R
  ·exact .inr (.inl (by omega))
theorem r6{α:Type}:∀(l:List α) (off:Nat) (xs:List α) (n:Nat),off+xs.length≤n→(dq l off xs).take n=dq (l.take n) off xs
 |l,off,[],n,_=>rfl
 |l,off,x::xs,n,h=>by simp only[dq];rw[r6 _ _ xs n (by simp at h;omega)];congr 1;rw[List.take_set]
theorem dw.store{κ:b9}{s s':aq}{w:World}(bl:dw κ s w){d i off:Nat}{cs vs:List ai}{xs:List Value}(bD:s.get (.g d i)=some (.cells cs))(y:s.set (.g d i) (.cells (dq cs off vs))=some s')
  (bG:ea κ (d+1) vs xs)(B:off+vs.length≤cs.length):dw κ s' (w.setCells (κ.loc d i) off xs)∧gi κ s w κ s' (w.setCells (κ.loc d i) off xs):=by
 obtain⟨⟨C,e,lv,aD,aG,bz,H⟩,cz⟩:=bl.obj d i _ bD;have M:xs.length=vs.length:=bG.1;have N:cs.length≤C.size:=by have:=bz.1;simp at this;omega
 have r:=m7 xs w (κ.loc d i) off C e lv aD (by omega);obtain⟨hG,oY,I⟩:=m9 xs w (κ.loc d i) off;refine bl.setObj bD y (.refl _ _) rfl (fun _ _ _ _=>rfl) (fun a v h=>?_) (fun b _ u=>⟨?_,fun _=>rfl⟩) (by rw[m8];exact aX _) hG oY I ⟨⟨(dq C.toList off xs).toArray,e,lv,by rw[r];simp,by simpa [fY] using aG,by simpa [fY,r6 C.toList off xs cs.length (by omega)] using bz.dq bG B,fun m b cap sz hm=>by simpa [fY] using H m b cap sz hm⟩,cz⟩ (fun b u=>.inl u)
 ·obtain⟨J,K⟩:=bl.jq a v h;refine⟨J,?_⟩;rw[gA (w:=w) ?_]
  ·exact K
  ·rw[r,if_neg];intro bU;have L:a=⟨κ.loc d i,a.off,none⟩:=by cases a;simp_all
   rw[L,cz] at h;cases h
 ·rw[r,if_neg (fun bU=>u (by simp [cc,bU]))]
theorem dw.yd{κ:b9}{s s':aq}{w:World}(bl:dw κ s w){d i:Nat}{cs:List ai}(bD:s.get (.g d i)=some (.cells cs))(u:s.set (.g d i) .gone=some s'):
  ∃C e lv,w.heap[κ.loc d i]? =some (.cells C e lv)∧ea κ (d+1) cs (C.toList.take cs.length)∧dw (κ.freeze (κ.loc d i) 0 C) s' w∧gi κ s w (κ.freeze (κ.loc d i) 0 C) s' w:=by
 obtain⟨⟨C,e,lv,aD,aG,bz,_⟩,cz⟩:=bl.obj d i _ bD;refine⟨C,e,lv,aD,bz,?_⟩;refine bl.setObj bD u (hJ.freeze (fun j _=>cz j) _) rfl (fun _ _ _ _=>rfl) (fun a v h=>?_) (fun b _ r=>⟨rfl,fun x=>?_⟩) (aX _) rfl rfl rfl trivial (fun b r=>by simp [cc] at r)
 ·simp only[b9.freeze] at h;split at h
  ·rename_i a9;refine⟨a9.2.1,?_⟩;have y:a=⟨κ.loc d i,a.off,none⟩:=by cases a;simp_all
   rw[y,fz aD];exact h
  ·exact bl.jq a v h
 ·simp only[cc,ne_eq,bV] at r;simp [b9.freeze,Ne.symm r]
theorem dw.ai5{κ:b9}{s s':aq}{w w':World}(bl:dw κ s w){r u:Nat}(B:iG s s' r u (.map []))(hw:w'.heap=w.heap.push (.map #[] 0))(H:w'.os=w.os)(cB:w'.tape=w.tape)(hu:w'.output=w.output):
  ∃κ',dw κ' s' w'∧gi κ s w κ' s' w'∧κ'.loc r u=w.heap.size∧u<κ'.n r:=by
 have I:u=κ.n r:=by obtain⟨l,aD,aG⟩:=B.here;rw[←aG];exact bl.len r l aD
 let κ':b9:={κ with n:=fun d=>if d=r then κ.n d+1 else κ.n d,loc:=fun d i=>if d=r∧i=u then w.heap.size else κ.loc d i}
 have cg:hJ κ κ' (s.aa+1):=by
  refine⟨fun _ _ h=>h,fun d _=>?_,fun d i _ bk=>?_,fun _ _ _ _ _ _ h=>h⟩
  ·simp only[κ'];split<;> omega
  ·simp only[κ'];rw[if_neg]
   rintro ⟨rfl,rfl⟩
   omega
 have J:w'.heap[w.heap.size]? =some (.map #[] 0):=by rw[hw];simp
 refine⟨κ',?_⟩
 have:=bl.newObj (κ':=κ') (w':=w') (.map []) cg B (fun d=>rfl) (fun _ _ _ _=>rfl) (.inl rfl) (fun b y=>by rw[hw,Array.getElem?_push];simp [Nat.ne_of_lt y]) (by rw[hw];simp) H cB hu
  ⟨#[],0,by simp [κ',J],rfl,fun j p e aU=>by simp at aU⟩ (fun b y=>by simp [cc,κ'] at y;omega)
 exact⟨this.1,this.2,by simp [κ'],by simp [κ',I]⟩
theorem dw.RN{κ:b9}{s s':aq}{w:World}(bl:dw κ s w){d i:Nat}{es B:List (ai×ai)}{hb:Array MapEntry}{clock:Nat}(bD:s.get (.g d i)=some (.map es))(H:s.set (.g d i) (.map B)=some s')(hm:m5 κ (d+1) B hb.toList):
  dw κ s' {w with heap:=w.heap.setIfInBounds (κ.loc d i) (.map hb clock)}∧gi κ s w κ s' {w with heap:=w.heap.setIfInBounds (κ.loc d i) (.map hb clock)}:=by
 obtain⟨K,L,aD,aG⟩:=bl.obj d i _ bD;have I:κ.loc d i<w.heap.size:=(Array.getElem?_eq_some_iff.1 aD).1;have u:∀b,(w.heap.setIfInBounds (κ.loc d i) (.map hb clock))[b]? =if b=κ.loc d i then some (.map hb clock) else w.heap[b]?:=by
  intro b;rw[Array.getElem?_setIfInBounds];by_cases r:κ.loc d i=b
  ·subst r;simp [I]
  ·have:¬b=κ.loc d i:=fun e=>r e.symm
   simp [r,this]
 refine bl.setObj (w':={w with heap:=w.heap.setIfInBounds (κ.loc d i) (.map hb clock)}) bD H (.refl _ _) rfl (fun _ _ _ _=>rfl) (fun a v h=>?_) (fun b _ r=>⟨?_,fun _=>rfl⟩) (by simp) rfl rfl rfl ⟨hb,clock,by simp [u],hm⟩ (fun b r=>.inl r)
 ·obtain⟨J,y⟩:=bl.jq a v h;refine⟨J,?_⟩;rw[gA (w:=w) ?_]
  ·exact y
  ·show(w.heap.setIfInBounds _ _)[_]? =_;rw[u,if_neg];intro bU
   have:w.cell? a=none:=by simp [World.cell?,bU,aD]
   rw[this] at y;cases y
 ·show(w.heap.setIfInBounds _ _)[_]? =_;rw[u,if_neg (fun bU=>r (by simp [cc,bU]))]
theorem dw.RO{κ:b9}{s:aq}{w w':World}(bl:dw κ s w){s':aq}{r u:Nat}(C:Array Value)(e:TypeId)(n sz cap:Nat)(B:iG s s' r u (.tok n))(ku:C.size=cap*sz)(bX:n≤cap)(hw:w'.heap=w.heap.push (.cells C e (0,0)))(J:w'.os=w.os)(cB:w'.tape=w.tape)(hu:w'.output=w.output):
  ∃κ',dw κ' s' w'∧gi κ s w κ' s' w'∧u<κ'.n r∧κ'.nB r u n=some (⟨w.heap.size,0,none⟩,cap,sz)∧∀j,j<n*sz→κ'.F ⟨w.heap.size,j,none⟩=C[j]?:=by
 have K:u=κ.n r:=by obtain⟨l,aD,aG⟩:=B.here;rw[←aG];exact bl.len r l aD
 have hle:n*sz≤C.size:=by rw[ku];exact e7 _ bX
 have H:((C.toList.take (n*sz)).toArray).size=n*sz:=by simp;omega
 let κ':b9:={(κ.freeze w.heap.size 0 (C.toList.take (n*sz)).toArray) with n:=fun d=>if d=r then κ.n d+1 else κ.n d,nB:=fun d i m=>if d=r∧i=u then(if m=n then some (⟨w.heap.size,0,none⟩,cap,sz) else none) else κ.nB d i m}
 have cg:hJ κ κ' (s.aa+1):=by
  refine⟨fun a v h=>?_,fun d _=>?_,fun _ _ _ _=>rfl,fun d i m x _ bk h=>?_⟩
  ·exact(hJ.freeze (fun j _=>bl.ru (aX _)) (s.aa+1)).F a v h
  ·simp only[κ'];split<;> omega
  ·simp only[κ'];rw[if_neg]
   ·exact h
   ·rintro ⟨rfl,rfl⟩;omega
 have I:w'.heap[w.heap.size]? =some (.cells C e (0,0)):=by rw[hw];simp
 have L:∀j,j<n*sz→κ'.F ⟨w.heap.size,j,none⟩=C[j]?:=by intro j cp;simp only[κ',b9.freeze];rw[if_pos (⟨trivial,trivial,Nat.zero_le _,by rw[H];exact cp⟩:True∧True∧0≤j∧j<((C.toList.take (n*sz)).toArray).size)];simp [cp]
 have hold:∀b,b<w.heap.size→w'.heap[b]? =w.heap[b]?:=fun b y=>by rw[hw,Array.getElem?_push];simp [Nat.ne_of_lt y]
 refine⟨κ',?_⟩;have main:=bl.newObj (κ':=κ') (w':=w') (.tok n) cg B (fun d=>rfl) (fun d i m bk=>?_) ?kQ hold (by rw[hw];simp) J cB hu
  ⟨w.heap.size,cap,sz,by simp [κ'],bX,⟨C,e,(0,0),I,ku,fun j _=>by simp⟩,fun o aD=>?_,fun m hm=>?_⟩ (fun b y=>?_)
 case kQ=>exact .inr ⟨0,(C.toList.take (n*sz)).toArray,rfl,C,e,(0,0),I,fun j x aT=>by
  rw[List.getElem?_toArray,List.getElem?_take] at aT;split at aT
  ·simpa using aT
  ·cases aT⟩
 ·exact⟨main.1,main.2,by simp [κ',K],by simp [κ'],L⟩
 ·simp only[κ'];rw[if_neg]
  rintro ⟨rfl,rfl⟩
  omega
 ·simp only[κ',b9.freeze];rw[if_neg (by intro h;have:=h.2.2.2;rw[H] at this;omega)];exact bl.ru (aX _)
 ·simp only[κ'];rw[if_pos (by simp),if_neg (by omega)]
 ·simp [cc,κ'] at y;omega
theorem dw.abk{κ:b9}{s s':aq}{w:World}(bl:dw κ s w){d i n m b cap sz:Nat}(bD:s.get (.g d i)=some (.tok n))(I:κ.nB d i n=some (⟨b,0,none⟩,cap,sz))(R:s.set (.g d i) (.tok m)=some s')
  (U:n<m)(hm:m≤cap)(xs:List Value)(aT:xs.length=(m-n)*sz):
  ∃κ',dw κ' s' (w.setCells b (n*sz) xs)∧gi κ s w κ' s' (w.setCells b (n*sz) xs)∧κ'.nB d i m=some (⟨b,0,none⟩,cap,sz)∧∀j x,xs[j]? =some x→κ'.F ⟨b,n*sz+j,none⟩=some x:=by
 obtain⟨K,ab,ac,aD,cL,⟨C,e,lv,aG,bz,cz⟩,L,M⟩:=bl.obj d i _ bD;rw[I] at aD;simp only[bV,e8,Addr.mk.injEq,and_true] at aD;obtain⟨rfl,rfl,rfl⟩:=aD;obtain⟨ad,ae⟩:=bl.RM bD;have hmul:n*sz+(m-n)*sz=m*sz:=by rw[←e0];congr 1;omega
 have hle:m*sz≤C.size:=by rw[bz];exact e7 _ hm
 have y:=m7 xs w b (n*sz) C e lv aG (by omega);obtain⟨hG,oY,V⟩:=m9 xs w b (n*sz)
 let E:Array Value:=((dq C.toList (n*sz) xs).take (m*sz)).toArray
 have bo:E.size=m*sz:=by simp [E,fY];omega
 have N:∀j,n*sz≤j→j<m*sz→E[j]? =xs[j-n*sz]?:=by intro j cp FM;simp only[E,List.getElem?_toArray,List.getElem?_take,FM,↓reduceIte];rw[hc _ _ _ (by simp;omega),if_pos ⟨cp,by omega⟩]
 let κ':b9:={(κ.freeze b (n*sz) E) with nB:=fun ga kf r=>if ga=d∧kf=i∧r=m then some (⟨b,0,none⟩,cap,sz) else κ.nB ga kf r}
 have cg:hJ κ κ' (s.aa+1):=by
  refine⟨fun a v h=>(hJ.freeze (fun j cp=>L j cp) (s.aa+1)).F a v h,fun _ _=>aX _,fun _ _ _ _=>rfl,fun ga kf r x _ _ h=>?_⟩;simp only[κ'];split
  ·rename_i a9;obtain⟨rfl,rfl,rfl⟩:=a9;rw[M _ U] at h;cases h
  ·exact h
 have kQ:∀a v,κ'.F a=some v→a.spot=none∧(w.setCells b (n*sz) xs).cell? a=some v:=by
  intro a v h;simp only[κ',b9.freeze] at h;split at h
  ·rename_i a9;obtain⟨af,Y,O,Q⟩:=a9;rw[bo] at Q;refine⟨Y,?_⟩;have B:a=⟨b,a.off,none⟩:=by cases a;simp_all
   rw[B,fz (by rw[y,if_pos rfl])];rw[N _ O Q] at h;rw[List.getElem?_toArray,hc _ _ _ (by simp;omega),if_pos ⟨O,by omega⟩];exact h
  ·obtain⟨J,u⟩:=bl.jq a v h;refine⟨J,?_⟩;by_cases Z:a.block=b
   ·have B:a=⟨b,a.off,none⟩:=by cases a;simp_all
    have ag:a.off<n*sz:=by
     rcases Nat.lt_or_ge a.off (n*sz) with q|q
     ·exact q
     ·rw[B,L _ q] at h;cases h
    rw[B,fz aG] at u;rw[B,fz (by rw[y,if_pos rfl]),List.getElem?_toArray,hc _ _ _ (by simp;omega),if_neg (by omega)];simpa using u
   ·rw[gA (w:=w) (by rw[y,if_neg Z])];exact u
 refine⟨κ',?_⟩;have main:=bl.setObj (κ':=κ') (w':=w.setCells b (n*sz) xs) bD R cg rfl (fun ga kf r cQ=>?_) kQ (fun K _ H=>⟨?_,fun x=>?_⟩) (by rw[m8];exact aX _) hG oY V
  ⟨b,cap,sz,by simp [κ'],hm,⟨(dq C.toList (n*sz) xs).toArray,e,lv,by rw[y];simp,by simp [fY,bz],by simpa [fY] using cz⟩,fun o ah=>?_,fun r ai=>?_⟩ (fun K H=>?_)
 ·refine⟨main.1,main.2,by simp [κ'],fun j x cp=>?_⟩;have aj:j<xs.length:=(bZ.1 cp).1;have J:n*sz≤n*sz+j:=Nat.le_add_right _ _;have u:n*sz+j<m*sz:=by omega
  simp only[κ',b9.freeze];rw[if_pos (⟨trivial,trivial,J,by rw[bo];exact u⟩:True∧True∧n*sz≤n*sz+j∧n*sz+j<E.size),N _ J u,Nat.add_sub_cancel_left,cp]
 ·simp only[κ'];rw[if_neg]
  rintro ⟨rfl,rfl,_⟩
  exact cQ ⟨rfl,rfl⟩
 ·rw[y,if_neg]
  rintro rfl
  exact H (by simp [cc,I])
 ·have:K≠b:=by rintro rfl;exact H (by simp [cc,I])
  simp [κ',b9.freeze,this]
 ·simp only[κ',b9.freeze];rw[if_neg]
  ·exact L o (by omega)
  ·rintro ⟨_,_,_,q⟩
   rw[bo] at q;omega
 ·simp only[κ'];rw[if_neg (by omega)];exact M r (by omega)
 ·left
  simp [cc,κ'] at H;simp [cc,I,H]
theorem dw.abl{κ:b9}{s s':aq}{w w':World}(bl:dw κ s w){d i n m:Nat}(bD:s.get (.g d i)=some (.tok n))(L:s.set (.g d i) (.tok m)=some s')(M:n<m)
  (C:Array Value)(e:TypeId)(cap sz:Nat)(ku:C.size=cap*sz)(hm:m≤cap)(hw:w'.heap=w.heap.push (.cells C e (0,0)))(N:w'.os=w.os)(cB:w'.tape=w.tape)(hu:w'.output=w.output):
  ∃κ',dw κ' s' w'∧gi κ s w κ' s' w'∧κ'.nB d i m=some (⟨w.heap.size,0,none⟩,cap,sz)∧∀j,j<m*sz→κ'.F ⟨w.heap.size,j,none⟩=C[j]?:=by
 obtain⟨b,Y,Z,aD,cL,⟨ab,hN,ac,aG,bz,cz⟩,ad,B⟩:=bl.obj d i _ bD;obtain⟨ae,af⟩:=bl.RM bD;have hle:m*sz≤C.size:=by rw[ku];exact e7 _ hm
 have y:((C.toList.take (m*sz)).toArray).size=m*sz:=by simp;omega
 have hold:∀b,b<w.heap.size→w'.heap[b]? =w.heap[b]?:=fun b O=>by rw[hw,Array.getElem?_push];simp [Nat.ne_of_lt O]
 have H:w'.heap[w.heap.size]? =some (.cells C e (0,0)):=by rw[hw];simp
 let κ':b9:={(κ.freeze w.heap.size 0 (C.toList.take (m*sz)).toArray) with nB:=fun ga kf r=>if ga=d∧kf=i∧r=m then some (⟨w.heap.size,0,none⟩,cap,sz) else κ.nB ga kf r}
 have cg:hJ κ κ' (s.aa+1):=by
  refine⟨fun a v h=>(hJ.freeze (fun j cp=>bl.ru (aX _)) (s.aa+1)).F a v h,fun _ _=>aX _,fun _ _ _ _=>rfl,fun ga kf r x _ _ h=>?_⟩;simp only[κ'];split
  ·rename_i a9;obtain⟨rfl,rfl,rfl⟩:=a9;rw[B _ M] at h;cases h
  ·exact h
 have Q:∀j,j<m*sz→κ'.F ⟨w.heap.size,j,none⟩=C[j]?:=by intro j cp;simp only[κ',b9.freeze];rw[if_pos (⟨trivial,trivial,Nat.zero_le _,by rw[y];exact cp⟩:True∧True∧0≤j∧j<((C.toList.take (m*sz)).toArray).size)];simp [cp]
 refine⟨κ',?_⟩;have main:=bl.setObj (κ':=κ') (w':=w') bD L cg rfl (fun ga kf r cQ=>?_) (fun a v h=>?_) (fun I u _=>⟨hold I u,fun x=>?_⟩) (by rw[hw];simp) N cB hu
  ⟨w.heap.size,cap,sz,by simp [κ'],hm,⟨C,e,(0,0),H,ku,fun j _=>by simp⟩,fun o ag=>?_,fun r ah=>?_⟩ (fun I u=>?_)
 ·exact⟨main.1,main.2,by simp [κ'],Q⟩
 ·simp only[κ'];rw[if_neg]
  rintro ⟨rfl,rfl,_⟩
  exact cQ ⟨rfl,rfl⟩
 ·simp only[κ',b9.freeze] at h;split at h
  ·rename_i a9;obtain⟨ai,R,aj,J⟩:=a9;rw[y] at J;refine⟨R,?_⟩;have U:a=⟨w.heap.size,a.off,none⟩:=by cases a;simp_all
   rw[U,fz H];rw[List.getElem?_toArray,List.getElem?_take] at h;simpa [J] using h
  ·obtain⟨V,K⟩:=bl.jq a v h;exact⟨V,by rw[gA (hold _ (pJ K))];exact K⟩
 ·simp [κ',b9.freeze,Nat.ne_of_lt u]
 ·simp only[κ',b9.freeze];rw[if_neg (by intro h;have:=h.2.2.2;rw[y] at this;omega)];exact bl.ru (aX _)
 ·simp only[κ'];rw[if_neg (by omega)];exact B r (by omega)
 ·right
  simp [cc,κ'] at u;omega
def aq.push(s:aq):aq:={own:=[],up:=s.own::s.up,ro:=s.ro}
theorem aq.lZ(s:aq):s.push.aa=s.aa+1:=by simp [aq.push,aq.aa];omega
theorem aq.ye(s:aq)(d:Nat):s.push.aC d=if d=s.aa+1 then some [] else s.aC d:=by
 unfold aq.aC;rw[aq.lZ];by_cases aD:d=s.aa+1
 ·simp [aD,aq.push]
 ·simp only[aD,↓reduceIte];by_cases aG:d=s.aa
  ·simp [aG,aq.push]
  ·by_cases bz:d<s.aa
   ·have cz:d<s.aa+1:=by omega
    simp only[aG,bz,cz,↓reduceIte,aq.push];rw[show s.aa+1-1-d=(s.aa-1-d)+1 by omega,List.cons_append,List.getElem?_cons_succ]
   ·have cz:¬d<s.aa+1:=by omega
    simp [aG,bz,cz]
theorem aq.ol(s:aq)(d i:Nat):s.push.get (.g d i)=s.get (.g d i):=by
 rw[aq.oW,aq.oW,aq.ye];by_cases h:d=s.aa+1
 ·subst h;have aD:s.aC (s.aa+1)=none:=by
   have q:¬s.aa+1<s.aa:=by omega
   simp [aq.aC,q]
  simp [aD]
 ·simp [h]
theorem dw.push{κ:b9}{s:aq}{w:World}(bl:dw κ s w):∃κ',dw κ' s.push w∧hJ κ κ' (s.aa+1)∧κ'.F=κ.F∧∀d i o,s.get (.g d i)=some o→cc κ' d i o=cc κ d i o:=by
 refine⟨{κ with n:=fun d=>if d=s.aa+1 then 0 else κ.n d},?_⟩;have cg:hJ κ {κ with n:=fun d=>if d=s.aa+1 then 0 else κ.n d} (s.aa+1):=by refine⟨fun _ _ h=>h,fun d bI=>?_,fun _ _ _ _=>rfl,fun _ _ _ _ _ _ h=>h⟩;simp only;rw[if_neg (by omega)];exact aX _
 have key:∀d i o,s.get (.g d i)=some o→MV {κ with n:=fun d=>if d=s.aa+1 then 0 else κ.n d} d i w o∧cc {κ with n:=fun d=>if d=s.aa+1 then 0 else κ.n d} d i o=cc κ d i o:=fun d i o h=>(bl.obj d i o h).bf (bl.r4 h) (cg.low (by have:=aq.jr h;omega)) (fun m=>rfl) (fun b _=>⟨rfl,fun _=>rfl⟩)
 refine⟨⟨bl.jq,fun d l h=>?_,fun d i o h=>?_,fun d i o ga kf o' b h r e hN=>?_⟩,cg,rfl,fun d i o h=>(key d i o h).2⟩
 ·rw[aq.ye] at h;split at h
  ·rename_i bI;simp only[bV] at h;simp [←h,bI]
  ·rename_i bI;simp only[bI,↓reduceIte];exact bl.len d l h
 ·rw[aq.ol] at h;exact(key d i o h).1
 ·rw[aq.ol] at h r;rw[(key d i o h).2] at e;rw[(key ga kf o' r).2] at hN;exact bl.inj d i o ga kf o' b h r e hN
theorem aq.yf{s:aq}{own:List bd}{up:List (List bd)}(h:s.up=own::up):({own,up,ro:=s.ro}:aq).push= {s with own:=[]}:=by simp [aq.push,h]
theorem aq.r7{s:aq}{own:List bd}{up:List (List bd)}(h:s.up=own::up){d i:Nat}{o:bd}(bD:({own,up,ro:=s.ro}:aq).get (.g d i)=some o):s.get (.g d i)=some o:=by
 have bI:=aq.jr bD;rw[←aq.ol,aq.yf h] at bD;have r:s.aa=({own,up,ro:=s.ro}:aq).aa+1:=by simp [aq.aa,h];omega
 have cQ:d≠s.aa:=by omega
 unfold aq.get at bD ⊢;have e:({s with own:=[]}:aq).aa=s.aa:=rfl;rw[e] at bD;simp only[cQ,↓reduceIte] at bD ⊢;exact bD
theorem dw.pop{κ:b9}{s:aq}{w:World}(bl:dw κ s w){own:List bd}{up:List (List bd)}(h:s.up=own::up):dw κ {own,up,ro:=s.ro} w:=by
 refine⟨bl.jq,fun d l bI=>?_,fun d i o bD=>bl.obj d i o (aq.r7 h bD),fun d i o ga kf o' b bD r=>bl.inj d i o ga kf o' b (aq.r7 h bD) (aq.r7 h r)⟩;have B:s.aa=({own,up,ro:=s.ro}:aq).aa+1:=by simp [aq.aa,h];omega
 have H:d≤({own,up,ro:=s.ro}:aq).aa:=by
  rcases Nat.lt_or_ge ({own,up,ro:=s.ro}:aq).aa d with q|q
  ·have u:d≠({own,up,ro:=s.ro}:aq).aa:=by omega
   have y:¬d<({own,up,ro:=s.ro}:aq).aa:=by omega
   simp [aq.aC,u,y] at bI
  ·exact q
 have q:({own,up,ro:=s.ro}:aq).push.aC d=some l:=by rw[aq.ye,if_neg (by omega)];exact bI
 rw[aq.yf h] at q;refine bl.len d l ?_;unfold aq.aC at q ⊢;have e:({s with own:=[]}:aq).aa=s.aa:=rfl;rw[e] at q;have cQ:d≠s.aa:=by omega
 simp only[cQ,↓reduceIte] at q ⊢;exact q
theorem dw.empty{κ:b9}{s:aq}{w:World}(bl:dw κ s w):dw {κ with n:=fun _=>0} {own:=[],up:=[],ro:=[]} w:=by
 have e:∀d i,({own:=[],up:=[],ro:=[]}:aq).get (.g d i)=none:=by intro d i;simp [aq.get]
 refine⟨bl.jq,fun d l h=>?_,fun d i o h=>?_,fun d i o ga kf o' b h=>?_⟩
 ·unfold aq.aC at h;simp at h;simp [h]
 ·rw[e] at h;cases h
 ·rw[e] at h;cases h
def yg:List ai→cd→Value→Bool
 |[],.nil,.slice none 0 0=>true
 |_,_,_=>false
theorem yh{es:List ai}{g:cd}{x:Value}(h:yg es g x=true):es=[]∧g=.nil∧x=.slice none 0 0:=by
 unfold yg at h;split at h
 ·exact⟨rfl,rfl,rfl⟩
 ·cases h
def C5:Value→Bool
 |.pointer none=>true
 |_=>false
theorem Bl{x:Value}(h:C5 x=true):x=.pointer none:=by
 unfold C5 at h;split at h
 ·rfl
 ·cases h
def C6:Value→Bool
 |.map none=>true
 |_=>false
theorem Bm{x:Value}(h:C6 x=true):x=.map none:=by
 unfold C6 at h;split at h
 ·rfl
 ·cases h
mutual
def g5:ai→Value→Bool
 |.bool a,.bool b=>a==b
 |.int k a,.int jh b=>decide (k=jh)&&a==b
 |.str eB,.string s=>eB==s.data.toList.map UInt8.toNat
 |.aW _ es g,x=>yg es g x
 |.gU,x=>C5 x
 |.fx,.nilFunc=>true
 |.c4,x=>C6 x
 |.e2,.nilIface=>true
 |.agg cs,.agg xs=>nH cs xs.toList
 |.cT [],.tuple xs=>xs.size==0
 |_,_=>false
def nH:List ai→List Value→Bool
 |[],[]=>true
 |c::cs,x::xs=>g5 c x&&nH cs xs
 |_,_=>false
end
mutual
theorem oZ:∀(v:ai) (x:Value),g5 v x=true→(∀κ D,c8 κ D v x)∧v.bp=true
 |.bool a,x,h=>by cases x<;> simp [g5] at h;subst h;exact⟨fun _ _=>.bool a,rfl⟩
 |.int k a,x,h=>by cases x<;> simp [g5] at h;obtain⟨rfl,rfl⟩:=h;exact⟨fun _ _=>.int k a,rfl⟩
 |.str eB,x,h=>by cases x<;> simp [g5] at h;exact⟨fun _ _=>.str eB _ h.symm,rfl⟩
 |.aW sz es g,x,h=>by simp only[g5] at h;obtain⟨rfl,rfl,rfl⟩:=yh h;exact⟨fun _ _=>.lr sz,rfl⟩
 |.gU,x,h=>by simp only[g5] at h;rw[Bl h];exact⟨fun _ _=>.gU,rfl⟩
 |.fx,x,h=>by cases x<;> simp [g5] at h;exact⟨fun _ _=>.fx,rfl⟩
 |.c4,x,h=>by simp only[g5] at h;rw[Bm h];exact⟨fun _ _=>.c4,rfl⟩
 |.e2,x,h=>by cases x<;> simp [g5] at h;exact⟨fun _ _=>.e2,rfl⟩
 |.agg cs,x,h=>by cases x<;> simp [g5] at h;rename_i xs;obtain⟨aD,aG⟩:=n0 cs xs.toList h;exact⟨fun κ D=>by simpa using c8.agg cs xs.toList (aD κ D).1 (aD κ D).2,by simpa [ai.bp] using aG⟩
 |.cT cs,x,h=>by
  cases cs with
  |nil=>cases x<;> simp [g5] at h;rename_i xs;subst h;exact⟨fun κ D=>.cT [] [] rfl (fun j c x a9=>by simp at a9),rfl⟩
  |cons c cs=>cases x<;> simp [g5] at h
 |.dead,x,h=>by cases x<;> simp [g5] at h
 |.cw ..,x,h=>by cases x<;> simp [g5] at h
 |.ref ..,x,h=>by cases x<;> simp [g5] at h
 |.bM ..,x,h=>by cases x<;> simp [g5] at h
 |.fn ..,x,h=>by cases x<;> simp [g5] at h
 |.map ..,x,h=>by cases x<;> simp [g5] at h
 |.iface ..,x,h=>by cases x<;> simp [g5] at h
theorem n0:∀(cs:List ai) (xs:List Value),nH cs xs=true→(∀κ D,ea κ D cs xs)∧ai.bj cs=true
 |[],[],_=>⟨fun κ D=>.nil κ D,rfl⟩
 |[],x::xs,h=>by simp [nH] at h
 |c::cs,[],h=>by simp [nH] at h
 |c::cs,x::xs,h=>by simp only[nH,bL] at h;obtain⟨aD,aG⟩:=oZ c x h.1;obtain⟨bz,cz⟩:=n0 cs xs h.2;exact⟨fun κ D=>.cons (aD κ D) (bz κ D),by simp [ai.bj,aG,cz]⟩
end
def cr:bR→Operand→Bool
 |.t n,.tmp m=>n==m
 |.c v,.const x=>g5 v x
 |.c (.fn f []),.func g=>f==g
 |.g n,.global m=>n==m
 |.at n _ _,.tmp m=>n==m
 |_,_=>false
def dr:List bR→List Operand→Bool
 |[],[]=>true
 |x::xs,y::e=>cr x y&&dr xs e
 |_,_=>false
def ff:Option bR→Option Operand→Bool
 |none,none=>true
 |some x,some y=>cr x y
 |_,_=>false
def ly(κ:b9)(G:Nat→ai):Prop:=∀n,c8 κ 0 (G n) (.pointer (some ⟨n,0,none⟩))∧(G n).bp=true
theorem ly.mono{κ κ':b9}{G:Nat→ai}(h:ly κ G){D:Nat}(k:hJ κ κ' D):ly κ' G:=fun n=>⟨(h n).1.mono (k.low (Nat.zero_le D)),(h n).2⟩
theorem bS{κ:b9}{s:aq}{aC:Nat→ai}{a:Act}{G:Nat→ai}(bq:Cg κ s aC a)(dL:ly κ G){x:bR}{y:Operand}(h:cr x y=true):c8 κ (s.aa+1) ((aL G aC x).ak s.aa) (a.eval y):=by
 cases x with
 |t n=>cases y<;> simp [cr] at h;subst h;exact bq n
 |c v=>
  cases y with
  |const x=>
   have r:g5 v x=true:=by cases v<;> simpa [cr] using h
   obtain⟨aD,aG⟩:=oZ v x r;simp only[aL,jK aG,Act.eval];exact aD _ _
  |func g=>
   cases v<;> simp [cr] at h;rename_i f ep;cases ep with
   |nil=>simp [] at h;subst h;exact .fn f [] [] rfl (fun j c x a9=>by simp at a9)
   |cons c cs=>simp [] at h
  |tmp m=>cases v<;> simp [cr] at h
  |global m=>cases v<;> simp [cr] at h
 |g n=>cases y<;> simp [cr] at h;subst h;obtain⟨aD,aG⟩:=dL n;simp only[aL,jK aG,Act.eval];exact aD.up (Nat.zero_le _)
 | «at» n b off=>
  cases y<;> simp [cr] at h;subst h;simp only[aL];rcases RL (aC n) (aC b) off with e|⟨e,_⟩
  ·rw[e];exact .dead _
  ·rw[e];exact bq n
 |C1 b off=>cases y<;> simp [cr] at h
section
variable{κ:b9}{D:Nat}{x:Value}
theorem c8.eA{k:IntKind}{n:Int}(h:c8 κ D (.int k n) x):x=.int k n:=by cases h;rfl
theorem c8.hg{b:Bool}(h:c8 κ D (.bool b) x):x=.bool b:=by cases h;rfl
theorem c8.im{eB:List Nat}(h:c8 κ D (.str eB) x):∃s,x=.string s∧s.data.toList.map UInt8.toNat=eB:=by cases h;exact⟨_,rfl,by assumption⟩
theorem c8.pK{cs:List ai}(h:c8 κ D (.agg cs) x):∃xs:List Value,x=.agg xs.toArray∧ea κ D cs xs:=by cases h;exact⟨_,rfl,by assumption,by assumption⟩
theorem c8.yi{cs:List ai}(h:c8 κ D (.cT cs) x):∃xs:List Value,x=.tuple xs.toArray∧ea κ D cs xs:=by cases h;exact⟨_,rfl,by assumption,by assumption⟩
theorem c8.C7{f:Nat}{cs:List ai}(h:c8 κ D (.fn f cs) x):∃xs:List Value,x=.func (.func f) #[] xs.toArray∧ea κ D cs xs:=by cases h;exact⟨_,rfl,by assumption,by assumption⟩
theorem c8.uU{cs:List ai}(h:c8 κ D (.bM cs) x):∃(a:Addr) (aF:Nat→Value),x=.pointer (some a)∧a.spot=none∧(∀j,j<cs.length→κ.F (a.add j)=some (aF j))∧∀(j:Nat) (c:ai),cs[j]? =some c→c8 κ D c (aF j):=by cases h;exact⟨_,_,rfl,by assumption,by assumption,by assumption⟩
theorem c8.na{d i off:Nat}(h:c8 κ D (.ref (.g d i) off) x):x=.pointer (some ⟨κ.loc d i,off,none⟩)∧d<D∧i<κ.n d:=by cases h;exact⟨rfl,by assumption,by assumption⟩
theorem c8.k0{d i off len cap sz:Nat}(h:c8 κ D (.cw (.g d i) off len cap sz) x):∃mN,x=.slice (some ⟨κ.loc d i,off,none⟩) len mN∧d<D∧i<κ.n d∧len≤mN∧(mN=cap∨(cap=0∧0<len∧off=0∧κ.nB d i len=some (⟨κ.loc d i,0,none⟩,mN,sz))):=by cases h;exact⟨_,rfl,by assumption,by assumption,by assumption,by assumption⟩
theorem c8.ZU{d i off len cap sz:Nat}(h:c8 κ D (.cw (.g d i) off len cap sz) x)(br:len≤cap):x=.slice (some ⟨κ.loc d i,off,none⟩) len cap∧d<D∧i<κ.n d:=by
 obtain⟨mN,rfl,aD,aG,bz,cz⟩:=h.k0;rcases cz with rfl |⟨e,r,_⟩
 ·exact⟨rfl,aD,aG⟩
 ·omega
theorem c8.M1{t:Nat}{v:ai}(h:c8 κ D (.iface t v) x):∃y,x=.iface t y∧c8 κ D v y:=by cases h;exact⟨_,rfl,by assumption⟩
end
theorem c8.cells{κ:b9}{D:Nat}{v:ai}{x:Value}(h:c8 κ D v x)(bG:v.fo=true):ea κ D v.cells x.cells.toList:=by
 cases h<;> simp [ai.fo] at bG<;> simp only[ai.cells,Value.cells]
 case agg cs xs br e=>exact⟨by simpa using br,by simpa using e⟩
 all_goals
  refine .cons ?_ (.nil _ _)
  first
   |exact .bool _|exact .int _ _|exact .str _ _ (by assumption)|exact .lr _
   |exact .aW _ _ _ _ _ _ (by assumption) (by assumption) (by assumption) (by assumption) (by assumption) (by assumption) (by assumption)
   |exact .cw _ _ _ _ _ _ _ (by assumption) (by assumption) (by assumption) (by assumption)|exact .ref _ _ _ (by assumption) (by assumption)
   |exact .bM _ _ _ (by assumption) (by assumption) (by assumption)|exact .gU|exact .fn _ _ _ (by assumption) (by assumption)
   |exact .fx|exact .c4|exact .map _ _ (by assumption) (by assumption)|exact .iface _ _ _ (by assumption)|exact .e2
theorem yj(v:ai)(d:Nat):(v.ak d).fo=v.fo:=by cases v<;> rfl
theorem c8.abm{κ:b9}{D:Nat}{v:ai}{x:Value}(h:c8 κ D v x)(bG:v.dZ=true):x.oneCell'=true:=by cases h<;> simp [ai.dZ] at bG<;> rfl
theorem bytes_inj{a b:List UInt8}(h:a.map UInt8.toNat=b.map UInt8.toNat):a=b:=by have:=List.map_inj_right (f:=UInt8.toNat) (l:=a) (l':=b) (fun x y e=>UInt8.toNat_inj.1 e);exact this.1 h
theorem C8(a b:List UInt8):(a.map UInt8.toNat==b.map UInt8.toNat)=(a==b):=by rw[Bool.eq_iff_iff];simp only[beq_iff_eq];exact⟨bytes_inj,fun h=>by rw[h]⟩
theorem pL:∀(a b:List UInt8),j9 (a.map UInt8.toNat) (b.map UInt8.toNat)=Op.bytesLess a b
 |_,[]=>by simp [j9,Op.bytesLess]
 |[],_::_=>by simp [j9,Op.bytesLess]
 |a::x,b::y=>by
  simp only[fU,j9,Op.bytesLess,pL x y];have aD:Nat.blt a.toNat b.toNat=decide (a<b):=by rw[Bool.eq_iff_iff];simp [Nat.blt_eq,UInt8.lt_iff_toNat_lt]
  have aG:Nat.beq a.toNat b.toNat=(a==b):=by rw[Bool.eq_iff_iff];simp [Nat.beq_eq,UInt8.toNat_inj]
  rw[aD,aG]
def c7(P:Program)(o:Op)(ty:TypeId)(ρ:Operand→Value)(κ:b9)(s:aq)(w:World)(v:ai)(s':aq):Prop:=
 ∃x κ' w',((∀dst pos after guard,(execOp ρ ⟨dst,o,ty,pos,after,guard⟩).run P w=.ok (.value x) w')∨((∀dst pos after guard,(execOp ρ ⟨dst,o,ty,pos,after,guard⟩).run P w=.ok .skip w')∧x=undef))∧
  gi κ s w κ' s' w'∧dw κ' s' w'∧c8 κ' (s.aa+1) (v.ak s.aa) x
theorem bJ{P:Program}{o:Op}{ty:TypeId}{ρ:Operand→Value}{κ:b9}{s:aq}{w:World}{v:ai}(bl:dw κ s w)(x:Value)
  (h:∀dst pos after guard,(execOp ρ ⟨dst,o,ty,pos,after,guard⟩).run P w=.ok (.value x) w)(aT:c8 κ (s.aa+1) (v.ak s.aa) x):c7 P o ty ρ κ s w v s:=
 ⟨x,κ,w,.inl h,.refl _ _ _,bl,aT⟩
section
variable{P:Program}{ty:TypeId}{ρ:Operand→Value}{κ:b9}{s:aq}{w:World}(bl:dw κ s w)
include bl
theorem FN{v:ai}{x:Operand}(h:c8 κ (s.aa+1) (v.ak s.aa) (ρ x)):c7 P (.move x) ty ρ κ s w v s:=
 bJ bl _ (fun _ _ _ _=>by simp [execOp]) h
theorem Bn{v:ai}{x:Operand}(h:c8 κ (s.aa+1) (v.ak s.aa) (ρ x)):c7 P (.assign x) ty ρ κ s w v s:=
 bJ bl _ (fun _ _ _ _=>by simp [execOp]) h
theorem FO{t:Bool}{a b:ai}{c x y:Operand}(a9:ρ c=.bool t)(aD:c8 κ (s.aa+1) (a.ak s.aa) (ρ x))(aG:c8 κ (s.aa+1) (b.ak s.aa) (ρ y)):
  c7 P (.pick c x y) ty ρ κ s w (bif t then a else b) s:=by
 refine bJ bl (if t then ρ x else ρ y) (fun _ _ _ _=>by simp [execOp,a9,asBool]) ?_;cases t<;> assumption
theorem yk{op:BinOp}{k:IntKind}{m n:Int}{t yt:TypeId}{x y:Operand}{v:ai}(aT:ρ x=.int k m)(dX:ρ y=.int k n)(h:gy op k m n=some v):c7 P (.binOp op t x y yt) ty ρ κ s w v s:=by
 have key:∃z,(binOp op t (.int k m) (.int k n)).run P w=.ok z w∧c8 κ (s.aa+1) (v.ak s.aa) z:=by
  cases op<;> simp only[gy,bV,reduceCtorEq] at h
  case quo=>
   by_cases bX:n=0
   ·simp [bX] at h
   ·simp only[bX,↓reduceIte,bV] at h;subst h;exact⟨_,by simp only[binOp,Op.intDiv,bX,ne_eq,not_true_eq_false,↓reduceIte];rfl,.int k _⟩
  case rem=>
   by_cases bX:n=0
   ·simp [bX] at h
   ·simp only[bX,↓reduceIte,bV] at h;subst h;exact⟨_,by simp only[binOp,Op.intDiv,bX,ne_eq,not_true_eq_false,↓reduceIte];rfl,.int k _⟩
  case add=>subst h;exact⟨_,by simp only[binOp,Op.intArith,ne_eq,not_true_eq_false,↓reduceIte];rfl,.int k _⟩
  case sub=>subst h;exact⟨_,by simp only[binOp,Op.intArith,ne_eq,not_true_eq_false,↓reduceIte];rfl,.int k _⟩
  case mul=>subst h;exact⟨_,by simp only[binOp,Op.intArith,ne_eq,not_true_eq_false,↓reduceIte];rfl,.int k _⟩
  case and=>subst h;exact⟨_,by simp only[binOp,Op.intBits,ne_eq,not_true_eq_false,↓reduceIte];rfl,.int k _⟩
  case or=>subst h;exact⟨_,by simp only[binOp,Op.intBits,ne_eq,not_true_eq_false,↓reduceIte];rfl,.int k _⟩
  case xor=>subst h;exact⟨_,by simp only[binOp,Op.intBits,ne_eq,not_true_eq_false,↓reduceIte];rfl,.int k _⟩
  case andNot=>subst h;exact⟨_,by simp only[binOp,Op.intBits,ne_eq,not_true_eq_false,↓reduceIte];rfl,.int k _⟩
  all_goals (subst h;exact⟨_,by simp only[binOp,Op.intCmp,ne_eq,not_true_eq_false,↓reduceIte];rfl,.bool _⟩)
 obtain⟨z,io,bG⟩:=key;refine bJ bl z (fun _ _ _ _=>?_) bG;have bD:(eqGuard op t x y (.int k m) (.int k n)).run P w=.ok () w:=by unfold eqGuard;split<;> rfl
 simp [execOp,aT,dX,bD,io]
theorem r8{op:BinOp}{k jh:IntKind}{m n:Int}{t yt:TypeId}{x y:Operand}{v:ai}(aT:ρ x=.int k m)(dX:ρ y=.int jh n)(e:op=.shl∨op=.shr)(h:nF op k m n=some v):c7 P (.binOp op t x y yt) ty ρ κ s w v s:=by
 unfold nF at h;split at h
 ·cases h
 ·rename_i bX;rcases e with rfl |rfl <;> simp only[bV] at h<;> subst h<;> exact bJ bl _ (fun _ _ _ _=>by simp only[execOp,aT,dX,eqGuard,binOp,Op.shift,bX];rfl) (.int k _)
theorem Bo{k:IntKind}{n:Int}{t:TypeId}{x:Operand}(aT:ρ x=.int k n):c7 P (.unOp .neg t x) ty ρ κ s w (.int k (k.wrap (0-n))) s:=
 bJ bl _ (fun _ _ _ _=>by simp only[execOp,aT,Op.unary,Op.intArith];rfl) (.int k _)
theorem Bp{k:IntKind}{n:Int}{t:TypeId}{x:Operand}(aT:ρ x=.int k n):c7 P (.unOp .xor t x) ty ρ κ s w (.int k (k.wrap (BitVec.ofInt k.bits (if k.signed then -1 else k.max) ^^^ BitVec.ofInt k.bits n).toNat)) s:=
 bJ bl _ (fun _ _ _ _=>by simp only[execOp,aT,Op.unary,Op.intBits];rfl) (.int k _)
theorem Bq{b:Bool}{t:TypeId}{x:Operand}(aT:ρ x=.bool b):c7 P (.unOp .not t x) ty ρ κ s w (.bool (!b)) s:=
 bJ bl _ (fun _ _ _ _=>by simp [execOp,aT,Op.unary]) (.bool _)
theorem yl{op:BinOp}{as eB:List Nat}{t yt:TypeId}{x y:Operand}{v:ai}(aT:c8 κ (s.aa+1) (.str as) (ρ x))(dX:c8 κ (s.aa+1) (.str eB) (ρ y))(h:rW op as eB=some v):c7 P (.binOp op t x y yt) ty ρ κ s w v s:=by
 obtain⟨a,aT,e⟩:=aT.im;obtain⟨b,dX,r⟩:=dX.im;have u:(a.toList==b.toList)=(as==eB):=by rw[Go.ByteArray.toList_eq,Go.ByteArray.toList_eq,←e,←r,C8]
 have B:Op.bytesLess a.toList b.toList=j9 as eB:=by rw[Go.ByteArray.toList_eq,Go.ByteArray.toList_eq,←e,←r,pL]
 have key:∃z,(binOp op t (.string a) (.string b)).run P w=.ok z w∧c8 κ (s.aa+1) (v.ak s.aa) z:=by
  cases op<;> simp only[rW,bV,reduceCtorEq] at h
  case add=>
   split at h
   ·rename_i hle;simp only[bV] at h;subst h;have br:=dW hle;have H:a.size=as.length:=by have:=congrArg List.length e;rw[b2,Array.length_toList] at this;exact this
    have I:b.size=eB.length:=by have:=congrArg List.length r;rw[b2,Array.length_toList] at this;exact this
    refine⟨.string (a++b),?_,.str _ _ ?_⟩
    ·have:¬(((a.size+b.size:Nat):Int)>IntKind.i64.max):=by rw[H,I];show¬_>(9223372036854775807:Int);omega
     simp only[binOp,Op.stringOp,this,↓reduceIte];rfl
    ·rw[←e,←r,←List.map_append];simp
   ·cases h
  all_goals (subst h;refine⟨_,by simp only[binOp,Op.stringOp,u,B];rfl,?_⟩;exact .bool _)
 obtain⟨z,io,bG⟩:=key;refine bJ bl z (fun _ _ _ _=>?_) bG;have bD:(eqGuard op t x y (.string a) (.string b)).run P w=.ok () w:=by unfold eqGuard;split<;> rfl
 simp [execOp,aT,dX,bD,io]
theorem ym{k jh:IntKind}{n:Int}{src dst:TypeId}{x:Operand}{d:TypeDesc}(e:P.underlying src=some d)(h:P.underlying dst=some (.int k))(aT:ρ x=.int jh n):c7 P (.convert src dst x) ty ρ κ s w (.int k (k.wrap n)) s:=
 bJ bl _ (fun _ _ _ _=>by simp [execOp,convert,run_underlying e,run_underlying h,aT,Conv.intToInt]) (.int k _)
theorem Br{eB:List Nat}{src dst:TypeId}{x:Operand}{d:TypeDesc}(e:P.underlying src=some d)(h:P.underlying dst=some .string)(aT:c8 κ (s.aa+1) (.str eB) (ρ x)):c7 P (.convert src dst x) ty ρ κ s w (.str eB) s:=by obtain⟨a,r,u⟩:=aT.im;exact bJ bl _ (fun _ _ _ _=>by simp [execOp,convert,run_underlying e,run_underlying h,r]) (.str _ _ u)
theorem yn{v:ai}{t:TypeId}{x:Operand}{d:TypeDesc}(cB:P.underlying t=some d)(bI:(d matches .interface _)=false)(aT:c8 κ (s.aa+1) (v.ak s.aa) (ρ x)):c7 P (.makeInterface t x) ty ρ κ s w (.iface t (v.ak s.aa)) s:=
 bJ bl (.iface t (ρ x)) (fun _ _ _ _=>by simp only[execOp,Instr.makeInterface,Sem.run_bind,run_underlying cB,Result.andThen_ok];cases d<;> simp at bI ⊢) (.iface t _ _ aT)
theorem yo{vs:List ai}{i:Nat}{x:Operand}{v:ai}(aT:c8 κ (s.aa+1) (.cT vs) (ρ x))(bG:vs[i]? =some v)(aU:v.ak s.aa=v):c7 P (.extract x i) ty ρ κ s w v s:=by obtain⟨xs,r,br,h⟩:=aT.yi;have bk:=(bZ.1 bG).1;have e:xs[i]? =some xs[i]:=dM (by omega);exact bJ bl xs[i] (fun _ _ _ _=>by simp [execOp,Instr.extract,r,e]) (by rw[aU];exact h i v _ bG e)
end
def RP:TypeDesc→Bool
 |.struct _|.array _ _=>true
 |_=>false
def nb(P:Program)(t:TypeId):Option Bool:=(P.underlying t).map RP
def fr(P:Program)(t:TypeId):Option Nat:=(P.info? t).map (·.size)
theorem kI{P:Program}{t:TypeId}{b:Bool}(h:nb P t=some b)(w:World):(isAgg t).run P w=.ok b w:=by
 unfold nb at h;cases bI:P.underlying t with
 |none=>simp [bI] at h
 |some d=>simp only[bI,eU,bV] at h;subst h;simp only[isAgg,Sem.run_bind,run_underlying bI,Result.andThen_ok];cases d<;> rfl
theorem eo{P:Program}{t:TypeId}{n:Nat}(h:fr P t=some n)(w:World):(sizeOf t).run P w=.ok n w:=by
 unfold fr at h;cases bI:P.info? t with
 |none=>simp [bI] at h
 |some i=>simp only[bI,eU,bV] at h;subst h;simp [sizeOf,typeInfo,bI]
section
variable{P:Program}{ty:TypeId}{ρ:Operand→Value}{κ:b9}{s:aq}{w:World}(bl:dw κ s w)
include bl
def Reads(κ:b9)(D:Nat)(w:World)(a:Addr)(cs:List ai):Prop:=∃aF:Nat→Value,(∀j,j<cs.length→w.cell? (a.add j)=some (aF j))∧∀(j:Nat) (c:ai),cs[j]? =some c→c8 κ D c (aF j)
omit bl in
theorem Reads.drop{D:Nat}{a:Addr}{cs:List ai}(h:Reads κ D w a cs)(n:Nat):Reads κ D w (a.add n) (cs.drop n):=by obtain⟨aF,aD,aG⟩:=h;refine⟨fun j=>aF (n+j),fun j cp=>?_,fun j c a9=>aG _ c (by simpa using a9)⟩;rw[add_add];exact aD _ (by simp at cp;omega)
theorem FP{D:Nat}{cs:List ai}{x:Value}(h:c8 κ D (.bM cs) x):∃a,x=.pointer (some a)∧a.spot=none∧Reads κ D w a cs:=by obtain⟨a,aF,rfl,aD,aG,bz⟩:=h.uU;exact⟨a,rfl,aD,aF,fun j cp=>(bl.jq _ _ (aG j cp)).2,bz⟩
theorem o0{d i:Nat}{cs:List ai}(h:s.get (.g d i)=some (.cells cs))(off:Nat):Reads κ (d+1) w ⟨κ.loc d i,off,none⟩ (cs.drop off):=by
 obtain⟨⟨C,e,lv,aD,aG,bz,_⟩,cz⟩:=bl.obj d i _ h;have br:cs.length≤C.size:=by have:=bz.1;simp at this;omega
 refine⟨fun j=>C.getD (off+j) undef,fun j cp=>?_,fun j c a9=>?_⟩
 ·rw[fN rfl,fz aD];simp at cp;simp [Array.getD,show off+j<C.size by omega]
 ·obtain⟨x,aT,bG⟩:=bz.get (show cs[off+j]? =some c by simpa using a9);have r:off+j<cs.length:=(bZ.1 (show cs[off+j]? =some c by simpa using a9)).1
  have:C.getD (off+j) undef=x:=by
   rw[List.getElem?_take,if_pos r] at aT;have u:C[off+j]? =some x:=by simpa using aT
   simp [Array.getD_eq_getD_getElem?,u]
  simpa [this] using bG
omit bl in
theorem uV{D e:Nat}{a:Addr}{cs:List ai}(h:Reads κ D w a cs)(r:D≤e):Reads κ e w a cs:=by obtain⟨v,aD,aG⟩:=h;exact⟨v,aD,fun j c a9=>(aG j c a9).up r⟩
omit bl in
theorem vE{D:Nat}{a:Addr}{cs:List ai}(h:Reads κ D w a cs){n:Nat}(bX:n≤cs.length):∃xs:List Value,(loadCells a n).run P w=.ok xs.toArray w∧ea κ D (cs.take n) xs:=by
 obtain⟨aF,aD,aG⟩:=h;refine⟨(List.range n).map aF,run_loadCells w a n aF (fun j cp=>aD j (by omega)),by simp;omega,fun j c x a9 aT=>?_⟩;simp only[fw] at aT;rw[List.getElem?_take] at a9;by_cases cp:j<n
 ·simp only[cp,↓reduceIte] at a9;have e:(List.range n)[j]? =some j:=by simp [cp]
  rw[e] at aT;simp only[eU,bV] at aT;exact aT ▸ aG j c a9
 ·simp [cp] at a9
omit bl in
theorem uW{D:Nat}{a:Addr}{cs:List ai}(h:Reads κ D w a cs){n:Nat}(bX:n≤cs.length){t:TypeId}(aD:nb P t=some true)(aG:fr P t=some n):∃x,(loadVar t a).run P w=.ok x w∧c8 κ D (.agg (cs.take n)) x:=by obtain⟨xs,e,bG⟩:=vE (P:=P) h bX;refine⟨.agg xs.toArray,by simp [loadVar,kI aD,eo aG,e],.agg _ xs bG.1 bG.2⟩
omit bl in
theorem uX{D:Nat}{a:Addr}{c:ai}{cs:List ai}(h:Reads κ D w a (c::cs)){t:TypeId}(aD:nb P t=some false):∃x,(loadVar t a).run P w=.ok x w∧c8 κ D c x:=by obtain⟨aF,e,bG⟩:=h;have kR:=e 0 (by simp);simp only[Addr.add,↓reduceIte] at kR;exact⟨aF 0,by simp [loadVar,kI aD,kR],bG 0 c rfl⟩
def kq(P:Program)(t:TypeId):Option Nat→Bool
 |none=>nb P t==some false
 |some n=>nb P t==some true&&fr P t==some n
omit bl in
theorem uY{D:Nat}{a:Addr}{cs:List ai}(h:Reads κ D w a cs){n:Option Nat}{t:TypeId}(bX:kq P t n=true){E:Env}(bo:E.F=.not){k:ai→aq→ao}{r:ao}(aQ:fc E s k n cs=r)(bq:r≠.fail):
  ∃v x,k v s=r∧(loadVar t a).run P w=.ok x w∧c8 κ D v x:=by
 cases n with
 |none=>
  cases cs with
  |nil=>simp [fc] at aQ;exact absurd aQ.symm bq
  |cons c cs=>simp only[fc,bo,bb.not] at aQ;obtain⟨x,aT,bG⟩:=uX (P:=P) h (by simpa [kq] using bX);exact⟨c,x,aQ,aT,bG⟩
 |some n=>
  simp only[kq,bL,beq_iff_eq] at bX;simp only[fc,bo,bb.not] at aQ;by_cases br:n≤cs.length
  ·rw[dN br,cb] at aQ;obtain⟨x,aT,bG⟩:=uW (P:=P) h br bX.1 bX.2;exact⟨_,x,aQ,aT,bG⟩
  ·have:Nat.ble n cs.length=false:=by
    cases e:Nat.ble n cs.length with
    |false=>rfl
    |true=>exact absurd (dW e) br
   rw[this,cond_false] at aQ;exact absurd aQ.symm bq
omit bl in
theorem iP.ak{D sz n cap:Nat}{g:cd}{a:Addr}(h:iP κ D sz g n a cap)(d:Nat):g.ak d=g:=by
 cases g with
 |bQ a=>cases a with
  |l i=>simp [iP] at h
  |g d i=>rfl
 |_=>rfl
omit bl in
theorem xh{D:Nat}{v:ai}{x:Value}(h:c8 κ D v x)(d:Nat):v.ak d=v:=by
 cases h<;> try rfl
 simp only[ai.ak];rw[iP.ak (by assumption)]
theorem FQ{E:Env}(bo:E.F=.not){k:ai→aq→ao}{r:ao}(bq:r≠.fail){n:Option Nat}{t:TypeId}{x:Operand}{v:ai}(bX:kq P t n=true)(aT:c8 κ (s.aa+1) (v.ak s.aa) (ρ x))
  (aQ:fq E s k n v=r):∃fX,k fX s=r∧c7 P (.load t x) ty ρ κ s w fX s:=by
 cases v<;> simp only[ai.ak] at aT<;> simp only[fq] at aQ<;> try exact absurd aQ.symm bq
 case bM cs=>obtain⟨a,e,_,h⟩:=FP bl aT;obtain⟨fX,y,aD,aG,bz⟩:=uY h bX bo aQ bq;exact⟨fX,aD,bJ bl y (fun _ _ _ _=>by simp [execOp,Instr.loadAt,e,Instr.sureAddr,aG]) (by rw[xh bz];exact bz)⟩
 case ref a off=>
  rw[←aq.hU] at aQ;cases u:a.ak s.aa with
  |l i=>cases a<;> simp [Loc.ak] at u
  |g d i=>
   rw[u] at aQ aT;obtain⟨e,bI,_⟩:=aT.na;cases bD:s.get (.g d i) with
   |none=>rw[bD] at aQ;exact absurd aQ.symm bq
   |some o=>
    rw[bD] at aQ;cases o<;> try exact absurd aQ.symm bq
    rename_i cs;have h:=uV (o0 bl bD off) (show d+1≤s.aa+1 by omega);obtain⟨fX,y,aD,aG,bz⟩:=uY h bX bo aQ bq;exact⟨fX,aD,bJ bl y (fun _ _ _ _=>by simp [execOp,Instr.loadAt,e,Instr.sureAddr,aG]) (by rw[xh bz];exact bz)⟩
end
theorem js{v:ai}{n:Nat}(h:eE v=some n):∃k,v=.int k n:=by cases v<;> simp [eE] at h;rename_i k m;exact⟨k,by rw[←h.2,Int.toNat_of_nonneg h.1]⟩
theorem M2{n m:Nat}{r:ao}{x:ao}(h:(bif Nat.ble n m then x else .fail)=r)(bq:r≠.fail):n≤m∧x=r:=by
 cases e:Nat.ble n m with
 |true=>rw[e] at h;exact⟨dW e,h⟩
 |false=>rw[e] at h;exact absurd h.symm bq
theorem cF{b:Bool}{r:ao}{x:ao}(h:(bif b then x else .fail)=r)(bq:r≠.fail):b=true∧x=r:=by
 cases b with
 |true=>exact⟨rfl,h⟩
 |false=>exact absurd h.symm bq
section
variable{P:Program}{ty:TypeId}{ρ:Operand→Value}{κ:b9}{s:aq}{w:World}(bl:dw κ s w)
include bl
theorem uZ{E:Env}(bo:E.F=.not){k:ai→aq→ao}{r:ao}(bq:r≠.fail){t:TypeId}{x:Operand}{v:ai}{i off:Nat}{j7:Array Field}{f:Field}(cB:P.underlying t=some (.struct j7))(u:j7[i]? =some f)(y:f.offset=off)
  {n:Nat}(io:fr P f.type=some n)(bX:n≠0)(aT:c8 κ (s.aa+1) (v.ak s.aa) (ρ x))(aQ:hR E s k off v=r):∃fX,k fX s=r∧c7 P (.fieldAddr t x i) ty ρ κ s w fX s:=by
 have run:∀(a:Addr),ρ x=.pointer (some a)→∀dst pos after guard,(execOp ρ ⟨dst,.fieldAddr t x i,ty,pos,after,guard⟩).run P w=.ok (.value (.pointer (some (a.add off)))) w:=by intro a h dst pos after guard;simp [execOp,Instr.fieldAt,run_underlying cB,u,h,Instr.sureAddr,fieldPlace,eo io,bX,y]
 cases v<;> simp only[ai.ak] at aT<;> simp only[hR,bo,bb.not] at aQ<;> try exact absurd aQ.symm bq
 case bM cs=>obtain⟨a,aF,e,aD,aG,bz⟩:=aT.uU;refine⟨_,aQ,bJ bl _ (run a e) ?_⟩;refine .bM _ _ (fun j=>aF (off+j)) (m6 aD _) (fun j cp=>?_) (fun j c a9=>bz _ c (by simpa using a9));rw[add_add];exact aG _ (by simp at cp;omega)
 case ref a o=>
  refine⟨_,aQ,?_⟩;cases h:a.ak s.aa with
  |l i=>cases a<;> simp [Loc.ak] at h
  |g d j=>rw[h] at aT;obtain⟨e,bI,cp⟩:=aT.na;refine bJ bl _ (run _ e) ?_;simp only[ai.ak,h,fN (show(⟨κ.loc d j,o,none⟩:Addr).spot=none from rfl)];exact .ref d j _ bI cp
omit bl in
theorem Ch{cs:List ai}{xs:List Value}{D off:Nat}(h:ea κ D cs xs){t:TypeId}{n:Option Nat}(bX:kq P t n=true){E:Env}(bo:E.F=.not){k:ai→aq→ao}{r:ao}(aQ:fc E s k n (cs.drop off)=r)(bq:r≠.fail):
  ∃v x,k v s=r∧(part t xs.toArray off).run P w=.ok x w∧c8 κ D v x:=by
 have bI:=h.drop off;cases n with
 |none=>
  cases a9:cs.drop off with
  |nil=>rw[a9] at aQ;simp [fc] at aQ;exact absurd aQ.symm bq
  |cons c e=>
   rw[a9] at aQ;simp only[fc,bo,bb.not] at aQ;rw[a9] at bI;obtain⟨x,u,gB,bG,_⟩:=bI.xg;refine⟨c,x,aQ,?_,bG⟩;have om:xs[off]? =some x:=by have:=congrArg (fun l:List Value=>l[0]?) gB;simpa using this
   simp [part,kI (show nb P t=some false by simpa [kq] using bX),om]
 |some n=>
  simp only[kq,bL,beq_iff_eq] at bX;simp only[fc,bo,bb.not] at aQ;obtain⟨br,cg⟩:=M2 aQ bq;refine⟨_,.agg ((xs.drop off).take n).toArray,cg,?_,.agg _ _ (bI.take n).1 (bI.take n).2⟩
  have:xs.toArray.extract off (off+n)=((xs.drop off).take n).toArray:=by rw[List.extract_toArray];congr 1;simp [List.extract_eq_take_drop]
  simp [part,kI bX.1,eo bX.2]
theorem C9{E:Env}(bo:E.F=.not){k:ai→aq→ao}{r:ao}(bq:r≠.fail){t:TypeId}{x:Operand}{v:ai}{i off:Nat}{n:Option Nat}{j7:Array Field}{f:Field}(cB:P.underlying t=some (.struct j7))(u:j7[i]? =some f)(B:f.offset=off)
  (bX:kq P f.type n=true)(aT:c8 κ (s.aa+1) (v.ak s.aa) (ρ x))(aQ:mq E s k off n v=r):∃fX,k fX s=r∧c7 P (.field t x i) ty ρ κ s w fX s:=by
 cases v<;> simp only[ai.ak] at aT<;> simp only[mq] at aQ<;> try exact absurd aQ.symm bq
 obtain⟨xs,e,h⟩:=aT.pK;obtain⟨fX,y,aD,aG,bz⟩:=Ch (w:=w) h bX bo aQ bq;exact⟨fX,aD,bJ bl y (fun _ _ _ _=>by simp [execOp,Instr.field,run_underlying cB,u,e,asAgg,B,aG]) (by rw[xh bz];exact bz)⟩
theorem Bs{E:Env}(bo:E.F=.not){k:ai→aq→ao}{r:ao}(bq:r≠.fail){t e:TypeId}{x y:Operand}{v i:ai}{sz len:Nat}{n:Option Nat}(cB:P.underlying t=some (.array len e))(io:fr P e=some sz)
  (bX:kq P e n=true)(aT:c8 κ (s.aa+1) (v.ak s.aa) (ρ x))(bk:c8 κ (s.aa+1) (i.ak s.aa) (ρ y))(aQ:kX E s k sz len n v i=r):∃fX,k fX s=r∧c7 P (.index t x y) ty ρ κ s w fX s:=by
 cases v<;> simp only[ai.ak] at aT<;> simp only[kX] at aQ<;> try exact absurd aQ.symm bq
 rename_i cs;obtain⟨xs,ex,h⟩:=aT.pK;cases u:eE i with
 |none=>rw[u] at aQ;exact absurd aQ.symm bq
 |some m=>
  rw[u] at aQ;obtain⟨kk,rfl⟩:=js u;have B:=bk.eA;obtain⟨H,aQ⟩:=cF aQ bq;have hm:m<len:=by simpa [Nat.blt_eq] using H
  obtain⟨fX,z,aD,aG,bz⟩:=Ch (w:=w) h bX bo aQ bq;refine⟨fX,aD,bJ bl z (fun _ _ _ _=>?_) (by rw[xh bz];exact bz)⟩;simp [execOp,Instr.index,run_underlying cB,ex,B,asIntOf,hm,eo io,aG]
theorem Bt{E:Env}(bo:E.F=.not){k:ai→aq→ao}{r:ao}(bq:r≠.fail){t:TypeId}{x y:Operand}{v i:ai}(cB:P.underlying t=some .string)
  (aT:c8 κ (s.aa+1) (v.ak s.aa) (ρ x))(bk:c8 κ (s.aa+1) (i.ak s.aa) (ρ y))(aQ:jm E s k v i=r):∃fX,k fX s=r∧c7 P (.index t x y) ty ρ κ s w fX s:=by
 cases v<;> simp only[ai.ak] at aT<;> simp only[jm] at aQ<;> try exact absurd aQ.symm bq
 rename_i eB;obtain⟨a,ex,h⟩:=aT.im;cases u:eE i with
 |none=>rw[u] at aQ;exact absurd aQ.symm bq
 |some m=>
  rw[u] at aQ;obtain⟨kk,rfl⟩:=js u;have H:=bk.eA;cases e:eB[m]? with
  |none=>simp only[e] at aQ;exact absurd aQ.symm bq
  |some b=>
   simp only[e,bo,bb.not] at aQ;refine⟨_,aQ,bJ bl (.int .u8 b) (fun _ _ _ _=>?_) (.int _ _)⟩;rw[←h,fw] at e;cases a9:a.data.toList[m]? with
   |none=>simp [a9] at e
   |some c=>
    simp only[a9,eU,bV] at e;subst e;have B:=(bZ.1 a9).1;have I:a[m]? =some c:=by
     have dY:m<a.size:=by rw[Array.length_toList] at B;exact B
     rw[getElem?_pos a m dY];have aG:=(bZ.1 a9).2;rw[ByteArray.getElem_eq_getElem_data];simpa using aG
    have key:(Instr.index t (.string a) (.int kk m)).run P w=.ok (.int .u8 c.toNat) w:=by simp only[Instr.index,Sem.run_bind,asIntOf,Sem.run_pure,Result.andThen_ok,run_underlying cB,Int.natCast_nonneg,↓reduceIte,Int.toNat_natCast,I]
    simp only[execOp,ex,H,Sem.run_bind,key,Result.andThen_ok,Sem.run_pure]
omit bl in
theorem ie{D:Nat}{v:ai}{x:Value}(h:c8 κ D v x):(∀sz es g,v=.aW sz es g→∃a c,x=.slice a es.length c)∧∀a off len cap sz,v=.cw a off len cap sz→∃p c,x=.slice p len c:=by cases h<;> refine⟨fun sz es g e=>?_,fun a off len cap sz e=>?_⟩<;> cases e<;> exact⟨_,_,rfl⟩
theorem yp{E:Env}(bo:E.F=.not){k:ai→aq→ao}{r:ao}(bq:r≠.fail){b:Bool}{t:TypeId}{d:TypeDesc}{x:Operand}{v:ai}(cB:P.underlying t=some d)(bI:(b=true∧d=.string)∨(b=false∧∃e,d=.slice e))
  (aT:c8 κ (s.aa+1) (v.ak s.aa) (ρ x))(aQ:rY E s k b v=r):∃fX,k fX s=r∧c7 P (.call {callee:=.builtin .len,args:= #[x],argTypes:= #[t]}) ty ρ κ s w fX s:=by
 have u:=ie aT;cases v<;> simp only[ai.ak] at aT u<;> rcases bI with⟨rfl,rfl⟩|⟨rfl,e,rfl⟩<;> simp only[rY,bo,bb.not] at aQ<;> try exact absurd aQ.symm bq
 case str.inl eB=>
  obtain⟨a,ex,h⟩:=aT.im;refine⟨_,aQ,bJ bl (.int .i64 eB.length) (fun _ _ _ _=>?_) (.int _ _)⟩
  have:a.size=eB.length:=by have:=congrArg List.length h;rw[b2,Array.length_toList] at this;exact this
  simp [execOp,resolve,invoke,builtin,Builtin.len_,run_underlying cB,ex,goInt,this]
 case aW.inr sz es g=>refine⟨_,aQ,bJ bl (.int .i64 es.length) (fun _ _ _ _=>?_) (.int _ _)⟩;obtain⟨a,c,ex⟩:=u.1 _ _ _ rfl;simp [execOp,resolve,invoke,builtin,Builtin.len_,run_underlying cB,ex,goInt]
 case cw.inr a off len cap sz=>refine⟨_,aQ,bJ bl (.int .i64 len) (fun _ _ _ _=>?_) (.int _ _)⟩;obtain⟨p,mN,ex⟩:=u.2 _ _ _ _ _ rfl;simp [execOp,resolve,invoke,builtin,Builtin.len_,run_underlying cB,ex,goInt]
end
theorem oo:∀(es:List ai) (sz i:Nat) (e:ai),(∀e,e∈es→e.cells.length=sz)→es[i]? =some e→∀j,j<sz→(es.flatMap ai.cells)[i*sz+j]? =e.cells[j]?
 |[],_,_,_,_,h,_,_=>by simp at h
 |x::es,sz,i,e,br,h,j,cp=>by
  have aT:=br x (by simp);simp only[List.flatMap_cons];cases i with
  |zero=>simp at h;subst h;rw[ev (by omega)];simp
  |succ i=>rw[i9 (by rw[aT,Nat.succ_mul];omega),aT,show(i+1)*sz+j-sz=i*sz+j by rw[Nat.succ_mul];omega];exact oo es sz i e (fun e he=>br e (by simp [he])) (by simpa using h) j cp
theorem eO:∀(es:List ai) (sz:Nat),(∀e,e∈es→e.cells.length=sz)→(es.flatMap ai.cells).length=es.length*sz
 |[],sz,_=>by simp
 |x::es,sz,br=>by simp only[List.flatMap_cons,dm,c0,br x (by simp),eO es sz (fun e he=>br e (by simp [he])),Nat.succ_mul];omega
theorem c8.ie{κ:b9}{D sz:Nat}{es:List ai}{g:cd}{x:Value}(h:c8 κ D (.aW sz es g) x):(es=[]∧g=.nil∧x=.slice none 0 0)∨
  ∃(a:Addr) (cap:Nat) (aF:Nat→Value),x=.slice (some a) es.length cap∧iP κ D sz g es.length a cap∧es.length≤cap∧(es≠[]→a.spot=none)∧(∀e,e∈es→e.cells.length=sz)∧x9 g es∧
   (∀j,j<(es.flatMap ai.cells).length→κ.F (a.add j)=some (aF j))∧∀(j:Nat) (c:ai),(es.flatMap ai.cells)[j]? =some c→c8 κ D c (aF j):=by
 cases h with
 |lr=>exact .inl ⟨rfl,rfl,rfl⟩
 |aW=>exact .inr ⟨_,_,_,rfl,by assumption,by assumption,by assumption,by assumption,by assumption,by assumption,by assumption⟩
section
variable{P:Program}{ty:TypeId}{ρ:Operand→Value}{κ:b9}{s:aq}{w:World}(bl:dw κ s w)
include bl
theorem Da{E:Env}(bo:E.F=.not){k:ai→aq→ao}{r:ao}(bq:r≠.fail){t e:TypeId}{x y:Operand}{v i:ai}{sz:Nat}(cB:P.underlying t=some (.slice e))(io:fr P e=some sz)
  (aT:c8 κ (s.aa+1) (v.ak s.aa) (ρ x))(bk:c8 κ (s.aa+1) (i.ak s.aa) (ρ y))(aQ:mZ E s k sz v i=r):∃fX,k fX s=r∧c7 P (.indexAddr t x y) ty ρ κ s w fX s:=by
 unfold mZ at aQ;cases H:eE i with
 |none=>rw[H] at aQ;exact absurd aQ.symm bq
 |some m=>
  rw[H] at aQ;obtain⟨kk,rfl⟩:=js H;have I:=bk.eA;have run:∀(a:Addr) (len cap:Nat),ρ x=.slice (some a) len cap→m<len→∀dst pos after guard,(execOp ρ ⟨dst,.indexAddr t x y,ty,pos,after,guard⟩).run P w=.ok (.value (.pointer (some (a.add (m*sz))))) w:=by intro a len cap u hm dst pos after guard;simp [execOp,Instr.indexAt,run_underlying cB,u,I,asIntOf,hm,eo io]
  cases v<;> simp only[ai.ak] at aT<;> simp only[bo,bb.not] at aQ<;> try exact absurd aQ.symm bq
  case aW z es g=>
   obtain⟨B,h⟩:=cF aQ bq;clear aQ;obtain rfl:z=sz:=c2 B;cases he:es[m]? with
   |none=>rw[he] at h;exact absurd h.symm bq
   |some el=>
    rw[he] at h;simp only at h;refine⟨_,h,?_⟩;have hm:=(bZ.1 he).1;rcases aT.ie with⟨rfl,_,_⟩|⟨a,cap,aF,ex,aD,aG,bz,cz,M,J,K⟩
    ·simp at he
    ·refine bJ bl _ (run a _ _ ex hm) ?_;have j0:=cz el (List.mem_of_getElem? he);have L:=eO es z cz;refine .bM _ _ (fun j=>aF (m*z+j)) (m6 (bz (fun kR=>by simp_all)) _) (fun j cp=>?_) (fun j c a9=>?_)
     ·rw[add_add];refine J _ ?_;rw[L]
      have:(m+1)*z≤es.length*z:=e7 _ hm;rw[Nat.succ_mul] at this;omega
     ·have cp:j<z:=by rw[←j0];exact(bZ.1 a9).1
      exact K _ c (by rw[oo es z m el cz he j cp];exact a9)
  case cw a off len cap z=>
   obtain⟨B,h⟩:=cF aQ bq;clear aQ;rw[bL] at B;obtain rfl:z=sz:=c2 B.1;have hm:m<len:=by simpa [Nat.blt_eq] using B.2
   refine⟨_,h,?_⟩;cases u:a.ak s.aa with
   |l i=>cases a<;> simp [Loc.ak] at u
   |g d j=>rw[u] at aT;obtain⟨mN,hN,bI,cp,_⟩:=aT.k0;refine bJ bl _ (run _ _ _ hN hm) ?_;simp only[ai.ak,u,fN (show(⟨κ.loc d j,off,none⟩:Addr).spot=none from rfl)];exact .ref d j _ bI cp
theorem Bu{E:Env}(bo:E.F=.not){k:ai→aq→ao}{r:ao}(bq:r≠.fail){t e:TypeId}{x y:Operand}{v i:ai}{sz len:Nat}(cB:P.underlying t=some (.array len e))(io:fr P e=some sz)
  (aT:c8 κ (s.aa+1) (v.ak s.aa) (ρ x))(bk:c8 κ (s.aa+1) (i.ak s.aa) (ρ y))(aQ:jl E s k sz len v i=r):∃fX,k fX s=r∧c7 P (.indexAddr t x y) ty ρ κ s w fX s:=by
 unfold jl at aQ;cases B:eE i with
 |none=>rw[B] at aQ;exact absurd aQ.symm bq
 |some m=>
  rw[B] at aQ;obtain⟨kk,rfl⟩:=js B;have H:=bk.eA;obtain⟨I,u⟩:=cF aQ bq;clear aQ;have hm:m<len:=by simpa [Nat.blt_eq] using I
  have run:∀(a:Addr),ρ x=.pointer (some a)→∀dst pos after guard,(execOp ρ ⟨dst,.indexAddr t x y,ty,pos,after,guard⟩).run P w=.ok (.value (.pointer (some (a.add (m*sz))))) w:=by intro a h dst pos after guard;simp [execOp,Instr.indexAt,run_underlying cB,h,H,asIntOf,hm,eo io,Instr.sureAddr]
  cases v<;> simp only[ai.ak] at aT<;> simp only[bo,bb.not] at u<;> try exact absurd u.symm bq
  case bM cs=>obtain⟨a,aF,hN,aD,aG,bz⟩:=aT.uU;refine⟨_,u,bJ bl _ (run a hN) ?_⟩;refine .bM _ _ (fun j=>aF (m*sz+j)) (m6 aD _) (fun j cp=>?_) (fun j c a9=>bz _ c (by simpa using a9));rw[add_add];exact aG _ (by simp at cp;omega)
  case ref a o=>
   refine⟨_,u,?_⟩;cases h:a.ak s.aa with
   |l i=>cases a<;> simp [Loc.ak] at h
   |g d j=>rw[h] at aT;obtain⟨hN,bI,cp⟩:=aT.na;refine bJ bl _ (run _ hN) ?_;simp only[ai.ak,h,fN (show(⟨κ.loc d j,o,none⟩:Addr).spot=none from rfl)];exact .ref d j _ bI cp
omit bl in
theorem u0{v:ai}{m y:Nat}{x:Value}{D:Nat}(h:eE v=some m)(aT:c8 κ D v x)(hm:m≤y)(code:BoundsCode):(Instr.sliceBound x y code).run P w=.ok m w:=by obtain⟨kk,rfl⟩:=js h;rw[aT.eA];simp [Instr.sliceBound,asIntOf,hm]
omit bl in
theorem M3{v:ai}{m:Nat}(h:eE v=some m)(d:Nat):v.ak d=v:=by obtain⟨kk,rfl⟩:=js h;rfl
omit bl in
theorem FR{G:Nat→ai}{aC:Nat→ai}{a:Act}(b7:Cg κ s aC a)(dL:ly κ G){o:Option bR}{p:Option Operand}(h:ff o p=true){r m:Nat}(e:cS G aC o r=some m):
  (o=none∧p=none∧m=r)∨∃x y v,o=some x∧p=some y∧eE v=some m∧c8 κ (s.aa+1) v (a.eval y):=by
 cases o with
 |none=>cases p with
  |none=>simp [cS] at e;exact .inl ⟨rfl,rfl,e.symm⟩
  |some y=>simp [ff] at h
 |some x=>cases p with
  |none=>simp [ff] at h
  |some y=>simp only[cS] at e;have bG:=bS b7 dL (show cr x y=true by simpa [ff] using h);rw[M3 e] at bG;exact .inr ⟨x,y,_,rfl,rfl,e,bG⟩
omit bl in
theorem rv{G:Nat→ai}{aC:Nat→ai}{a:Act}(b7:Cg κ s aC a)(dL:ly κ G){o:Option bR}{p:Option Operand}(h:ff o p=true){e m:Nat}(r:cS G aC o e=some m):
  (o=none∧p=none∧m=e)∨∃x y,o=some x∧p=some y∧∀(Y:Nat) (code:BoundsCode),m≤Y→(Instr.sliceBound (a.eval y) Y code).run P w=.ok m w:=by
 rcases FR b7 dL h r with aD|⟨x,y,v,aD,aG,bz,cz⟩
 ·exact .inl aD
 ·exact .inr ⟨x,y,aD,aG,fun Y code hm=>u0 bz cz hm code⟩
omit bl in
theorem hh{G:Nat→ai}{aC:Nat→ai}{a:Act}(b7:Cg κ s aC a)(dL:ly κ G){eQ bk iU:Option bR}{e r u:Option Operand}(y:ff eQ e=true)(B:ff bk r=true)(H:ff iU u=true)
  {l h m len cap:Nat}(kT:cS G aC eQ 0=some l)(I:cS G aC bk len=some h)(J:cS G aC iU cap=some m)(aD:l≤h)(aG:h≤m)(bz:m≤cap)(K:iU.isSome=true→bk.isSome=true)(L:Bool):
  (Instr.sliceBounds L len cap (e.map a.eval) (r.map a.eval) (u.map a.eval)).run P w=.ok (l,h,m) w:=by
 have M:h≤cap:=by omega
 rcases rv (P:=P) (w:=w) b7 dL y kT with⟨rfl,rfl,rfl⟩|⟨N,O,rfl,rfl,Q⟩ <;>
 rcases rv (P:=P) (w:=w) b7 dL B I with⟨rfl,rfl,rfl⟩|⟨R,U,rfl,rfl,V⟩ <;>
 rcases rv (P:=P) (w:=w) b7 dL H J with⟨rfl,rfl,rfl⟩|⟨Y,Z,rfl,rfl,aa⟩ <;>
 first
  |(simp at K;done)
  |simp (discharger:=omega) [Instr.sliceBounds, *]
end
section
variable{P:Program}{ty:TypeId}{ρ:Operand→Value}{κ:b9}{s:aq}{w:World}(bl:dw κ s w)
theorem oq(a:ByteArray)(l h:Nat):(a.extract l h).data.toList=(a.data.toList.drop l).take (h-l):=by simp [List.extract_eq_take_drop]
include bl
theorem Bv{E:Env}(bo:E.F=.not){k:ai→aq→ao}{r:ao}(bq:r≠.fail){aC:Nat→ai}{a:Act}(b7:Cg κ s aC a)(dL:ly κ E.aS){t:TypeId}{x:bR}{y:Operand}{eQ bk:Option bR}{B H:Option Operand}(cB:P.underlying t=some .string)
  (J:cr x y=true)(K:ff eQ B=true)(L:ff bk H=true)(aQ:ka E aC s k (aL E.aS aC x) eQ bk=r):∃fX,k fX s=r∧c7 P (.slice t y B H none) ty a.eval κ s w fX s:=by
 have aT:=bS b7 dL J;generalize bG:aL E.aS aC x=v at aT aQ;cases v<;> simp only[ai.ak] at aT<;> simp only[ka] at aQ<;> try exact absurd aQ.symm bq
 rename_i eB;cases kT:cS E.aS aC eQ 0 with
 |none=>simp only[kT] at aQ;exact absurd aQ.symm bq
 |some l=>
  cases e:cS E.aS aC bk eB.length with
  |none=>simp only[kT,e] at aQ;exact absurd aQ.symm bq
  |some h=>
   simp only[kT,e,bo,bb.not] at aQ;obtain⟨u,M⟩:=cF aQ bq;rw[bL] at u;have aD:=dW u.1;have aG:=dW u.2;obtain⟨c,ex,a9⟩:=aT.im;have dY:c.size=eB.length:=by have:=congrArg List.length a9;rw[b2,Array.length_toList] at this;exact this
   refine⟨_,M,bJ bl (.string (c.extract l h)) (fun _ _ _ _=>?_) (.str _ _ ?_)⟩
   ·have I:=hh (P:=P) (w:=w) b7 dL K L (show ff none none=true from rfl) (len:=c.size) (cap:=c.size) kT (by rw[dY];exact e) (m:=c.size) rfl aD (by omega) (aX _) (by simp) false;simp only[Option.map_none] at I;simp [execOp,Instr.sliceAt,Instr.slice,run_underlying cB,ex,I]
   ·rw[oq,List.map_take,List.map_drop,a9]
theorem Bw{E:Env}(bo:E.F=.not){k:ai→aq→ao}{r:ao}(bq:r≠.fail){aC:Nat→ai}{a:Act}(b7:Cg κ s aC a)(dL:ly κ E.aS){t e:TypeId}{sz n:Nat}{x:bR}{y:Operand}{eQ bk iU:Option bR}{B H I:Option Operand}(cB:P.underlying t=some (.array n e))(io:fr P e=some sz)
  (M:cr x y=true)(N:ff eQ B=true)(O:ff bk H=true)(Q:ff iU I=true)(R:iU.isSome=true→bk.isSome=true)(aQ:iO E aC s k sz n (aL E.aS aC x) eQ bk iU=r):∃fX,k fX s=r∧c7 P (.slice t y B H I) ty a.eval κ s w fX s:=by
 have aT:=bS b7 dL M;generalize bG:aL E.aS aC x=v at aT aQ;have run:∀(A:Addr) (l h m:Nat),a.eval y=.pointer (some A)→(Instr.sliceBounds false n n (B.map a.eval) (H.map a.eval) (I.map a.eval)).run P w=.ok (l,h,m) w→∀dst pos after guard,(execOp a.eval ⟨dst,.slice t y B H I,ty,pos,after,guard⟩).run P w=.ok (.value (.slice (some (if m=l then A else A.add (l*sz))) (h-l) (m-l))) w:=by intro A l h m ex u dst pos after guard;simp [execOp,Instr.sliceAt,run_underlying cB,ex,u,eo io,Instr.sureAddr]
 cases v<;> simp only[ai.ak] at aT<;> simp only[iO] at aQ<;> try exact absurd aQ.symm bq
 rename_i b off;cases kT:cS E.aS aC eQ 0 with
 |none=>simp only[kT] at aQ;exact absurd aQ.symm bq
 |some l=>
  cases J:cS E.aS aC bk n with
  |none=>simp only[kT,J] at aQ;exact absurd aQ.symm bq
  |some h=>
   cases K:cS E.aS aC iU n with
   |none=>simp only[kT,J,K] at aQ;exact absurd aQ.symm bq
   |some m=>
    simp only[kT,J,K,bo,bb.not] at aQ;obtain⟨u,U⟩:=cF aQ bq;simp only[bL] at u;have aD:=dW u.1.1;have aG:=dW u.1.2;have bz:=dW u.2;refine⟨_,U,?_⟩;cases L:b.ak s.aa with
    |l i=>cases b<;> simp [Loc.ak] at L
    |g d j=>
     rw[L] at aT;obtain⟨ex,bI,cp⟩:=aT.na;have V:=hh (P:=P) (w:=w) b7 dL N O Q (len:=n) (cap:=n) kT J K aD aG bz R false;refine bJ bl _ (run _ _ _ _ ex V) ?_;simp only[ai.ak,L]
     have:(if m=l then(⟨κ.loc d j,off,none⟩:Addr) else(⟨κ.loc d j,off,none⟩:Addr).add (l*sz))=⟨κ.loc d j,if m=l then off else off+l*sz,none⟩:=by
      split
      ·rfl
      ·simp [fN]
     rw[this];exact .cw d j _ _ _ _ sz bI cp (by omega) (.inl rfl)
omit bl in
theorem x9.left{g:cd}{es:List ai}(h:x9 g es)(bD:∀d j,g≠.bQ (.g d j)):∀e,e∈es→e.bp=true:=by
 rcases h with h|⟨d,j,e,_⟩
 ·exact h
 ·exact absurd e (bD d j)
omit bl in
theorem x9.part{g':cd}{es:List ai}(h:∀e,e∈es→e.bp=true)(l n:Nat):x9 g' ((es.drop l).take n):=.inl fun e he=>h e (List.mem_of_mem_drop (List.mem_of_mem_take he))
theorem Db{E:Env}(bo:E.F=.not){k:ai→aq→ao}{r:ao}(bq:r≠.fail){aC:Nat→ai}{a:Act}(b7:Cg κ s aC a)(dL:ly κ E.aS){t e:TypeId}{sz:Nat}{x:bR}{y:Operand}{eQ bk iU:Option bR}{Y Z M:Option Operand}(cB:P.underlying t=some (.slice e))(io:fr P e=some sz)
  (al:cr x y=true)(ab:ff eQ Y=true)(ac:ff bk Z=true)(N:ff iU M=true)(ag:iU.isSome=true→bk.isSome=true)(aQ:ko E aC s k sz (aL E.aS aC x) eQ bk iU=r):∃fX,k fX s=r∧c7 P (.slice t y Y Z M) ty a.eval κ s w fX s:=by
 have aT:=bS b7 dL al;generalize bG:aL E.aS aC x=v at aT aQ;have run:∀(A:Option Addr) (len cap l h m:Nat),a.eval y=.slice A len cap→(Instr.sliceBounds true len cap (Y.map a.eval) (Z.map a.eval) (M.map a.eval)).run P w=.ok (l,h,m) w→∀dst pos after guard,(execOp a.eval ⟨dst,.slice t y Y Z M,ty,pos,after,guard⟩).run P w=.ok (.value (.slice (if m=l then A else A.map (·.add (l*sz))) (h-l) (m-l))) w:=by intro A len cap l h m ex u dst pos after guard;simp [execOp,Instr.sliceAt,Instr.slice,run_underlying cB,ex,u,eo io]
 cases v<;> simp only[ai.ak] at aT<;> simp only[ko] at aQ<;> try exact absurd aQ.symm bq
 case aW z es g=>
  cases kT:cS E.aS aC eQ 0 with
  |none=>simp only[kT] at aQ;exact absurd aQ.symm bq
  |some l=>
   cases B:cS E.aS aC bk es.length with
   |none=>simp only[kT,B] at aQ;exact absurd aQ.symm bq
   |some h=>
    simp only[kT,B,bo,bb.not] at aQ;have part:∀(A:Addr) (cap:Nat) (aF:Nat→Value) (g':cd),(es≠[]→A.spot=none)→(∀e,e∈es→e.cells.length=sz)→x9 (g'.ak s.aa) ((es.drop l).take (h-l))→
      (∀j,j<(es.flatMap ai.cells).length→κ.F (A.add j)=some (aF j))→(∀(j:Nat) (c:ai),(es.flatMap ai.cells)[j]? =some c→c8 κ (s.aa+1) c (aF j))→l≤h→h≤es.length→∀m,h≤m→
      iP κ (s.aa+1) sz (g'.ak s.aa) (h-l) (if m=l then A else A.add (l*sz)) (m-l)→g'.ak s.aa≠.nil→
      c8 κ (s.aa+1) ((ai.aW sz ((es.drop l).take (h-l)) g').ak s.aa) (.slice (some (if m=l then A else A.add (l*sz))) (h-l) (m-l)):=by
     intro A cap aF g' O cz H Q R az am m aA bD I;have hlen:((es.drop l).take (h-l)).length=h-l:=by simp;omega
     simp only[ai.ak];have hV:∀e,e∈(es.drop l).take (h-l)→e∈es:=fun e he=>List.mem_of_mem_drop (List.mem_of_mem_take he)
     have an:=eO es sz cz;have ah:=eO _ sz (fun e he=>cz e (hV e he));have ap:∀j,j<(h-l)*sz→((((es.drop l).take (h-l))).flatMap ai.cells)[j]? =(es.flatMap ai.cells)[l*sz+j]?:=by
      intro j cp;have ar:0<sz:=Nat.pos_of_ne_zero (fun cL=>by rw[cL] at cp;simp at cp);have dQ:j/sz<h-l:=Nat.div_lt_of_lt_mul (by rw[dE];exact cp);have hF:j%sz<sz:=Nat.mod_lt _ ar;have FM:j=j/sz*sz+j%sz:=by rw[dE];exact(Nat.div_add_mod j sz).symm
      have hle:l+j/sz<es.length:=by omega
      have bU:((es.drop l).take (h-l))[j/sz]? =some es[l+j/sz]:=by rw[List.getElem?_take,if_pos dQ,List.getElem?_drop,dM hle]
      have as:es[l+j/sz]? =some es[l+j/sz]:=dM hle;have f1:=oo _ sz _ _ (fun e he=>cz e (hV e he)) bU (j%sz) hF;have f2:=oo es sz _ _ cz as (j%sz) hF;rw[←FM] at f1;rw[f1,←f2];congr 1;rw[e0];omega
     by_cases aj:m=l
     ·have cL:h-l=0:=by omega
      rw[if_pos aj] at bD ⊢;have au:(es.drop l).take (h-l)=[]:=by rw[cL];simp
      rw[au];rw[cL] at bD ⊢;exact .aW sz [] _ A _ aF bD (Nat.zero_le _) (fun h=>absurd rfl h) (fun e he=>by simp at he) (.inl fun e he=>by simp at he) (fun j cp=>by simp at cp) (fun j c a9=>by simp at a9)
     ·rw[if_neg aj] at bD ⊢;have key:c8 κ (s.aa+1) (ai.aW sz ((es.drop l).take (h-l)) (g'.ak s.aa)) (.slice (some (A.add (l*sz))) ((es.drop l).take (h-l)).length (m-l)):=by
       refine .aW sz _ _ _ _ (fun j=>aF (l*sz+j)) (by rw[hlen];exact bD) (by rw[hlen];omega) (fun cQ=>m6 (O (fun kR=>cQ (by simp [kR]))) _) (fun e he=>cz e (hV e he)) H (fun j cp=>?_) (fun j c a9=>?_)
       ·rw[add_add];refine Q _ ?_;rw[ah,hlen] at cp;rw[an]
        have:h*sz≤es.length*sz:=e7 _ am;have aB:l*sz+(h-l)*sz=h*sz:=by rw[←e0];congr 1;omega
        omega
       ·have cp:=(bZ.1 a9).1;rw[ah,hlen] at cp;rw[ap j cp] at a9;exact R _ c a9
      rw[hlen] at key;exact key
    cases iU with
    |none=>
     cases M with
     |some y=>simp [ff] at N
     |none=>
     simp only at aQ;obtain⟨u,U⟩:=cF aQ bq;rw[bL,bL,bL] at u;have V:z=sz:=(c2 u.1.1.1).symm;subst V;have aD:=dW u.1.1.2;have aG:=dW u.1.2;have ad:=u.2;refine⟨_,U,?_⟩;rcases aT.ie with⟨rfl,bD,ex⟩|⟨A,cap,aF,ex,bD,bX,O,cz,H,Q,R⟩
     ·have I:g=.nil:=by cases g<;> simp_all [cd.ak]
      subst I;simp only[ek,Nat.le_zero_eq] at aG;subst aG;simp only[Nat.le_zero_eq] at aD;subst aD;have K:=hh (P:=P) (w:=w) b7 dL ab ac N (len:=0) (cap:=0) kT B (m:=0) rfl (aX _) (aX _) (aX _) (by simp) true;exact bJ bl _ (run _ _ _ _ _ _ ex K) (by simp;exact .lr z)
     ·have K:=hh (P:=P) (w:=w) b7 dL ab ac N (len:=es.length) (cap:=cap) kT B (m:=cap) rfl aD (by omega) (aX _) (by simp) true;refine bJ bl _ (run _ _ _ _ _ _ ex K) ?_;have aU:=fun g' av ae I=>part A cap aF g' O cz av Q R aD aG cap (by omega) ae I
      have bU:(if cap=l then some A else Option.map (fun x=>x.add (l*z)) (some A))=some (if cap=l then A else A.add (l*z)):=by split<;> rfl
      rw[bU];cases g with
      |nil=>simp [cd.ak,iP] at bD
      |any=>exact aU .any (.part (H.left (by simp [cd.ak])) l (h-l)) trivial (by simp [cd.ak])
      |exact=>
       simp only[cd.ak,iP] at bD;subst bD;by_cases J:h=es.length
       ·subst J;simp only[↓reduceIte];exact aU .exact (.part (H.left (by simp [cd.ak])) l _) rfl (by simp [cd.ak])
       ·simp only[J,↓reduceIte];exact aU .any (.part (H.left (by simp [cd.ak])) l (h-l)) trivial (by simp [cd.ak])
      |bQ b=>
       by_cases J:l=0∧h=es.length
       ·obtain⟨rfl,rfl⟩:=J;simp only[true_and,↓reduceIte];refine aU (.bQ b) (by simpa using H) ?_ (by simp [cd.ak]);simp only[Nat.sub_zero,Nat.zero_mul,Addr.add,↓reduceIte];simpa using bD
       ·have hi:∀e,e∈es→e.bp=true:=by
         simp only[qC,Bool.or_eq_true,bL] at ad;rcases ad with⟨aw,ax⟩|q
         ·exact absurd ⟨c2 aw,c2 ax⟩ J
         ·exact eh.1 q
        simp only[J,↓reduceIte];exact aU .any (.part hi l (h-l)) trivial (by simp [cd.ak])
    |some ay=>
     cases M with
     |none=>simp [ff] at N
     |some aE=>
     cases L:eE (aL E.aS aC ay) with
     |none=>simp only[L] at aQ;cases g<;> simp only at aQ<;> exact absurd aQ.symm bq
     |some m=>
      simp only[L] at aQ;have I:g≠.nil:=by rintro rfl;exact absurd aQ.symm bq
      have hF:(bif Nat.beq sz z&&Nat.ble l h&&Nat.ble h m&&Nat.ble m es.length&&pH g es then k (.aW z ((es.drop l).take (h-l)) (if h=m then .exact else .any)) s else .fail)=r:=by cases g<;> first|exact absurd rfl I|exact aQ
      obtain⟨u,U⟩:=cF hF bq;simp only[bL] at u;have V:z=sz:=(c2 u.1.1.1.1).symm;subst V;have aD:=dW u.1.1.1.2;have aG:=dW u.1.1.2;have bz:=dW u.1.2;have ad:=u.2;refine⟨_,U,?_⟩;rcases aT.ie with⟨rfl,bD,ex⟩|⟨A,cap,aF,ex,bD,bX,O,cz,H,Q,R⟩
      ·exact absurd (by cases g<;> simp_all [cd.ak]) I
      ·have K:=hh (P:=P) (w:=w) b7 dL ab ac N (len:=es.length) (cap:=cap) kT B (m:=m) L aD aG (by omega) ag true;refine bJ bl _ (run _ _ _ _ _ _ ex K) ?_;have hi:∀e,e∈es→e.bp=true:=by
        cases g with
        |bQ b=>exact eh.1 ad
        |nil=>exact H.left (by simp [cd.ak])
        |exact=>exact H.left (by simp [cd.ak])
        |any=>exact H.left (by simp [cd.ak])
       have aU:=fun g' ae I=>part A cap aF g' O cz (.part hi l (h-l)) Q R aD (by omega) m aG ae I
       have bU:(if m=l then some A else Option.map (fun x=>x.add (l*z)) (some A))=some (if m=l then A else A.add (l*z)):=by split<;> rfl
       rw[bU];by_cases J:h=m
       ·subst J;simp only[↓reduceIte];exact aU .exact rfl (by simp [cd.ak])
       ·simp only[J,↓reduceIte];exact aU .any trivial (by simp [cd.ak])
 case cw b off len cap z=>
  cases kT:cS E.aS aC eQ 0 with
  |none=>simp only[kT] at aQ;exact absurd aQ.symm bq
  |some l=>
   cases B:cS E.aS aC bk len with
   |none=>simp only[kT,B] at aQ;exact absurd aQ.symm bq
   |some h=>
    cases L:cS E.aS aC iU cap with
    |none=>simp only[kT,B,L] at aQ;exact absurd aQ.symm bq
    |some m=>
     simp only[kT,B,L,bo,bb.not] at aQ;obtain⟨u,U⟩:=cF aQ bq;simp only[bL] at u;have V:z=sz:=(c2 u.1.1.1.1).symm;subst V;have aD:=dW u.1.1.1.2;have aG:=dW u.1.1.2;have bz:=dW u.1.2;have w2:=dW u.2;refine⟨_,U,?_⟩;cases af:b.ak s.aa with
     |l i=>cases b<;> simp [Loc.ak] at af
     |g d j=>
      rw[af] at aT;obtain⟨ex,bI,cp⟩:=aT.ZU w2;have K:=hh (P:=P) (w:=w) b7 dL ab ac N (len:=len) (cap:=cap) kT B L aD aG bz ag true;refine bJ bl _ (run _ _ _ _ _ _ ex K) ?_;simp only[ai.ak,af]
      have:(if m=l then some (⟨κ.loc d j,off,none⟩:Addr) else Option.map (fun(x:Addr)=>x.add (l*z)) (some ⟨κ.loc d j,off,none⟩))=some ⟨κ.loc d j,if m=l then off else off+l*z,none⟩:=by
       split
       ·rfl
       ·simp [fN]
      rw[this];exact .cw d j _ _ _ _ z bI cp (by omega) (.inl rfl)
end
theorem Dc(l:List Value):∀(n:Nat) (cs:Array Value) (off:Nat),(l.zipIdx n).foldl (fun cs (p:Value×Nat)=>cs.setIfInBounds (off+p.2) p.1) cs=(dq cs.toList (off+n) l).toArray:=by
 induction l with
 |nil=>intro n cs off;simp [dq]
 |cons v l e=>intro n cs off;simp only[List.zipIdx_cons,List.foldl_cons,dq];rw[e (n+1)];congr 1;simp [Array.toList_setIfInBounds,Nat.add_assoc]
theorem q9(C:Array Value)(cs:Array Value)(off:Nat):C.zipIdx.foldl (fun cs (p:Value×Nat)=>cs.setIfInBounds (off+p.2) p.1) cs=(dq cs.toList off C.toList).toArray:=by rw[←Array.foldl_toList,Array.toList_zipIdx,Dc];simp
section
variable{P:Program}{ty:TypeId}{ρ:Operand→Value}{κ:b9}{s:aq}{w:World}(bl:dw κ s w)
def k1(place:Nat→Option (Nat×Nat)):List (Nat×Nat×bR)→List (Nat×Operand)→Bool
 |[],[]=>true
 |(off,sz,x)::fk,(i,y)::e=>(place i==some (off,sz))&&cr x y&&k1 place fk e
 |_,_=>false
theorem yq{G:Nat→ai}{aC:Nat→ai}{a:Act}(b7:Cg κ s aC a)(dL:ly κ G)(place:Nat→Option (Nat×Nat)):∀(fk:List (Nat×Nat×bR)) (B:List (Nat×Operand)) (cs u:List ai) (xs:List Value),
  k1 place fk B=true→ea κ (s.aa+1) cs xs→e9 G s.aa aC cs fk=some u→∃H,Instr.fill place xs.toArray (B.map fun p=>(p.1,a.eval p.2))=some H.toArray∧ea κ (s.aa+1) u H
 |[],[],cs,u,xs,_,h,bq=>by simp only[e9,bV] at bq;exact⟨xs,rfl,bq ▸ h⟩
 |[],_::_,_,_,_,h,_,_=>by simp [k1] at h
 |_::_,[],_,_,_,h,_,_=>by simp [k1] at h
 |(off,sz,x)::fk,(i,y)::B,cs,u,xs,b6,h,bq=>by
  simp only[k1,bL,beq_iff_eq] at b6;simp only[e9] at bq;have aT:=bS b7 dL b6.1.2;generalize (aL G aC x).ak s.aa=v at aT bq;cases r:(v.fo&&Nat.beq v.cells.length sz&&Nat.ble (off+sz) cs.length) with
  |false=>rw[r] at bq;simp at bq
  |true=>
   rw[r,cb] at bq;simp only[bL] at r;have bG:=aT.cells r.1.1;have aD:=c2 r.1.2;have aG:=dW r.2;have bz:=h.dq bG (o:=off) (by omega);obtain⟨H,e,I⟩:=yq b7 dL place fk B _ u _ b6.2 bz bq;refine⟨H,?_,I⟩;have dY:(a.eval y).cells.size=sz:=by rw[←Array.length_toList,bG.1,aD]
   have hle:¬(off+(a.eval y).cells.size>xs.toArray.size):=by simp only[List.size_toArray,h.1,dY];omega
   have J:decide (off+(a.eval y).cells.size>xs.toArray.size)=false:=aM hle;have K:=q9 (a.eval y).cells xs.toArray off;simp only[fU,Instr.fill,b6.1.1,dY,ne_eq,not_true_eq_false,c9,Bool.false_or];rw[←dY,J];simp only[co,↓reduceIte];rw[K];exact e
def jL(P:Program)(t:TypeId)(z:List ai):Bool:=
 match (P.info? t).bind (·.zero) with
 |some v=>nH z v.cells.toList
 |none=>false
theorem mO{t:TypeId}{z:List ai}(h:jL P t z=true)(w:World):∃v,(zeroValue t).run P w=.ok v w∧(∀κ D,ea κ D z v.cells.toList)∧ai.bj z=true∧∃i,P.info? t=some i∧i.zero=some v:=by
 unfold jL at h;cases bk:P.info? t with
 |none=>simp [bk] at h
 |some i=>
  cases io:i.zero with
  |none=>simp [bk,io] at h
  |some v=>simp only[bk,hk,io] at h;obtain⟨aD,aG⟩:=n0 _ _ h;exact⟨v,by simp [zeroValue,typeInfo,bk,io],aD,aG,i,rfl,io⟩
include bl
theorem yr{v:Value}{t:TypeId}{o:Op}{cs:List ai}(a9:ea κ (s.aa+1) cs v.cells.toList)(h:∀dst pos after guard,(execOp ρ ⟨dst,o,ty,pos,after,guard⟩).run P w=.ok (.value (.pointer (some ⟨w.heap.size,0,none⟩))) (w.alloc (.cells v.cells t))):
  c7 P o ty ρ κ s w (.ref (.l s.own.length) 0) (s.new (.cells cs)):=by
 obtain⟨κ',aD,aG,bz,cz⟩:=bl.vC cs v.cells t a9 (w':=w.alloc (.cells v.cells t)) rfl rfl rfl rfl;refine⟨_,κ',_,.inl h,aG,aD,?_⟩;simp only[ai.ak,Loc.ak];rw[←bz];exact .ref _ _ _ (Nat.lt_succ_self _) cz
theorem Dd{t:TypeId}{z:List ai}(io:jL P t z=true):c7 P (.alloc t) ty ρ κ s w (.ref (.l s.own.length) 0) (s.new (.cells z)):=by obtain⟨v,e,aD,_,_⟩:=mO io w;exact yr bl (v:=v) (t:=t) (aD _ _) (fun _ _ _ _=>by simp [execOp,Instr.alloc,e,newVar,newRow])
theorem Bx{t:TypeId}{x:Operand}{v:ai}(aT:c8 κ (s.aa+1) (v.ak s.aa) (ρ x))(bG:v.fo=true):c7 P (.box t x) ty ρ κ s w (.ref (.l s.own.length) 0) (s.new (.cells (v.ak s.aa).cells)):=
 yr bl (v:=ρ x) (t:=t) (aT.cells (by rw[yj];exact bG)) (fun _ _ _ _=>by simp [execOp,Instr.box,newVar,newRow])
theorem ra{C:Array Value}{t:TypeId}{o:Op}{cs:List ai}(a9:ea κ (s.aa+1) cs C.toList)(x:Addr→Value)(v:ai)(e:∀κ',hJ κ κ' (s.aa+1)→(∀j,j<cs.length→κ'.F ⟨w.heap.size,j,none⟩=C[j]?)→c8 κ' (s.aa+1) (v.ak s.aa) (x ⟨w.heap.size,0,none⟩))
  (h:∀dst pos after guard,(execOp ρ ⟨dst,o,ty,pos,after,guard⟩).run P w=.ok (.value (x ⟨w.heap.size,0,none⟩)) (w.alloc (.cells C t))):c7 P o ty ρ κ s w v s:=by
 obtain⟨aD,aG⟩:=bl.r5 (w':=w.alloc (.cells C t)) C t (0,0) rfl rfl rfl rfl;have br:C.size=cs.length:=by simpa using a9.1
 refine⟨_,_,_,.inl h,aG,aD,e _ aG.k (fun j cp=>?_)⟩;rw[oX (Nat.zero_le _) (by omega),Array.getElem?_eq_getElem (by omega)]
theorem De{t:TypeId}{x:Operand}{v:ai}(aT:c8 κ (s.aa+1) (v.ak s.aa) (ρ x))(bG:v.fo=true):c7 P (.box t x) ty ρ κ s w (.bM (v.ak s.aa).cells) s:=by
 have a9:=aT.cells (by rw[yj];exact bG);refine ra bl (t:=t) a9 (fun a=>.pointer (some a)) _ (fun κ' cg kQ=>?_) (fun _ _ _ _=>by simp [execOp,Instr.box,newVar,newRow]);refine .bM _ _ (fun j=>(ρ x).cells.getD j undef) rfl (fun j cp=>?_) (fun j c cp=>?_)
 ·rw[fN rfl];simp only[cf];rw[kQ j cp]
  have:j<(ρ x).cells.size:=by have:=a9.1;simp at this;omega
  simp [Array.getD,this]
 ·obtain⟨y,dX,e⟩:=a9.get cp
  have:(ρ x).cells.getD j undef=y:=by
   have h:(ρ x).cells[j]? =some y:=by simpa using dX
   simp [Array.getD_eq_getD_getElem?,h]
  rw[this];exact e.mono cg
theorem By{f:Nat}{cs:List bR}{ep:List Operand}{G:Nat→ai}{aC:Nat→ai}{a:Act}(b7:Cg κ s aC a)(dL:ly κ G)(h:dr cs ep=true):
  c7 P (.makeFunc (.func f) #[] ep.toArray) ty a.eval κ s w (.fn f (cs.map fun x=>(aL G aC x).ak s.aa)) s:=by
 have key:∀(cs:List bR) (ep:List Operand),dr cs ep=true→ea κ (s.aa+1) (cs.map fun x=>(aL G aC x).ak s.aa) (ep.map a.eval):=by
  intro cs
  induction cs with
  |nil=>intro ep h;cases ep with
   |nil=>exact .nil _ _
   |cons _ _=>simp [dr] at h
  |cons c cs e=>intro ep h;cases ep with
   |nil=>simp [dr] at h
   |cons y r=>simp only[dr,bL] at h;exact .cons (bS b7 dL h.1) (e r h.2)
 have cg:=key cs ep h;exact bJ bl (.func (.func f) #[] (ep.map a.eval).toArray) (fun _ _ _ _=>by simp [execOp,Instr.makeFunc]) (.fn f _ _ cg.1 cg.2)
theorem q2{G:Nat→ai}{aC:Nat→ai}{a:Act}(b7:Cg κ s aC a)(dL:ly κ G){t:TypeId}{z cs:List ai}{fk:List (Nat×Nat×bR)}{r:List (Nat×Operand)}{j7:Array Field}(cB:P.underlying t=some (.struct j7))(io:jL P t z=true)
  {pl:Array (Nat×Nat)}(u:(j7.toList.mapM fun f=>(fr P f.type).map fun n=>(f.offset,n))=some pl.toList)(b6:k1 (pl[·]?) fk r=true)(a9:e9 G s.aa aC z fk=some cs):
  c7 P (.build t r.toArray) ty a.eval κ s w (.agg cs) s:=by
 obtain⟨v,e,aD,_,_⟩:=mO io w;have y:∀(j7:List Field) (pl:List (Nat×Nat)),(j7.mapM fun f=>(fr P f.type).map fun n=>(f.offset,n))=some pl→(j7.mapM fun f=>do pure (f.offset,←sizeOf f.type):Sem _).run P w=.ok pl w:=by
  intro j7
  induction j7 with
  |nil=>intro pl h;simp at h;subst h;simp
  |cons f j7 B=>
   intro pl h;simp only[List.mapM_cons,Option.bind_eq_bind,Option.bind_eq_some_iff,Option.pure_def,bV] at h;obtain⟨p,aU,fk,H,rfl⟩:=h;cases dY:fr P f.type with
   |none=>simp [dY] at aU
   |some n=>
    simp only[dY,eU,bV] at aU;subst aU
    have:=B fk H;simp only[bind_pure_comp] at this;simp [List.mapM_cons,eo dY,this]
 have hm:(j7.mapM fun f=>do pure (f.offset,←sizeOf f.type):Sem _).run P w=.ok pl w:=by
  rw[Array.mapM_eq_mapM_toList]
  have:=y j7.toList pl.toList u;simp only[bind_pure_comp] at this;simp [this]
 obtain⟨I,hN,bG⟩:=yq b7 dL _ fk r z cs v.cells.toList b6 (aD _ _) a9;refine bJ bl (.agg I.toArray) (fun _ _ _ _=>?_) (.agg _ _ bG.1 bG.2);simp only[Array.toArray_toList] at hN;simp only[bind_pure_comp] at hm;simp [execOp,Instr.build,e,run_underlying cB,hm,hN]
theorem ry{G:Nat→ai}{aC:Nat→ai}{a:Act}(b7:Cg κ s aC a)(dL:ly κ G){t el:TypeId}{len sz:Nat}{z cs:List ai}{fk:List (Nat×Nat×bR)}{h:List (Nat×Operand)}(cB:P.underlying t=some (.array len el))(dY:fr P el=some sz)(io:jL P t z=true)
  (b6:k1 (fun i=>some (i*sz,sz)) fk h=true)(a9:e9 G s.aa aC z fk=some cs):
  c7 P (.build t h.toArray) ty a.eval κ s w (.agg cs) s:=by
 obtain⟨v,e,aD,_,_⟩:=mO io w;obtain⟨r,hN,bG⟩:=yq b7 dL _ fk h z cs v.cells.toList b6 (aD _ _) a9;refine bJ bl (.agg r.toArray) (fun _ _ _ _=>?_) (.agg _ _ bG.1 bG.2);simp only[Array.toArray_toList] at hN;simp [execOp,Instr.build,e,run_underlying cB,eo dY,hN]
omit bl in
theorem pM{G:Nat→ai}{aC:Nat→ai}{a:Act}(b7:Cg κ s aC a)(dL:ly κ G)(sz:Nat):∀(fk:List bR) (r:List Operand) (i:Nat) (es:List ai) (pre:List Value) (rest:List Value),
  dr fk r=true→es=fk.map (fun x=>(aL G aC x).ak s.aa)→(∀e,e∈es→e.fo=true∧e.cells.length=sz)→pre.length=i*sz→rest.length=r.length*sz→
  ∃xs,Instr.fill (fun i=>some (i*sz,sz)) (pre++rest).toArray ((r.zipIdx i).map fun p=>(p.2,a.eval p.1))=some (pre++xs).toArray∧ea κ (s.aa+1) (es.flatMap ai.cells) xs
 |[],[],i,es,pre,rest,_,he,_,_,aQ=>by
  subst he
  have:rest=[]:=by simpa using aQ
  subst this;exact⟨[],by simp [Instr.fill],.nil _ _⟩
 |[],_::_,_,_,_,_,h,_,_,_,_=>by simp [dr] at h
 |_::_,[],_,_,_,_,h,_,_,_,_=>by simp [dr] at h
 |x::fk,y::r,i,es,pre,rest,b6,he,u,aU,aQ=>by
  simp only[dr,bL] at b6;subst he;have aT:=bS b7 dL b6.1;obtain⟨aD,aG⟩:=u ((aL G aC x).ak s.aa) (by simp);have bG:=aT.cells aD;have dY:(a.eval y).cells.toList.length=sz:=by rw[bG.1,aG]
  have hi:rest.length=sz+r.length*sz:=by rw[aQ,c0,Nat.succ_mul,Nat.add_comm]
  have I:dq (pre++rest) (i*sz) (a.eval y).cells.toList=(pre++(a.eval y).cells.toList)++rest.drop sz:=by
   apply List.ext_getElem?;intro j;rw[hc _ _ _ (by simp only[dm];omega),dY];by_cases K:j<i*sz
   ·rw[if_neg (by omega),jY,ev (by omega),ev (by omega)]
   ·by_cases J:j<i*sz+sz
    ·rw[if_pos ⟨by omega,J⟩,jY,i9 (by omega),ev (by omega),aU]
    ·rw[if_neg (by omega),i9 (by omega),i9 (by simp only[dm];omega),List.getElem?_drop];congr 1;simp only[dm];omega
  obtain⟨xs,e,gB⟩:=pM b7 dL sz fk r (i+1) _ (pre++(a.eval y).cells.toList) (rest.drop sz) b6.2 rfl (fun e he=>u e (by simp at he ⊢;exact .inr he)) (by simp only[dm,aU,dY,Nat.succ_mul]) (by simp only[List.length_drop];omega);refine⟨(a.eval y).cells.toList++xs,?_,by simpa using bG.append gB⟩;have B:(a.eval y).cells.size=sz:=by rw[←Array.length_toList];exact dY
  have hle:decide (i*sz+(a.eval y).cells.size>(pre++rest).toArray.size)=false:=aM (by simp only[List.size_toArray,dm];omega);have H:=q9 (a.eval y).cells (pre++rest).toArray (i*sz);rw[I] at H;simp only[List.zipIdx_cons,fU,Instr.fill,B,ne_eq,not_true_eq_false,c9,Bool.false_or];rw[B] at hle;rw[hle];simp only[co,↓reduceIte];rw[H,e,jY]
omit bl in
theorem ps{t el:TypeId}{sz n:Nat}{v:Value}{parts:Array (Nat×Value)}{xs:Array Value}(cB:P.underlying t=some (.slice el))(dY:fr P el=some sz)(bG:(zeroValue el).run P w=.ok v w)(fO:¬(n*sz>2^24))
  (bq:Instr.fill (fun i=>some (i*sz,sz)) ((Array.range (n*sz)).map (v.cells[· % v.cells.size]!)) parts.toList=some xs):(Instr.buildSlice t n parts).run P w=.ok (.slice (some ⟨w.heap.size,0,none⟩) n n) (w.alloc (.cells xs el)):=by
 unfold Instr.buildSlice;simp only[Sem.run_bind,run_underlying cB,Result.andThen_ok,eo dY];rw[if_neg fO];by_cases cL:n*sz=0
 ·have kR:(Array.range (n*sz)).map (fun x=>(#[]:Array Value)[x%(#[]:Array Value).size]!)=(Array.range (n*sz)).map (v.cells[· % v.cells.size]!):=by
   rw[cL];simp
  rw[if_pos cL];simp only[Sem.run_bind,Sem.run_pure,Result.andThen_ok];rw[kR,bq];simp [newRow]
 ·rw[if_neg cL];simp only[Sem.run_bind,bG,Result.andThen_ok,Sem.run_pure];rw[bq];simp [newRow]
theorem r9{G:Nat→ai}{aC:Nat→ai}{a:Act}(b7:Cg κ s aC a)(dL:ly κ G){t el:TypeId}{sz:Nat}{z:List ai}{fk:List bR}{r:List Operand}(cB:P.underlying t=some (.slice el))(dY:fr P el=some sz)(io:jL P el z=true)(H:z.length=sz)
  (fO:¬(r.length*sz>2^24))(b6:dr fk r=true)(aQ:ai.bj (fk.map (aL G aC))=true)(bG:∀e,e∈fk.map (aL G aC)→e.fo=true∧e.cells.length=sz):
  c7 P (.buildSlice t r.length (r.zipIdx.map fun p=>(p.2,p.1)).toArray) ty a.eval κ s w (.aW sz (fk.map (aL G aC)) .exact) s:=by
 obtain⟨v,e,aD,_,_⟩:=mO io w;have B:fk.map (fun x=>(aL G aC x).ak s.aa)=fk.map (aL G aC):=by apply List.map_congr_left;intro x aT;exact jK (eh.1 aQ _ (List.mem_map_of_mem aT)) _
 have O:v.cells.size=sz:=by rw[←Array.length_toList,(aD κ 0).1,H]
 have hlen:(fk.map (aL G aC)).length=r.length:=by
  have:∀(fk:List bR) (r:List Operand),dr fk r=true→fk.length=r.length:=by
   intro fk
   induction fk with
   |nil=>intro r h;cases r<;> simp [dr] at h ⊢
   |cons p fk I=>intro r h;cases r with
    |nil=>simp [dr] at h
    |cons q r=>simp only[dr,bL] at h;simp [I r h.2]
  simp [this fk r b6]
 obtain⟨xs,hN,gB⟩:=pM b7 dL sz fk r 0 (fk.map (aL G aC)) [] ((Array.range (r.length*sz)).map (v.cells[· % v.cells.size]!)).toList b6 B.symm bG (by simp) (by simp);have u:∀dst pos after guard,(execOp a.eval ⟨dst,.buildSlice t r.length (r.zipIdx.map fun p=>(p.2,p.1)).toArray,ty,pos,after,guard⟩).run P w=.ok (.value (.slice (some ⟨w.heap.size,0,none⟩) r.length r.length)) (w.alloc (.cells xs.toArray el)):=by
  intro dst pos after guard;simp only[List.nil_append,Array.toArray_toList] at hN;have J:=ps (parts:=((r.zipIdx.map fun p=>(p.2,p.1)).toArray.map fun p=>(p.1,a.eval p.2))) cB dY e fO (xs:=xs.toArray) (by rw[Array.toList_map,List.map_map];exact hN)
  have aT:∀(o:Oper),o.op=.buildSlice t r.length (r.zipIdx.map fun p=>(p.2,p.1)).toArray→execOp a.eval o=(do pure (.value (←Instr.buildSlice t r.length ((r.zipIdx.map fun p=>(p.2,p.1)).toArray.map fun p=>(p.1,a.eval p.2)))):Sem Next):=by intro o K;unfold execOp;rw[K]
  rw[aT _ rfl,Sem.run_bind,J];rfl
 have a9:ea κ (s.aa+1) ((fk.map (aL G aC)).flatMap ai.cells) xs.toArray.toList:=gB;generalize L:Op.buildSlice t r.length (r.zipIdx.map fun p=>(p.2,p.1)).toArray=op at u ⊢;generalize bX:r.length=n at u hlen;generalize Q:fk.map (aL G aC)=es at a9 hlen aQ bG ⊢;clear L bX hN gB B fO b6;refine ra bl (t:=el) a9 (fun A=>.slice (some A) n n) (.aW sz es .exact) (fun κ' cg kQ=>?_) u;simp only[ai.ak,cd.ak];rw[←hlen];refine .aW sz _ .exact _ _ (fun j=>xs.getD j undef) rfl (aX _) (fun _=>rfl) (fun e he=>(bG e he).2) (.inl fun e he=>eh.1 aQ e he) (fun j cp=>?_) (fun j c cp=>?_)
 ·rw[fN rfl];simp only[cf];rw[kQ j cp];have br:xs.length=(es.flatMap ai.cells).length:=a9.1
  have:j<xs.length:=by omega
  simp [List.getD,this]
 ·obtain⟨y,dX,M⟩:=a9.get cp
  have:xs.getD j undef=y:=by have N:xs[j]? =some y:=dX;simp [List.getD,N]
  rw[this];exact M.mono cg
end
theorem Bz(c:ai):(RK c).cells=[c]:=by cases c<;> rfl
theorem fA(sz:Nat):∀(n:Nat) (cs:List ai),(chunk sz n cs).length=n
 |0,_=>rfl
 |n+1,cs=>by simp [chunk,fA sz n]
theorem k2(sz:Nat)(dY:sz≠0):∀(n:Nat) (cs:List ai),n*sz≤cs.length→(chunk sz n cs).flatMap ai.cells=cs.take (n*sz)∧∀e,e∈chunk sz n cs→e.cells.length=sz
 |0,cs,_=>by simp [chunk]
 |n+1,cs,h=>by
  rw[Nat.succ_mul] at h;obtain⟨aD,aG⟩:=k2 sz dY n (cs.drop sz) (by simp;omega);have bI:(x5 sz cs).cells=cs.take sz:=by
   unfold x5;split
   ·cases cs with
    |nil=>simp at h
    |cons c cs=>rw[Bz];simp
   ·rfl
  have br:(cs.take sz).length=sz:=by simp;omega
  refine⟨?_,?_⟩
  ·simp only[chunk,List.flatMap_cons];rw[bI,aD,Nat.succ_mul,Nat.add_comm,←List.take_add]
  ·intro e he;simp only[chunk,List.mem_cons] at he;rcases he with rfl |he
   ·rw[bI,br]
   ·exact aG e he
section
variable{P:Program}{ty:TypeId}{ρ:Operand→Value}{κ:b9}{s:aq}{w:World}(bl:dw κ s w)
include bl
theorem w3{v:ai}{x:Operand}(aT:c8 κ (s.aa+1) (v.ak s.aa) (ρ x))(bX:isNil v=some false):c7 P (.nilCheck x) ty ρ κ s w v s:=by
 refine bJ bl (ρ x) (fun dst pos after guard=>?_) aT;generalize dX:ρ x=y at aT;generalize bG:v.ak s.aa=fX at aT;have e:isNil fX=some false:=by
  rw[←bG];cases v with
  |aW sz es g=>cases g<;> first|exact bX|(simp [isNil] at bX)
  |_=>exact bX
 cases aT<;> simp [isNil] at e<;> simp [execOp,dX]
omit bl in
theorem M4{v:ai}(d:Nat):isNil (v.ak d)=isNil v:=by
 cases v with
 |aW sz es g=>cases g<;> rfl
 |_=>rfl
omit bl in
theorem FT{e:ai3}{v:ai}(d:Nat):gN e (v.ak d)=gN e v:=by cases v<;> cases e<;> rfl
def rb(e:ai3)(d:TypeDesc):Bool:=
 match e,d with
 |.bool,.bool|.slice,.slice _|.ptr,.pointer _|.func,.func .. |.map,.map .. |.iface,.interface _=>true
 |_,_=>false
omit bl in
theorem vF(t:TypeId)(X Y:Value):Op.equal t X Y=Op.equalIn (9999+1) t X Y:=rfl
inductive gO:TypeDesc→Value→Value→Bool→Prop
 |bool (a b:Bool):gO .bool (.bool a) (.bool b) (a==b)
 |ai6 (el:TypeId) (l c:Nat) (B:Option Addr) (l' og:Nat):gO (.slice el) (.slice none l c) (.slice B l' og) B.isNone
 |ai7 (el:TypeId) (a:Addr) (l c l' og:Nat):gO (.slice el) (.slice (some a) l c) (.slice none l' og) false
 |avB (el:TypeId) (B:Option Addr):gO (.pointer el) (.pointer none) (.pointer B) B.isNone
 |avC (el:TypeId) (a:Addr):gO (.pointer el) (.pointer (some a)) (.pointer none) false
 |func0 (p r:Array TypeId) (v:Bool):gO (.func p r v) .nilFunc .nilFunc true
 |func1 (p r:Array TypeId) (v:Bool) (f:Fn) (x y:Array Value):gO (.func p r v) .nilFunc (.func f x y) false
 |func2 (p r:Array TypeId) (v:Bool) (f:Fn) (x y:Array Value):gO (.func p r v) (.func f x y) .nilFunc false
 |avD (k el:TypeId) (B:Option Nat):gO (.map k el) (.map none) (.map B) B.isNone
 |avE (k el:TypeId) (a:Nat):gO (.map k el) (.map (some a)) (.map none) false
 |ai8 (FU:Array (String×TypeId)) (t:TypeId) (v:Value):gO (.interface FU) .nilIface (.iface t v) false
 |RQ (FU:Array (String×TypeId)) (t:TypeId) (v:Value):gO (.interface FU) (.iface t v) .nilIface false
omit bl in
theorem gO.run{t:TypeId}{d:TypeDesc}(cB:P.underlying t=some d){X Y:Value}{b:Bool}(h:gO d X Y b):(Op.equal t X Y).run P w=.ok b w:=by rw[vF];generalize (9999:Nat)=n;cases h<;> simp only[Op.equalIn,Sem.run_bind,run_underlying cB,Result.andThen_ok,Sem.run_pure]
omit bl in
theorem gO.guard{d:TypeDesc}{X Y:Value}{b:Bool}(h:gO d X Y b)(op:BinOp)(t:TypeId)(x y:Operand):(eqGuard op t x y X Y).run P w=.ok () w:=by cases h<;> unfold eqGuard<;> cases op<;> rfl
omit bl in
theorem gO.abn{t yt:TypeId}{d:TypeDesc}(cB:P.underlying t=some d){x y:Operand}{b:Bool}(neg:Bool)(h:gO d (ρ x) (ρ y) b)(dst:Option Tmp)(pos:String)(after:Array Edge)(guard:Option (Nat×Bool)):
  (execOp ρ ⟨dst,.binOp (if neg then .neq else .eql) t x y yt,ty,pos,after,guard⟩).run P w=.ok (.value (.bool (bif neg then !b else b))) w:=by
 have aD:=h.run (w:=w) cB;have aG:=h.guard (P:=P) (w:=w) (if neg then .neq else .eql) t x y;have r:∀(op:BinOp),op=.eql∨op=.neq→binOp op t (ρ x) (ρ y)=match op with
   |.eql=>(do pure (.bool (←Op.equal t (ρ x) (ρ y))):Sem Value)
   |_=>(do pure (.bool (!(←Op.equal t (ρ x) (ρ y)))):Sem Value):=by
  intro op u;generalize ρ x=X at h;generalize ρ y=Y at h;rcases u with rfl |rfl <;> cases h<;> rfl
 cases neg
 ·have e:=r .eql (.inl rfl);simp only[co,↓reduceIte] at aG ⊢;simp only[execOp,Sem.run_bind,aG,Result.andThen_ok,e,aD,Sem.run_pure,cond_false]
 ·have e:=r .neq (.inr rfl);simp only[↓reduceIte] at aG ⊢;simp only[execOp,Sem.run_bind,aG,Result.andThen_ok,e,aD,Sem.run_pure,cb]
omit bl in
theorem FV(e:ai3)(v u:ai)(d:Nat):pA e (v.ak d) (u.ak d)=pA e v u:=by
 cases e with
 |bool=>cases v<;> cases u<;> rfl
 |agg=>cases v<;> cases u<;> rfl
 |_=>simp only[pA,FT,M4]
omit bl in
theorem vG{D:Nat}{v:ai}{X:Value}(h:c8 κ D v X)(cg:gN .slice v=true):∃A l c,X=.slice A l c∧∀b,isNil v=some b→A.isNone=b:=by
 cases v<;> simp [gN] at cg
 case aW sz es g=>
  rcases h.ie with⟨rfl,rfl,rfl⟩|⟨a,cap,aF,rfl,bD,_⟩
  ·exact⟨_,_,_,rfl,fun b e=>by simpa [isNil] using e⟩
  ·refine⟨_,_,_,rfl,fun b e=>?_⟩;cases g<;> simp [isNil,iP] at e bD<;> simp [←e]
 case cw a off len cap sz=>cases h;exact⟨_,_,_,rfl,fun b e=>by simpa [isNil] using e⟩
omit bl in
theorem Ci{D:Nat}{v:ai}{X:Value}(h:c8 κ D v X)(cg:gN .ptr v=true):∃A,X=.pointer A∧∀b,isNil v=some b→A.isNone=b:=by cases h<;> simp [gN] at cg<;> exact⟨_,rfl,fun b e=>by simpa [isNil] using e⟩
omit bl in
theorem ys{D:Nat}{v:ai}{X:Value}(h:c8 κ D v X)(cg:gN .func v=true):(X=.nilFunc∧∀b,isNil v=some b→b=true)∨((∃f x y,X=.func f x y)∧∀b,isNil v=some b→b=false):=by
 cases h<;> simp [gN] at cg
 ·exact .inr ⟨⟨_,_,_,rfl⟩,fun b e=>by simpa [isNil] using e.symm⟩
 ·exact .inl ⟨rfl,fun b e=>by simpa [isNil] using e.symm⟩
omit bl in
theorem Cj{D:Nat}{v:ai}{X:Value}(h:c8 κ D v X)(cg:gN .map v=true):∃A,X=.map A∧∀b,isNil v=some b→A.isNone=b:=by cases h<;> simp [gN] at cg<;> exact⟨_,rfl,fun b e=>by simpa [isNil] using e⟩
omit bl in
theorem vH{D:Nat}{v:ai}{X:Value}(h:c8 κ D v X)(cg:gN .iface v=true):(X=.nilIface∧∀b,isNil v=some b→b=true)∨((∃t x,X=.iface t x)∧∀b,isNil v=some b→b=false):=by
 cases h<;> simp [gN] at cg
 ·exact .inr ⟨⟨_,_,rfl⟩,fun b e=>by simpa [isNil] using e.symm⟩
 ·exact .inl ⟨rfl,fun b e=>by simpa [isNil] using e.symm⟩
omit bl in
theorem abo{D:Nat}{e:ai3}{v u:ai}{X Y:Value}{d:TypeDesc}{b:Bool}(bI:rb e d=true)(aT:c8 κ D v X)(dX:c8 κ D u Y)(h:pA e v u=some b):gO d X Y b:=by
 have main:e≠.bool→(∀ia,e≠.agg ia)→∃p q,gN e v=true∧gN e u=true∧isNil v=some p∧isNil u=some q∧(p=true∧b=q∧¬(q=true∧e=.iface)∨p=false∧q=true∧b=false):=by
  intro aD aG;have I:(bif gN e v&&gN e u then
    match isNil v,isNil u with
    |some true,some b=>bif b&&decide (e=.iface) then none else some b
    |some false,some true=>some false
    |_,_=>none
   else none)=some b:=by
   cases e<;> first|exact absurd rfl aD|exact absurd rfl (aG _)|exact h
  cases cg:(gN e v&&gN e u) with
  |false=>rw[cg] at I;simp at I
  |true=>
   rw[cg,cb] at I;rw[bL] at cg;cases bG:isNil v with
   |none=>rw[bG] at I;simp at I
   |some p=>
    cases hu:isNil u with
    |none=>rw[bG,hu] at I;cases p<;> simp at I
    |some q=>
     rw[bG,hu] at I;refine⟨p,q,cg.1,cg.2,rfl,rfl,?_⟩;cases p
     ·cases q
      ·simp at I
      ·right;simp at I;exact⟨rfl,rfl,I⟩
     ·left
      simp only at I;cases dQ:(q&&decide (e=.iface)) with
      |true=>rw[dQ] at I;simp at I
      |false=>rw[dQ] at I;simp at I dQ;exact⟨rfl,I.symm,by simpa using dQ⟩
 cases e
 case bool=>
  have L:d=.bool:=by cases d<;> simp [rb] at bI ⊢
  subst L;cases v<;> cases u<;> simp [pA] at h;subst h;rw[aT.hg,dX.hg];exact .bool _ _
 case agg ia=>cases d<;> simp [rb] at bI
 case slice=>
  obtain⟨el,rfl⟩:∃el,d=.slice el:=by cases d<;> simp [rb] at bI ⊢
  obtain⟨p,q,gw,hj,h5,hW,J⟩:=main (by simp) (by simp);obtain⟨A,l,c,rfl,r⟩:=vG aT gw;obtain⟨B,l',og,rfl,H⟩:=vG dX hj;have r:=r p h5;have H:=H q hW;rcases J with⟨rfl,rfl,_⟩|⟨rfl,rfl,rfl⟩
  ·cases A<;> simp at r;rw[←H];exact .ai6 ..
  ·cases A<;> simp at r;cases B<;> simp at H;exact .ai7 ..
 case ptr=>
  obtain⟨el,rfl⟩:∃el,d=.pointer el:=by cases d<;> simp [rb] at bI ⊢
  obtain⟨p,q,gw,hj,h5,hW,J⟩:=main (by simp) (by simp);obtain⟨A,rfl,r⟩:=Ci aT gw;obtain⟨B,rfl,H⟩:=Ci dX hj;have r:=r p h5;have H:=H q hW;rcases J with⟨rfl,rfl,_⟩|⟨rfl,rfl,rfl⟩
  ·cases A<;> simp at r;rw[←H];exact .avB ..
  ·cases A<;> simp at r;cases B<;> simp at H;exact .avC ..
 case map=>
  obtain⟨k,el,rfl⟩:∃k el,d=.map k el:=by cases d<;> simp [rb] at bI ⊢
  obtain⟨p,q,gw,hj,h5,hW,J⟩:=main (by simp) (by simp);obtain⟨A,rfl,r⟩:=Cj aT gw;obtain⟨B,rfl,H⟩:=Cj dX hj;have r:=r p h5;have H:=H q hW;rcases J with⟨rfl,rfl,_⟩|⟨rfl,rfl,rfl⟩
  ·cases A<;> simp at r;rw[←H];exact .avD ..
  ·cases A<;> simp at r;cases B<;> simp at H;exact .avE ..
 case func=>
  obtain⟨fk,K,rc,rfl⟩:∃fk K rc,d=.func fk K rc:=by cases d<;> simp [rb] at bI ⊢
  obtain⟨p,q,gw,hj,h5,hW,J⟩:=main (by simp) (by simp);rcases ys aT gw with⟨rfl,r⟩|⟨⟨f,x,y,rfl⟩,r⟩<;> rcases ys dX hj with⟨rfl,H⟩|⟨⟨MY,nD,xe,rfl⟩,H⟩<;> have r:=r p h5<;> have H:=H q hW<;> subst r H<;> simp at J<;> try subst J
  ·exact .func0 ..
  ·exact .func1 ..
  ·exact .func2 ..
 case iface=>
  obtain⟨FU,rfl⟩:∃FU,d=.interface FU:=by cases d<;> simp [rb] at bI ⊢
  obtain⟨p,q,gw,hj,h5,hW,J⟩:=main (by simp) (by simp);rcases vH aT gw with⟨rfl,r⟩|⟨⟨f,x,rfl⟩,r⟩<;> rcases vH dX hj with⟨rfl,H⟩|⟨⟨MY,nD,rfl⟩,H⟩<;> have r:=r p h5<;> have H:=H q hW<;> subst r H<;> simp at J<;> try subst J
  ·exact .ai8 ..
  ·exact .RQ ..
theorem FW{neg:Bool}{v:ai}{t yt:TypeId}{x:Operand}{FU:Array (String×TypeId)}{op:BinOp}{z:ai}(u:op=if neg then .neq else .eql)(cB:P.underlying t=some (.interface FU))(aT:c8 κ (s.aa+1) (v.ak s.aa) (ρ x))(a9:ρ (.const .nilIface)=.nilIface)(h:uQ neg v=some z):c7 P (.binOp op t x (.const .nilIface) yt) ty ρ κ s w z s:=by
 cases v<;> simp [uQ] at h
 case iface abh fX=>
  subst h;obtain⟨y,B,dX⟩:=c8.M1 (t:=abh) (v:=fX) aT;have bq:gO (.interface FU) (ρ x) (ρ (.const .nilIface)) false:=by rw[B,a9];exact .RQ FU abh y
  have:=bJ (P:=P) (ty:=ty) (o:=.binOp op t x (.const .nilIface) yt) (ρ:=ρ) bl (v:=.bool neg) _ (fun dst pos after guard=>by have:=bq.abn (ty:=ty) (w:=w) (yt:=yt) cB neg dst pos after guard;rw[u];exact this) (by cases neg<;> exact .bool _)
  exact this
 case e2=>
  subst h;have ex:ρ x=.nilIface:=by simp only[ai.ak] at aT;generalize ρ x=q at aT;cases aT;rfl
  refine bJ bl (.bool (!neg)) (fun dst pos after guard=>?_) (.bool _);subst u;have bU:(Op.equal t .nilIface .nilIface).run P w=.ok true w:=by rw[vF];generalize (9999:Nat)=n;simp only[Op.equalIn,Sem.run_bind,run_underlying cB,Result.andThen_ok,Sem.run_pure]
  cases neg
  ·have e:(eqGuard .eql t x (.const .nilIface) .nilIface .nilIface).run P w=.ok () w:=by
    unfold eqGuard;cases x<;> rfl
   have r:binOp .eql t .nilIface .nilIface=(do pure (.bool (←Op.equal t .nilIface .nilIface)):Sem Value):=rfl;simp only[execOp,co,↓reduceIte,ex,a9,Sem.run_bind,e,Result.andThen_ok,r,bU,Sem.run_pure,eC]
  ·have e:(eqGuard .neq t x (.const .nilIface) .nilIface .nilIface).run P w=.ok () w:=by
    unfold eqGuard;cases x<;> rfl
   have r:binOp .neq t .nilIface .nilIface=(do pure (.bool (!(←Op.equal t .nilIface .nilIface))):Sem Value):=rfl;simp only[execOp,↓reduceIte,ex,a9,Sem.run_bind,e,Result.andThen_ok,r,bU,Sem.run_pure,eV]
theorem ZV{e:ai3}{b neg:Bool}{v u:ai}{t yt:TypeId}{x y:Operand}{d:TypeDesc}{op:BinOp}(r:op=if neg then .neq else .eql)(cB:P.underlying t=some d)(bI:rb e d=true)
  (aT:c8 κ (s.aa+1) (v.ak s.aa) (ρ x))(dX:c8 κ (s.aa+1) (u.ak s.aa) (ρ y))(h:pA e v u=some b):c7 P (.binOp op t x y yt) ty ρ κ s w (.bool (bif neg then !b else b)) s:=by
 subst r;exact bJ bl _ ((abo bI aT dX (by rw[FV];exact h)).abn cB neg) (.bool _)
end
end Go.Ab
end
