/- A part of the proof: no condition. -/
import Derived.Calls
import Derived.Below
import Derived.Laws.World
import Derived.Laws.Cells
import Derived.Laws.Entries
import Derived.Laws.IdiomCopy
import Derived.Laws.Strings
import Derived.Laws.Slices
import Derived.Laws.MakeOwn
import Derived.Laws.BytesArg
set_option linter.unusedSectionVars false
set_option linter.unusedSimpArgs false
section
namespace Go
theorem cA{p:Prop}[Decidable p](h:¬p):decide p=false:=decide_eq_false h
theorem dQ{p:Prop}[Decidable p](h:p):decide p=true:=decide_eq_true h
theorem ec{α:Type _}{i:Nat}{a:α}{l:List α}:l[i]? =some a↔∃h:i<l.length,l[i]=a:=List.getElem?_eq_some_iff
theorem ep{α:Type _}{β:Type _}{dp:List α}(f:α→β):(dp.map f).length=dp.length:=List.length_map f
theorem gm{α:Type _}{l m:List α}{i:Nat}(h:i<l.length):(l++m)[i]? =l[i]?:=List.getElem?_append_left h
theorem dh{n m:Nat}(h:n.beq m=true):n=m:=Nat.eq_of_beq_eq_true h
theorem bl(a b:Bool):((a&&b)=true)=(a=true∧b=true):=Bool.and_eq_true a b
theorem bm{α:Type _}(a b:α):(some a=some b)=(a=b):=Option.some.injEq a b
theorem lL{α:Type _}{l:List α}{i j:Nat}(h:i≠j){a:α}:(l.set i a)[j]? =l[j]?:=List.getElem?_set_ne h
theorem dT{α:Type _}{a:α}{l:List α}{i:Nat}:(a::l).drop (i+1)=l.drop i:=List.drop_succ_cons
theorem ei{α:Type _}{l:List α}{i:Nat}(h:i<l.length):l[i]? =some l[i]:=List.getElem?_eq_getElem h
theorem et{n m:Nat}(h:n≤m):n.ble m=true:=Nat.ble_eq_true_of_le h
theorem dW{n m:Nat}(h:n.ble m=true):n≤m:=Nat.le_of_ble_eq_true h
theorem b4:(false=true)=False:=Bool.false_eq_true
theorem bP{α:Type _}{a:α}{dp:List α}:(a::dp).length=dp.length+1:=List.length_cons
theorem gL{α:Type _}{dp e8:List α}:(dp++e8).length=dp.length+e8.length:=List.length_append
theorem b8{p:Prop}[Decidable p]:(decide p=true)=p:=decide_eq_true_eq
theorem nk{α:Type _}(dp e8 cs:List α):dp++e8++cs=dp++(e8++cs):=List.append_assoc dp e8 cs
theorem b9{α:Type _}{l:List α}:l.drop 0=l:=List.drop_zero
theorem fF{α:Type _}{β:Type _}(a:α)(f:α→Option β):(some a).bind f=f a:=Option.bind_some a f
theorem ej{α:Type _}{β:Type _}(a:α)(f:α→β):(some a).map f=some (f a):=Option.map_some a f
theorem cB{α:Type _}:([]:List α).length=0:=List.length_nil
theorem qv{α:Type _}{a:α}:¬a∈([]:List α):=List.not_mem_nil
theorem ml{α:Type _}{l:List α}{n:Nat}(h:n<l.length):l[n]∈l:=List.getElem_mem h
theorem aD(n:Nat):n≤n:=Nat.le_refl n
theorem bf(n:Nat):0+n=n:=Nat.zero_add n
theorem eI(b:Bool):(true&&b)=b:=Bool.true_and b
theorem gb(b:Bool):(false&&b)=false:=Bool.false_and b
theorem bH{α:Sort _}(a b:α):(bif true then a else b)=a:=rfl
theorem dJ(h:Decidable True): @decide True h=true:=decide_true h
theorem dF(h:Decidable False): @decide False h=false:=decide_false h
theorem iP{α:Type _}{l:List α}{i:Nat}(h:i<l.length):l.drop i=l[i]::l.drop (i+1):=List.drop_eq_getElem_cons h
theorem i6{α:Type _}{l:List α}{i:Nat}(h:l.length≤i):l.take i=l:=List.take_of_length_le h
theorem mm{α:Type _}{l:List α}{i:Nat}(h:l.length≤i):l.drop i=[]:=List.drop_of_length_le h
theorem g6{α:Type _}{β:Type _}(f:α→β)(l:List α)(i:Nat):(l.map f)[i]? =l[i]?.map f:=by simp
theorem g7:(!false)=true:=rfl
theorem hk:(!true)=false:=rfl
theorem bz(b:Bool):(b&&b)=b:=Bool.and_self b
theorem qw{α:Type _}(l:List α):l++[]=l:=List.append_nil l
theorem ez(n m:Nat):n*m=m*n:=Nat.mul_comm n m
theorem hA{a b:Nat}(h:a<b):a%b=a:=Nat.mod_eq_of_lt h
theorem fG(a b c:Nat):a*(b+c)=a*b+a*c:=Nat.mul_add a b c
theorem gM(a b c:Nat):a*b*c=a*(b*c):=Nat.mul_assoc a b c
theorem fZ{a b:Nat}(c:Nat)(h:a≤b):a*c≤b*c:=Nat.mul_le_mul_right c h
theorem gd{a b c:Nat}(h:a<b)(k:b≤c):a<c:=Nat.lt_of_lt_of_le h k
theorem i7{α:Type _}{l m:List α}{i:Nat}(h:l.length≤i):(l++m)[i]? =m[i-l.length]?:=List.getElem?_append_right h
theorem e0{α:Type _}{β:Type _}(a:α)(b:β)(c:α)(d:β):((a,b)=(c,d))=(a=c∧b=d):=Prod.mk.injEq a b c d
theorem cY{α:Type _}{a:α}{l:List α}{i:Nat}:(a::l).take (i+1)=a::l.take i:=List.take_succ_cons
theorem jE{α:Type _}{l:List α}(h:l.length=0):l=[]:=List.eq_nil_of_length_eq_zero h
theorem e9(a b c:Nat):(a+b)*c=a*c+b*c:=Nat.add_mul a b c
theorem fH{α:Type _}{β:Type _}{f:α→β}{a:α}{l:List α}:(a::l).map f=f a::l.map f:=List.map_cons
theorem ft(a:Nat):a.beq a=true:=Nat.beq_refl a
theorem c3{α:Type _}{l:List α}:l.take 0=[]:=List.take_zero
end Go
namespace Go.Ab
inductive Loc where
 |l (i:Nat)
 |g (d i:Nat)
 deriving DecidableEq,Inhabited
inductive eZ where
 |nil|exact |any
 |dx (a:Loc)
 deriving Inhabited
inductive ae where
 |dead
 |bool (b:Bool)
 |int (k:IntKind) (n:Int)
 |str (s:List Nat)
 |bW (sz:Nat) (es:List ae) (g:eZ)
 |cO (a:Loc) (off len cap sz:Nat)
 |ref (a:Loc) (off:Nat)
 |bh (cs:List ae)
 |hJ
 |fn (f:Nat) (dI:List ae)
 |hZ
 |map (a:Loc)
 |fh
 |iface (t:Nat) (v:ae)
 |hK
 |agg (cs:List ae)
 |d0 (vs:List ae)
 |km (l:Nat)
 deriving Inhabited
inductive cU where
 |cells (cs:List ae)
 |tok (n:Nat)
 |map (es:List (ae×ae))
 |gone
 deriving Inhabited
structure ag where
 own:List cU
 up:List (List cU)
 ro:List (List cU)
 deriving Inhabited
def ag.aa(s:ag):Nat:=s.up.length+s.ro.length
inductive ah where
 |fail
 |ok (v:ae) (s:ag)
 |panic (v:ae) (s:ag)
 deriving Inhabited
inductive eO where
 |e
 |n (l:eO) (v:ae) (r:eO)
 deriving Inhabited
def eO.get:eO→Nat→ae
 |.e,_=>.dead
 |.n l v r,i=>bif Nat.beq i 0 then v else bif Nat.beq (i%2) 1 then l.get ((i-1)/2) else r.get ((i-1)/2)
def eO.i9:Nat→Nat→ae→(eO→ah)→eO→ah
 |0,_,_,_,_=>.fail
 |d+1,i,v,k,.e=>
  bif Nat.beq i 0 then k (.n .e v .e)
  else bif Nat.beq (i%2) 1 then eO.i9 d ((i-1)/2) v (fun l=>k (.n l .dead .e)) .e
  else eO.i9 d ((i-1)/2) v (fun r=>k (.n .e .dead r)) .e
 |d+1,i,v,k,.n l x r=>
  bif Nat.beq i 0 then k (.n l v r)
  else bif Nat.beq (i%2) 1 then eO.i9 d ((i-1)/2) v (fun l=>k (.n l x r)) l
  else eO.i9 d ((i-1)/2) v (fun r=>k (.n l x r)) r
inductive f5 where
 |e
 |n (l:f5) (b:Bool) (r:f5)
 deriving Inhabited
def eO.jF:f5→(eO→ah)→eO→ah
 |.e,k,_=>k .e
 |.n h _ u,k,.e=>eO.jF h (fun l=>eO.jF u (fun r=>k (.n l .dead r)) .e) .e
 |.n h b u,k,.n l v r=>eO.jF h (fun l=>eO.jF u (fun r=>k (.n l (bif b then v else .dead) r)) r) l
inductive bF where
 |t (n:Nat)
 |c (v:ae)
 |g (n:Nat)
 |at(t b off:Nat)
 |Sk (b off:Nat)
 deriving Inhabited
inductive xr where
 |int (k:IntKind)|str|bool
 deriving DecidableEq,Inhabited
inductive Sl where
 |bool|slice|ptr|func|map|iface
 |agg (iq:List xr)
 deriving DecidableEq,Inhabited
inductive gk where
 |move (x:bF)
 |oY (x:bF)
 |nl (x:bF)
 |pick (c a b:bF)
 |alloc (zero:List ae)
 |fu (x:bF)
 |j1 (x:bF)
 |build (zero:List ae) (parts:List (Nat×Nat×bF))
 |buildSlice (sz:Nat) (parts:List bF)
 |load (n:Option Nat) (a:bF)
 |store (n:Nat) (a v:bF)
 |nilCheck (x:bF)
 |bin (op:BinOp) (x y:bF)
 |eq (neg:Bool) (e:Sl) (x y:bF)
 |un (op:UnOp) (x:bF)
 |lj (k:IntKind) (x:bF)
 |n3 (x:bF)
 |gN (x:bF)
 |ja (x:bF)
 |jL (t:Nat) (x:bF)
 |ks (f:Nat) (dI:List bF)
 |makeSlice (zero:List ae) (bytes:Nat) (l c:bF)
 |kt (x:bF) (gg bL:Option bF)
 |slice (sz:Nat) (x:bF) (gg bL iK:Option bF)
 |fieldAddr (off:Nat) (a:bF)
 |field (off:Nat) (n:Option Nat) (x:bF)
 |jb (sz:Nat) (x i:bF)
 |fv (sz len:Nat) (x i:bF)
 |mY (x i:bF)
 |n4 (sz len:Nat) (n:Option Nat) (x i:bF)
 |extract (x:bF) (i:Nat)
 |call (f:Nat) (args:List bF)
 |eA (f:bF) (args:List bF)
 |hl (f:Nat) (args:List bF)
 |lM (f:bF) (args:List bF)
 |len (str:Bool) (x:bF)
 |append (sz bytes:Nat) (at_:Option bF) (s x:bF)
 |copy (sz:Nat) (d s:bF)
 |min (xs:List bF)
 |max (xs:List bF)
 |makeMap (at_:Option bF)
 |mZ (kJ:xr) (m k v:bF)
 |lookup (kJ:xr) (zero:ae) (ok:Bool) (m k:bF)
 |uS (neg:Bool) (x:bF)
 |lA (iq:List (Option Nat×bF)) (f:Nat) (args:List bF)
 |j2 (iq:List (Option Nat×bF)) (f:bF) (args:List bF)
 |iV (sz len:Nat) (x:bF) (gg bL iK:Option bF)
 |jM (sz bytes:Nat) (at_:Option bF) (s x:bF)
 |jN (sz bytes:Nat) (at_:Option bF) (s x:bF)
 |gD (sz:Nat) (parts:List bF)
 |gE (sz:Nat) (parts:List bF)
 |jO (sz bytes:Nat) (s x:bF)
 |k9 (m:Option Nat) (y:bF) (n:Nat) (a v:bF)
 |no
 deriving Inhabited
structure cS where
 dst:Option Nat
 guard:Option (Nat×Bool)
 op:gk
 deriving Inhabited
inductive ad where
 |skip
 |region (nm:Option (List (bF×Nat×bF×Nat))) (ops:List cS)
 |seq (a b:ad)
 |mask (m:f5) (a:ad)
 |cond (c:bF) (agO agP:ad)
 |block (id:Nat) (body:ad)
 |loop (bU:f5) (body:ad)
 |exit (id:Nat)
 |scope (body:ad)
 |ret
 |range (j f:Nat) (g:bF) (p:Nat) (assign body:ad)
 deriving Inhabited
inductive te where
 |t (n:Nat)
 |cell (a:Nat) (n:Option Nat)
 deriving Inhabited
structure c4 where
 aek:Nat
 fV:Nat
 results:List te
 bU:Bool
 body:ad
 deriving Inhabited
mutual
def ae.bc:ae→Bool
 |.cO .. |.ref .. |.map _=>false
 |.bW _ _ (.dx _)=>false
 |.bh cs|.fn _ cs|.agg cs|.d0 cs=>ae.aZ cs
 |.iface _ v=>v.bc
 |_=>true
def ae.aZ:List ae→Bool
 |[]=>true
 |v::vs=>v.bc&&ae.aZ vs
end
def Loc.low(d:Nat):Loc→Bool
 |.l _=>false
 |.g e _=>Nat.ble e d
mutual
def ae.low(d:Nat):ae→Bool
 |.cO a _ _ _ _=>a.low d
 |.ref a _=>a.low d
 |.map a=>a.low d
 |.bW _ _ (.dx a)=>a.low d
 |.bh cs|.fn _ cs|.agg cs|.d0 cs=>ae.ku d cs
 |.iface _ v=>v.low d
 |_=>true
def ae.ku(d:Nat):List ae→Bool
 |[]=>true
 |v::vs=>v.low d&&ae.ku d vs
end
def Loc.ap(d:Nat):Loc→Loc
 |.l i=>.g d i
 |a=>a
def eZ.ap(d:Nat):eZ→eZ
 |.dx a=>.dx (a.ap d)
 |g=>g
def ae.ap(d:Nat):ae→ae
 |.bW sz es g=>.bW sz es (g.ap d)
 |.cO a off len cap sz=>.cO (a.ap d) off len cap sz
 |.ref a off=>.ref (a.ap d) off
 |.map a=>.map (a.ap d)
 |v=>v
def ae.cells:ae→List ae
 |.agg cs=>cs
 |v=>[v]
def y8:ae→ae
 |.agg xs=>.agg [.agg xs]
 |c=>c
def mn(sz:Nat)(cs:List ae):ae:=
 match sz with
 |1=>y8 (cs.getD 0 .dead)
 |_=>.agg (cs.take sz)
def chunk(sz:Nat):Nat→List ae→List ae
 |0,_=>[]
 |n+1,cs=>mn sz cs::chunk sz n (cs.drop sz)
def ag.get(s:ag):Loc→Option cU
 |.l i=>s.own[i]?
 |.g d i=>if d=s.aa then s.own[i]? else if d<s.aa then((s.up++s.ro)[s.aa-1-d]?).bind (·[i]?) else none
def ag.set(s:ag)(a:Loc)(o:cU):Option ag:=
 match a with
 |.l i=>some {s with own:=s.own.set i o}
 |.g d i=>
  if d=s.aa then some {s with own:=s.own.set i o}
  else if d<s.aa∧s.ro.length≤d then some {s with up:=s.up.modify (s.aa-1-d) (·.set i o)}
  else none
def ag.oZ(s:ag):Loc→Bool
 |.l _=>true
 |.g d _=>d=s.aa
def ag.gO(s:ag)(a:Loc)(vs:List ae):Bool:=
 s.oZ a||ae.aZ vs||(match a with
  |.g d _=>ae.ku d vs
  |.l _=>false)
def ag.new(s:ag)(o:cU):ag:={s with own:=s.own++[o]}
def ag.hn(s:ag)(a:Loc)(o:cU):Option (Loc×ag):=
 match a with
 |.l _=>some (.l s.own.length,s.new o)
 |.g d _=>
  if d=s.aa then some (.l s.own.length,s.new o)
  else if d<s.aa∧s.ro.length≤d then
   match s.up[s.aa-1-d]? with
   |some l=>some (.g d l.length,{s with up:=s.up.modify (s.aa-1-d) (· ++ [o])})
   |none=>none
  else none
def o0:Loc→Loc→Bool
 |.l i,.l j=>Nat.beq i j
 |.g d i,.g e j=>Nat.beq d e&&Nat.beq i j
 |_,_=>false
def Y8:ae→Nat→ae
 |.ref a o,off=>.ref a (o+off)
 |_,_=>.dead
def Mn:ae→ae→Nat→ae
 |.ref a o,.ref fY o',off=>bif o0 a fY&&Nat.beq o (o'+off) then .ref a o else .dead
 |_,_,_=>.dead
theorem AS{a b:Loc}(h:o0 a b=true):a=b:=by
 cases a<;> cases b<;> simp [o0] at h
 ·rw[h]
 ·rw[h.1,h.2]
theorem Ht(x y:ae)(off:Nat):Mn x y off=.dead∨(Mn x y off=x∧Mn x y off=Y8 y off):=by
 cases x<;> cases y<;> try exact .inl rfl
 ·rename_i a o fY o';have e:Mn (.ref a o) (.ref fY o') off=bif o0 a fY&&Nat.beq o (o'+off) then .ref a o else .dead:=rfl
  rw[e];cases h:o0 a fY&&Nat.beq o (o'+off) with
  |false=>exact .inl rfl
  |true=>simp only[bl] at h;have ar:=AS h.1;have av:=dh h.2;subst ar av;exact .inr ⟨rfl,rfl⟩
def aq(G:Nat→ae)(ao:Nat→ae):bF→ae
 |.t n=>ao n
 |.c v=>v
 |.g n=>G n
 |.at t b off=>Mn (ao t) (ao b) off
 |.Sk b off=>Y8 (ao b) off
def n5:ae→ae
 |.bW sz es (.dx a)=>bif ae.aZ es then .bW sz es .any else .bW sz es (.dx a)
 |v=>v
def jc(ao:eO)(d:Option Nat)(v:ae)(k:eO→ah):ah:=
 match d with
 |some n=>ao.i9 12 n v k
 |none=>k ao
structure aX where
 n1:ae→(ae→ah)→ah
 v1:ae→(ae→ah)→ah
 l:List ae→(List ae→ah)→ah
 s:ag→(ag→ah)→ah
def aX.not:aX:={n1:=fun v k=>k v,v1:=fun v k=>k v,l:=fun v k=>k v,s:=fun v k=>k v}
def e1:ae→Option Nat
 |.int _ n=>if 0≤n then some n.toNat else none
 |_=>none
def dv(s:ag):ae→Option (Nat×List ae)
 |.bW sz es (.dx _)=>if ae.aZ es then some (sz,es) else none
 |.bW sz es _=>some (sz,es)
 |.str e8=>some (1,e8.map fun b=>.int .u8 (b:Nat))
 |.cO a off len _ sz=>
  match s.get a with
  |some (.cells cs)=>let es:=chunk sz len (cs.drop off);if ae.aZ es&&Nat.ble (off+len*sz) cs.length&& !Nat.beq sz 0 then some (sz,es) else none
  |_=>none
 |_=>none
def jd:List ae→List ae→Option Bool
 |[],[]=>some true
 |.int k a::xs,.int lN b::e=>if k=lN then(jd xs e).map ((a==b)&& ·) else none
 |.bool a::xs,.bool b::e=>(jd xs e).map ((a==b)&& ·)
 |.str a::xs,.str b::e=>(jd xs e).map ((a==b)&& ·)
 |_,_=>none
def jP:List Nat→List Nat→Bool
 |_,[]=>false
 |[],_::_=>true
 |a::x,b::y=>Nat.blt a b||(Nat.beq a b&&jP x y)
def gr(op:BinOp)(k:IntKind)(a b:Int):Option ae:=
 match op with
 |.add=>some (.int k (k.wrap (a+b)))
 |.sub=>some (.int k (k.wrap (a-b)))
 |.mul=>some (.int k (k.wrap (a*b)))
 |.quo=>if b=0 then none else some (.int k (k.wrap (a.tdiv b)))
 |.rem=>if b=0 then none else some (.int k (a.tmod b))
 |.and=>some (.int k (k.wrap (BitVec.ofInt k.bits a &&& BitVec.ofInt k.bits b).toNat))
 |.or=>some (.int k (k.wrap (BitVec.ofInt k.bits a ||| BitVec.ofInt k.bits b).toNat))
 |.xor=>some (.int k (k.wrap (BitVec.ofInt k.bits a ^^^ BitVec.ofInt k.bits b).toNat))
 |.andNot=>some (.int k (k.wrap (BitVec.ofInt k.bits a &&& ~~~BitVec.ofInt k.bits b).toNat))
 |.eql=>some (.bool (a==b))
 |.neq=>some (.bool (a != b))
 |.lss=>some (.bool (a<b))
 |.leq=>some (.bool (a≤b))
 |.gtr=>some (.bool (a>b))
 |.geq=>some (.bool (a≥b))
 |_=>none
def lO(op:BinOp)(k:IntKind)(a b:Int):Option ae:=
 if b<0 then none else
 match op with
 |.shl=>some (.int k (k.wrap (a*2^(min b.toNat k.bits))))
 |.shr=>some (.int k (a.fdiv (2^(min b.toNat k.bits))))
 |_=>none
def y9(op:BinOp)(x y:List Nat):Option ae:=
 match op with
 |.add=>if Nat.ble (x.length+y.length) 1099511627776 then some (.str (x++y)) else none
 |.eql=>some (.bool (x==y))
 |.neq=>some (.bool (!(x==y)))
 |.lss=>some (.bool (jP x y))
 |.leq=>some (.bool (jP x y||x==y))
 |.gtr=>some (.bool (!(jP x y||x==y)))
 |.geq=>some (.bool (!jP x y))
 |_=>none
def isNil:ae→Option Bool
 |.hJ|.hZ|.fh|.hK=>some true
 |.bW _ _ .nil=>some true
 |.bW _ _ .exact |.bW _ _ .any|.bW _ _ (.dx _)|.cO .. |.ref .. |.bh _|.fn .. |.map _|.iface ..=>some false
 |_=>none
def gX:Sl→ae→Bool
 |.slice,.bW .. |.slice,.cO ..=>true
 |.ptr,.hJ|.ptr,.ref .. |.ptr,.bh _=>true
 |.func,.hZ|.func,.fn ..=>true
 |.map,.fh|.map,.map _=>true
 |.iface,.hK|.iface,.iface ..=>true
 |_,_=>false
def fc:List xr→List ae→Bool
 |[],[]=>true
 |.int k::iq,.int lN _::xs=>decide (lN=k)&&fc iq xs
 |.str::iq,.str _::xs=>fc iq xs
 |.bool::iq,.bool _::xs=>fc iq xs
 |_,_=>false
def o1(e:Sl)(x y:ae):Option Bool:=
 match e with
 |.bool=>
  match x,y with
  |.bool a,.bool b=>some (a==b)
  |_,_=>none
 |.agg iq=>
  match x,y with
  |.agg xs,.agg h=>bif fc iq xs&&fc iq h then jd xs h else none
  |_,_=>none
 |e=>
  bif gX e x&&gX e y then
   match isNil x,isNil y with
   |some true,some b=>bif b&&decide (e=.iface) then none else some b
   |some false,some true=>some false
   |_,_=>none
  else none
def za(neg:Bool):ae→Option ae
 |.hK=>some (.bool (!neg))
 |.iface ..=>some (.bool neg)
 |_=>none
def al(op:BinOp)(x y:ae):Option ae:=
 match op,x,y with
 |.shl,.int k a,.int _ b=>lO .shl k a b
 |.shr,.int k a,.int _ b=>lO .shr k a b
 |op,.int k a,.int lN b=>if k=lN then gr op k a b else none
 |op,.str a,.str b=>y9 op a b
 |_,_,_=>none
def kn(op:UnOp)(x:ae):Option ae:=
 match op,x with
 |.neg,.int k n=>some (.int k (k.wrap (0-n)))
 |.xor,.int k n=>some (.int k (k.wrap (BitVec.ofInt k.bits (if k.signed then -1 else k.max) ^^^ BitVec.ofInt k.bits n).toNat))
 |.not,.bool b=>some (.bool (!b))
 |_,_=>none
def min2(x y:ae):Option ae:=
 match x,y with
 |.int k a,.int _ b=>some (.int k (if b<a then b else a))
 |_,_=>none
def max2(x y:ae):Option ae:=
 match x,y with
 |.int k a,.int _ b=>some (.int k (if b>a then b else a))
 |_,_=>none
def uT(f:ae→ae→Option ae):ae→List ae→Option ae
 |x,[]=>some x
 |x,y::e=>(f x y).bind fun z=>uT f z e
def dG(G:Nat→ae)(ao:Nat→ae)(o:Option bF)(e:Nat):Option Nat:=
 match o with
 |none=>some e
 |some x=>e1 (aq G ao x)
def h4(es:List ae):Option (List Nat):=
 match es with
 |[]=>some []
 |.int .u8 n::es=>if n.toNat<256 then(h4 es).map (n.toNat:: ·) else none
 |_=>none
def dL{α:Type}(cs:List α)(off:Nat)(vs:List α):List α:=
 match vs with
 |[]=>cs
 |v::vs=>dL (cs.set off v) (off+1) vs
def ae.fa:ae→Bool
 |.dead|.d0 _=>false
 |_=>true
def ae.eB:ae→Bool
 |.dead|.d0 _|.agg _=>false
 |_=>true
def fj(G:Nat→ae)(d:Nat)(ao:Nat→ae):List ae→List (Nat×Nat×bF)→Option (List ae)
 |cs,[]=>some cs
 |cs,(off,sz,x)::eb=>
  let v:=(aq G ao x).ap d
  bif v.fa&&Nat.beq v.cells.length sz&&Nat.ble (off+sz) cs.length then fj G d ao (dL cs off v.cells) eb else none
def qX(G:Nat→ae)(ao:Nat→ae):bF×Nat×bF×Nat→Bool
 |(x,n,y,m)=>
  match aq G ao x,aq G ao y with
  |.ref (.l i) o,.ref (.l j) q=> !Nat.beq i j||Nat.ble (o+n) q||Nat.ble (q+m) o
  |.bh _,.ref ..=>true
  |_,_=>false
inductive oU where
 |norm|exit (id:Nat)|ret|panic (v:ae)
 deriving Inhabited
abbrev fk:=oU→eO→ag→ah
abbrev mU:=eO→ag→fk→ah
def fP(g:mU)(k:fk):fk:=fun x ao s=>
 match x with
 |.norm=>g ao s k
 |x=>k x ao s
def Em(g:mU)(k:fk):fk:=fun x ao s=>
 match x with
 |.norm=>g ao s k
 |_=>.fail
def ew(m:f5)(g:mU)(k:fk):fk:=fun x ao s=>
 match x with
 |.norm=>eO.jF m (fun ao=>g ao s k) ao
 |x=>k x ao s
def dy(id:Nat)(k:fk):fk:=fun x ao s=>
 match x with
 |.exit j=>bif Nat.beq j id then k .norm ao s else k (.exit j) ao s
 |x=>k x ao s
def dS(step:mU)(bU:f5):Nat→mU
 |0,_,_,_=>.fail
 |n+1,ao,s,k=>step ao s (ew bU (dS step bU n) k)
structure Env where
 F:aX
 au:Nat→ae
 call:Nat→List ae→ag→ah
 loop:mU→f5→mU
def Loc.same:Loc→Loc→Bool
 |.l i,.l j=>Nat.beq i j
 |.g d i,.g e j=>Nat.beq d e&&Nat.beq i j
 |_,_=>false
def eZ.same:eZ→eZ→Bool
 |.nil,.nil|.exact,.exact |.any,.any=>true
 |.dx a,.dx b=>a.same b
 |_,_=>false
mutual
def ae.same:ae→ae→Bool
 |.km l,.km m=>Nat.beq l m
 |.dead,.dead|.hJ,.hJ|.hZ,.hZ|.fh,.fh|.hK,.hK=>true
 |.bool a,.bool b=>a==b
 |.int k a,.int lN b=>decide (k=lN)&&a==b
 |.str a,.str b=>a==b
 |.bW z a g,.bW Zt b g'=>Nat.beq z Zt&&g.same g'&&ae.lB a b
 |.cO a x y z q,.cO fY kI uq Zt qx=>a.same fY&&Nat.beq x kI&&Nat.beq y uq&&Nat.beq z Zt&&Nat.beq q qx
 |.ref a x,.ref fY kI=>a.same fY&&Nat.beq x kI
 |.bh a,.bh b=>ae.lB a b
 |.fn f a,.fn xt b=>Nat.beq f xt&&ae.lB a b
 |.map a,.map b=>a.same b
 |.iface t v,.iface Sg fL=>Nat.beq t Sg&&v.same fL
 |.agg a,.agg b=>ae.lB a b
 |.d0 a,.d0 b=>ae.lB a b
 |_,_=>false
def ae.lB:List ae→List ae→Bool
 |[],[]=>true
 |a::as,b::e8=>a.same b&&ae.lB as e8
 |_,_=>false
end
def h5(G:Nat→ae)(ao:Nat→ae):Option bF→Option Loc
 |none=>some (.l 0)
 |some x=>
  match aq G ao x with
  |.ref a _=>some a
  |.map a=>some a
  |_=>none
def sG:ae→ae→Option Bool
 |.int k a,.int lN b=>if k=lN then some (a==b) else none
 |.str a,.str b=>some (a==b)
 |.bool a,.bool b=>some (a==b)
 |_,_=>none
def isKey:xr→ae→Bool
 |.int k,.int lN _=>decide (lN=k)
 |.str,.str _=>true
 |.bool,.bool _=>true
 |_,_=>false
def findKey(k:ae):List (ae×ae)→Option (Option ae)
 |[]=>some none
 |(x,v)::es=>
  match sG k x with
  |some true=>some (some v)
  |some false=>findKey k es
  |none=>none
def putKey(k v:ae):List (ae×ae)→Option (List (ae×ae))
 |[]=>some [(k,v)]
 |(x,u)::es=>
  match sG k x with
  |some true=>some ((x,v)::es)
  |some false=>(putKey k v es).map ((x,u):: ·)
  |none=>none
section
variable(E:Env)(ao:Nat→ae)(s:ag)(k kp:ae→ag→ah)
def qV(v:Option ae):ah:=
 match v with
 |some v=>E.F.v1 v fun v=>k v s
 |none=>.fail
def eU(m:Option Nat)(cs:List ae):ah:=
 match m with
 |none=>match cs with
  |c::_=>E.F.n1 c fun v=>k v s
  |[]=>.fail
 |some n=>bif Nat.ble n cs.length then E.F.v1 (.agg (cs.take n)) fun v=>k v s else .fail
def h1(a:Loc)(off:Nat)(vs:List ae):ah:=
 match s.get a with
 |some (.cells cs)=>
  bif Nat.ble (off+vs.length) cs.length&&s.gO a vs&&vs.all ae.eB then
   E.F.l (dL cs off vs) fun cs=>
   match s.set a (.cells cs) with
   |some s=>E.F.s s fun s=>k .dead s
   |none=>.fail
  else .fail
 |_=>.fail
def jQ(x:ae)(gg bL:Option bF):ah:=
 match x with
 |.str e8=>
  match dG E.au ao gg 0,dG E.au ao bL e8.length with
  |some l,some h=>bif Nat.ble l h&&Nat.ble h e8.length then E.F.v1 (.str ((e8.drop l).take (h-l))) fun v=>k v s else .fail
  |_,_=>.fail
 |_=>.fail
def pN(g:eZ)(l h:Nat)(es:List ae):Bool:=
 match g with
 |.dx _=>(Nat.beq l 0&&Nat.beq h es.length)||ae.aZ es
 |_=>true
def uU(g:eZ)(es:List ae):Bool:=
 match g with
 |.dx _=>ae.aZ es
 |_=>true
def j3(z:Nat)(x:ae)(gg bL iK:Option bF):ah:=
 match x with
 |.bW sz es g=>
  match dG E.au ao gg 0,dG E.au ao bL es.length with
  |some l,some h=>
   match iK with
   |none=>
    bif Nat.beq z sz&&Nat.ble l h&&Nat.ble h es.length&&pN g l h es then
     E.F.v1 (.bW sz ((es.drop l).take (h-l)) (match g with
      |.nil=>.nil
      |.exact=>if h=es.length then .exact else .any
      |.dx a=>if l=0∧h=es.length then .dx a else .any
      |.any=>.any)) fun v=>k v s
    else .fail
   |some x=>
    match e1 (aq E.au ao x),g with
    |_,.nil=>.fail
    |some m,_=>bif Nat.beq z sz&&Nat.ble l h&&Nat.ble h m&&Nat.ble m es.length&&uU g es then E.F.v1 (.bW sz ((es.drop l).take (h-l)) (if h=m then .exact else .any)) fun v=>k v s else .fail
    |_,_=>.fail
  |_,_=>.fail
 |.cO a off len cap sz=>
  match dG E.au ao gg 0,dG E.au ao bL len,dG E.au ao iK cap with
  |some l,some h,some m=>bif Nat.beq z sz&&Nat.ble l h&&Nat.ble h m&&Nat.ble m cap&&Nat.ble len cap then E.F.v1 (.cO a (if m=l then off else off+l*sz) (h-l) (m-l) sz) fun v=>k v s else .fail
  |_,_,_=>.fail
 |_=>.fail
def hL(q bytes:Nat)(b:Loc)(x y:ae):ah:=
 match dv s y with
 |none=>.fail
 |some (z,new)=>
  match x with
  |.bW sz es g=>
   bif Nat.beq z q&&Nat.beq sz q&&Nat.ble ((es.length+new.length)*bytes) 1099511627776 then
    match new with
    |[]=>k (.bW sz es g) s
    |_::_=>
     match g with
     |.nil|.exact=>
      match s.hn b (.tok (es.length+new.length)) with
      |some (l,s)=>E.F.v1 (.bW sz (es++new) (.dx l)) fun v=>E.F.s s fun s=>k v s
      |none=>.fail
     |.dx a=>
      match s.get a with
      |some (.tok n)=>
       bif Nat.beq n es.length&&(new.flatMap ae.cells).all ae.eB then
        match s.set a (.tok (es.length+new.length)) with
        |some s=>E.F.v1 (.bW sz (es++new) (.dx a)) fun v=>E.F.s s fun s=>k v s
        |none=>.fail
       else .fail
      |_=>.fail
     |.any=>.fail
   else .fail
  |.cO a off len cap sz=>
   match s.get a with
   |some (.cells cs)=>
    bif Nat.beq z q&&Nat.beq sz q&&Nat.ble (len+new.length) cap&&Nat.ble (off+(len+new.length)*sz) cs.length&&s.gO a new&&(new.flatMap ae.cells).all ae.eB then
     E.F.l (dL cs (off+len*sz) (new.flatMap ae.cells)) fun cs=>
     match s.set a (.cells cs) with
     |some s=>E.F.v1 (.cO a off (len+new.length) cap sz) fun v=>E.F.s s fun s=>k v s
     |none=>.fail
    else .fail
   |_=>.fail
  |_=>.fail
def sH(s:ag)(l:Loc)(vs:List ae):Bool:=
 match l with
 |.l _=>ae.ku s.aa vs
 |.g d _=>ae.ku d vs
def kb(q bytes:Nat)(b:Loc)(x y:ae):ah:=
 match y with
 |.bW z new _=>
  match x with
  |.bW sz es g=>
   bif Nat.beq z q&&Nat.beq sz q&&Nat.ble ((es.length+new.length)*bytes) 1099511627776 then
    match new with
    |[]=>.fail
    |_::_=>
     match g with
     |.nil=>
      bif sH s b new then
       match s.hn b (.tok (es.length+new.length)) with
       |some (l,s)=>E.F.v1 (.bW sz (es++new) (.dx l)) fun v=>E.F.s s fun s=>k v s
       |none=>.fail
      else .fail
     |.dx a=>
      match s.get a with
      |some (.tok n)=>
       bif Nat.beq n es.length&&(new.flatMap ae.cells).all ae.eB&&sH s a new then
        match s.set a (.tok (es.length+new.length)) with
        |some s=>E.F.v1 (.bW sz (es++new) (.dx a)) fun v=>E.F.s s fun s=>k v s
        |none=>.fail
       else .fail
      |_=>.fail
     |_=>.fail
   else .fail
  |_=>.fail
 |_=>.fail
def zb(s:ag):ae→ae
 |.cO (.g d i) o l c z=>bif Nat.beq d s.aa then .cO (.l i) o l c z else .cO (.g d i) o l c z
 |v=>v
def kc(q bytes:Nat)(x y:ae):ah:=
 match dv s y with
 |none=>.fail
 |some (z,new)=>
  match new with
  |[]=>.fail
  |_::_=>
   match x with
   |.bW sz [] .nil=>
    bif Nat.beq z q&&Nat.beq sz q&&Nat.ble (new.length*bytes) 1099511627776&&(new.flatMap ae.cells).all ae.eB then
     E.F.l (new.flatMap ae.cells) fun cs=>E.F.v1 (.cO (.l s.own.length) 0 new.length 0 q) fun v=>E.F.s (s.new (.cells cs)) fun s=>k v s
    else .fail
   |.cO (.l i) 0 len 0 sz=>
    match s.own[i]? with
    |some (.cells cs)=>
     bif Nat.beq z q&&Nat.beq sz q&&Nat.beq cs.length (len*q)&& !Nat.beq len 0&&Nat.ble ((len+new.length)*bytes) 1099511627776&&(new.flatMap ae.cells).all ae.eB&& !Nat.beq q 0 then
      E.F.l (cs++new.flatMap ae.cells) fun cs=>E.F.v1 (.cO (.l s.own.length) 0 (len+new.length) 0 q) fun v=>E.F.s {s with own:=s.own.set i .gone++[.cells cs]} fun s=>k v s
     else .fail
    |_=>.fail
   |_=>.fail
def kK(sz:Nat)(x:ae)(i:ae):ah:=
 match e1 i with
 |none=>.fail
 |some i=>
  match x with
  |.bW z es _=>
   bif Nat.beq z sz then
    match es[i]? with
    |some e=>E.F.v1 (.bh e.cells) fun v=>k v s
    |none=>.fail
   else .fail
  |.cO a off len _ z=>bif Nat.beq z sz&&Nat.blt i len then E.F.v1 (.ref a (off+i*sz)) fun v=>k v s else .fail
  |_=>.fail
def hM(sz len:Nat)(x:ae)(i:ae):ah:=
 match e1 i with
 |none=>.fail
 |some i=>
  bif Nat.blt i len then
   match x with
   |.bh cs=>E.F.v1 (.bh (cs.drop (i*sz))) fun v=>k v s
   |.ref a off=>E.F.v1 (.ref a (off+i*sz)) fun v=>k v s
   |_=>.fail
  else .fail
def eA(f:Nat)(args:List ae):ah:=
 match E.call f args s with
 |.ok v s'=>bif Nat.beq s'.aa s.aa then k v s' else .fail
 |.panic v s'=>kp v s'
 |.fail=>.fail
def cellsOf(v:ae):Option (List ae):=
 match v with
 |.bh cs=>some cs
 |.ref a off=>
  match s.get a with
  |some (.cells cs)=>some (cs.drop off)
  |_=>none
 |_=>none
def e2(s:ag)(n:Option Nat)(v:ae):Option (List ae):=(cellsOf s v).map fun cs=>cs.take (n.getD 1)
def n6:Option (List ae)→Option (List ae)→Bool
 |some a,some b=>ae.lB a b
 |_,_=>false
def h2(xs:List (Option Nat×ae))(f:Nat)(args:List ae):ah:=
 eA E s (fun v s'=>bif xs.all fun x=>n6 (e2 s x.1 x.2) (e2 s' x.1 x.2) then k v s' else .fail) kp f args
def hD(f:Nat)(args:List ae):ah:=
 bif ae.aZ args then
  match E.call f args {own:=[],up:=[],ro:=[]} with
  |.ok v _=>bif v.bc then k v s else .fail
  |_=>.fail
 else .fail
def dY(n:Option Nat)(v:ae):ah:=
 match v with
 |.bh cs=>eU E s k n cs
 |.ref a off=>
  match s.get a with
  |some (.cells cs)=>eU E s k n (cs.drop off)
  |_=>.fail
 |_=>.fail
def gP(off:Nat)(v:ae):ah:=
 match v with
 |.bh cs=>E.F.v1 (.bh (cs.drop off)) fun v=>k v s
 |.ref a o=>E.F.v1 (.ref a (o+off)) fun v=>k v s
 |_=>.fail
def lP(off:Nat)(n:Option Nat)(v:ae):ah:=
 match v with
 |.agg cs=>eU E s k n (cs.drop off)
 |_=>.fail
def h6(v i:ae):ah:=
 match v with
 |.str e8=>
  match e1 i with
  |some i=>
   match e8[i]? with
   |some b=>E.F.v1 (.int .u8 b) fun v=>k v s
   |none=>.fail
  |none=>.fail
 |_=>.fail
def kv(sz len:Nat)(n:Option Nat)(v i:ae):ah:=
 match v with
 |.agg cs=>
  match e1 i with
  |some i=>bif Nat.blt i len then eU E s k n (cs.drop (i*sz)) else .fail
  |none=>.fail
 |_=>.fail
def kd(i:Nat)(v:ae):ah:=
 match v with
 |.d0 vs=>qV E s k vs[i]?
 |_=>.fail
def p5(str:Bool)(v:ae):ah:=
 match str,v with
 |true,.str e8=>E.F.v1 (.int .i64 e8.length) fun v=>k v s
 |false,.bW _ es _=>E.F.v1 (.int .i64 es.length) fun v=>k v s
 |false,.cO _ _ n _ _=>E.F.v1 (.int .i64 n) fun v=>k v s
 |_,_=>.fail
def copyV(d x:ae):ah:=
 match d with
 |.cO a off len _ sz=>
  match dv s x with
  |some (z,es)=>
   match s.get a with
   |some (.cells cs)=>
    bif Nat.beq z sz&&Nat.ble (off+len*sz) cs.length&&((es.take (min es.length len)).flatMap ae.cells).all ae.eB then
     E.F.l (dL cs off ((es.take (min es.length len)).flatMap ae.cells)) fun cs=>
     match s.set a (.cells cs) with
     |some s=>E.F.v1 (.int .i64 (min es.length len:Nat)) fun v=>E.F.s s fun s=>k v s
     |none=>.fail
    else .fail
   |_=>.fail
  |none=>.fail
 |_=>.fail
def lQ(q:Nat)(d x:ae):ah:=
 match d with
 |.cO a off len cap sz=>bif Nat.beq sz q then copyV E s k (.cO a off len cap sz) x else .fail
 |_=>.fail
def nn(zero:List ae)(bytes:Nat)(l c:ae):ah:=
 match e1 l with
 |some l=>
  match e1 c with
  |some c=>
   bif Nat.ble l c&&Nat.ble (c*bytes) 1099511627776 then
    E.F.l (List.replicate c zero).flatten fun cs=>E.F.v1 (.cO (.l s.own.length) 0 l c zero.length) fun v=>E.F.s (s.new (.cells cs)) fun s=>k v s
   else .fail
  |none=>.fail
 |none=>.fail
def fe(n:Nat)(a v:ae):ah:=
 match a with
 |.ref a off=>bif v.fa&&Nat.beq v.cells.length n then h1 E s k a off v.cells else .fail
 |_=>.fail
def lk(m:Option Nat)(y:ae)(n:Nat)(a v:ae):ah:=
 fe E s (fun u t=>bif n6 (e2 s m y) (e2 t m y) then k u t else .fail) n a v
def ke(d:IntKind)(v:ae):ah:=
 match v with
 |.int _ n=>E.F.v1 (.int d (d.wrap n)) fun v=>k v s
 |_=>.fail
def mo(v:ae):ah:=
 match v with
 |.str e8=>k (.str e8) s
 |_=>.fail
def ho(v:ae):ah:=
 match v with
 |.str e8=>E.F.v1 (.bW 1 (e8.map fun b=>.int .u8 (b:Nat)) .any) fun v=>k v s
 |_=>.fail
def gF(v:ae):ah:=
 match v with
 |.str _=>.fail
 |v=>
  match dv s v with
  |some (_,es)=>qV E s k ((h4 es).map .str)
  |none=>.fail
def np(c a b:ae):ah:=
 match c with
 |.bool t=>E.F.n1 (bif t then a else b) fun v=>k v s
 |_=>.fail
def je(v:ae):ah:=
 match isNil v with
 |some false=>E.F.n1 v fun v=>k v s
 |_=>.fail
def m0(v:ae):ah:=
 match v with
 |.cO (.l i) off len cap sz=>
  match s.own[i]? with
  |some (.cells cs)=>
   let es:=chunk sz len (cs.drop off)
   bif ae.aZ es&&Nat.ble (off+len*sz) cs.length&& !Nat.beq sz 0 then
    E.F.v1 (.bW sz es (if len=cap then .exact else .any)) fun v=>E.F.s {s with own:=s.own.set i .gone} fun s=>k v s
   else .fail
  |_=>.fail
 |_=>.fail
def hN(sz:Nat)(es:List ae):ah:=
 bif ae.aZ es&&es.all (fun e=>e.fa&&Nat.beq e.cells.length sz) then E.F.v1 (.bW sz es .exact) fun v=>k v s else .fail
def jR(sz:Nat)(es:List ae):ah:=
 bif ae.ku s.aa es&&es.all (fun e=>e.fa&&Nat.beq e.cells.length sz) then
  E.F.v1 (.bW sz es (.dx (.l s.own.length))) fun v=>E.F.s (s.new (.tok es.length)) fun s=>k v s
 else .fail
def jS(sz:Nat)(es:List ae):ah:=
 bif es.all (fun e=>e.fa&&Nat.beq e.cells.length sz) then
  E.F.l (es.flatMap ae.cells) fun cs=>E.F.v1 (.cO (.l s.own.length) 0 es.length es.length sz) fun v=>E.F.s (s.new (.cells cs)) fun s=>k v s
 else .fail
def la(f:ae)(args:List ae):ah:=
 match f with
 |.fn f dI=>E.F.l (args++dI) fun args=>eA E s k kp f args
 |_=>.fail
def jT(f:ae)(args:List ae):ah:=
 match f with
 |.fn f dI=>E.F.l (args++dI) fun args=>hD E s k f args
 |_=>.fail
def kw(xs:List (Option Nat×ae))(f:ae)(args:List ae):ah:=
 match f with
 |.fn f dI=>E.F.l (args++dI) fun args=>h2 E s k kp xs f args
 |_=>.fail
def lb(f:ae→ae→Option ae)(xs:List ae):ah:=
 match xs with
 |x::xs=>qV E s k (uT f x xs)
 |[]=>.fail
def gj(q bytes:Nat)(b:Option Loc)(x y:ae):ah:=
 match b with
 |some b=>hL E s k q bytes b x y
 |none=>.fail
def kP(q bytes:Nat)(b:Option Loc)(x y:ae):ah:=
 match x with
 |.bW sz es g=>gj E s k q bytes b (.bW sz es g) y
 |_=>.fail
def mq(q bytes:Nat)(b:Option Loc)(x y:ae):ah:=
 match b with
 |some b=>kb E s k q bytes b x y
 |none=>.fail
def iD(z n:Nat)(x:ae)(gg bL iK:Option bF):ah:=
 match x with
 |.ref a off=>
  match dG E.au ao gg 0,dG E.au ao bL n,dG E.au ao iK n with
  |some l,some h,some m=>bif Nat.ble l h&&Nat.ble h m&&Nat.ble m n then E.F.v1 (.cO a (if m=l then off else off+l*z) (h-l) (m-l) z) fun v=>k v s else .fail
  |_,_,_=>.fail
 |_=>.fail
def l8(b:Option Loc):ah:=
 match b with
 |some b=>
  match s.hn b (.map []) with
  |some (l,s)=>E.F.v1 (.map l) fun v=>E.F.s s fun s=>k v s
  |none=>.fail
 |none=>.fail
def ll(kJ:xr)(m x v:ae):ah:=
 match m with
 |.map a=>
  match s.get a with
  |some (.map es)=>
   bif isKey kJ x&&v.fa&&s.gO a [x,v] then
    match putKey x v es with
    |some es=>
     match s.set a (.map es) with
     |some s=>E.F.s s fun s=>k .dead s
     |none=>.fail
    |none=>.fail
   else .fail
  |_=>.fail
 |_=>.fail
def entriesOf:ae→Option (List (ae×ae))
 |.fh=>some []
 |.map a=>
  match s.get a with
  |some (.map es)=>some es
  |_=>none
 |_=>none
def lm(kJ:xr)(zero:ae)(ok:Bool)(m x:ae):ah:=
 bif isKey kJ x then
  match entriesOf s m with
  |some es=>
   match findKey x es with
   |some (some v)=>E.F.v1 (bif ok then .d0 [v,.bool true] else v) fun v=>k v s
   |some none=>E.F.v1 (bif ok then .d0 [zero,.bool false] else zero) fun v=>k v s
   |none=>.fail
  |none=>.fail
 else .fail
def aM(op:gk):ah:=
 match op with
 |.move x=>E.F.n1 (aq E.au ao x) fun v=>k v s
 |.nl x=>E.F.n1 (n5 (aq E.au ao x)) fun v=>k v s
 |.pick c a b=>np E s k (aq E.au ao c) (aq E.au ao a) (aq E.au ao b)
 |.alloc zero=>E.F.v1 (.ref (.l s.own.length) 0) fun v=>E.F.s (s.new (.cells zero)) fun s=>k v s
 |.fu x=>bif (aq E.au ao x).fa then E.F.v1 (.bh ((aq E.au ao x).ap s.aa).cells) fun v=>k v s else .fail
 |.j1 x=>bif (aq E.au ao x).fa then E.F.l ((aq E.au ao x).ap s.aa).cells fun cs=>E.F.v1 (.ref (.l s.own.length) 0) fun v=>E.F.s (s.new (.cells cs)) fun s=>k v s else .fail
 |.build zero parts=>qV E s k ((fj E.au s.aa ao zero parts).map .agg)
 |.buildSlice sz parts=>hN E s k sz (parts.map (aq E.au ao))
 |.oY x=>m0 E s k (aq E.au ao x)
 |.load n a=>dY E s k n (aq E.au ao a)
 |.store n a v=>fe E s k n (aq E.au ao a) ((aq E.au ao v).ap s.aa)
 |.k9 m y n a v=>lk E s k m (aq E.au ao y) n (aq E.au ao a) ((aq E.au ao v).ap s.aa)
 |.nilCheck x=>je E s k (aq E.au ao x)
 |.bin op x y=>qV E s k (al op (aq E.au ao x) (aq E.au ao y))
 |.eq neg e x y=>qV E s k ((o1 e (aq E.au ao x) (aq E.au ao y)).map fun b=>.bool (bif neg then !b else b))
 |.un op x=>qV E s k (kn op (aq E.au ao x))
 |.lj d x=>ke E s k d (aq E.au ao x)
 |.n3 x=>mo s k (aq E.au ao x)
 |.gN x=>gF E s k (aq E.au ao x)
 |.ja x=>ho E s k (aq E.au ao x)
 |.jL t x=>E.F.v1 (.iface t ((aq E.au ao x).ap s.aa)) fun v=>k v s
 |.ks f dI=>E.F.v1 (.fn f (dI.map fun x=>(aq E.au ao x).ap s.aa)) fun v=>k v s
 |.makeSlice zero bytes l c=>nn E s k zero bytes (aq E.au ao l) (aq E.au ao c)
 |.kt x gg bL=>jQ E ao s k (aq E.au ao x) gg bL
 |.slice z x gg bL iK=>j3 E ao s k z (aq E.au ao x) gg bL iK
 |.fieldAddr off a=>gP E s k off (aq E.au ao a)
 |.field off n x=>lP E s k off n (aq E.au ao x)
 |.jb sz x i=>kK E s k sz (aq E.au ao x) (aq E.au ao i)
 |.fv sz len x i=>hM E s k sz len (aq E.au ao x) (aq E.au ao i)
 |.mY x i=>h6 E s k (aq E.au ao x) (aq E.au ao i)
 |.n4 sz len n x i=>kv E s k sz len n (aq E.au ao x) (aq E.au ao i)
 |.extract x i=>kd E s k i (aq E.au ao x)
 |.call f args=>E.F.l (args.map fun x=>(aq E.au ao x).ap s.aa) fun args=>eA E s k kp f args
 |.eA f args=>la E s k kp (aq E.au ao f) (args.map fun x=>(aq E.au ao x).ap s.aa)
 |.hl f args=>E.F.l (args.map fun x=>(aq E.au ao x).ap s.aa) fun args=>hD E s k f args
 |.lM f args=>jT E s k (aq E.au ao f) (args.map fun x=>(aq E.au ao x).ap s.aa)
 |.len b x=>p5 E s k b (aq E.au ao x)
 |.append q bytes b x y=>gj E s k q bytes (h5 E.au ao b) (aq E.au ao x) (aq E.au ao y)
 |.copy q d x=>lQ E s k q (aq E.au ao d) (aq E.au ao x)
 |.min xs=>lb E s k min2 (xs.map fun x=>(aq E.au ao x).ap s.aa)
 |.max xs=>lb E s k max2 (xs.map fun x=>(aq E.au ao x).ap s.aa)
 |.makeMap b=>l8 E s k (h5 E.au ao b)
 |.mZ kJ m x v=>ll E s k kJ (aq E.au ao m) ((aq E.au ao x).ap s.aa) ((aq E.au ao v).ap s.aa)
 |.lookup kJ zero ok m x=>lm E s k kJ zero ok (aq E.au ao m) ((aq E.au ao x).ap s.aa)
 |.lA iq f args=>E.F.l (args.map fun x=>(aq E.au ao x).ap s.aa) fun args=>h2 E s k kp (iq.map fun x=>(x.1,aq E.au ao x.2)) f args
 |.j2 iq f args=>kw E s k kp (iq.map fun x=>(x.1,aq E.au ao x.2)) (aq E.au ao f) (args.map fun x=>(aq E.au ao x).ap s.aa)
 |.uS neg x=>qV E s k (za neg (aq E.au ao x))
 |.iV z n x gg bL iK=>iD E ao s k z n (aq E.au ao x) gg bL iK
 |.jN q bytes b x y=>mq E s k q bytes (h5 E.au ao b) (aq E.au ao x) (aq E.au ao y)
 |.gD sz parts=>jR E s k sz (parts.map fun x=>(aq E.au ao x).ap s.aa)
 |.gE sz parts=>jS E s k sz (parts.map fun x=>(aq E.au ao x).ap s.aa)
 |.jO q bytes x y=>kc E s k q bytes (zb s (aq E.au ao x)) (aq E.au ao y)
 |.jM q bytes b x y=>kP E s k q bytes (h5 E.au ao b) (aq E.au ao x) (aq E.au ao y)
 |.no=>.fail
end
def mr(g:Option (Nat×Bool))(ao:eO)(k:Bool→ah):ah:=
 match g with
 |none=>k true
 |some (t,want)=>
  match ao.get t with
  |.bool b=>k (b==want)
  |.d0 _=>k false
  |_=>.fail
def fw(E:Env):List cS→eO→ag→(eO→ag→ah)→(ae→eO→ag→ah)→ah
 |[],ao,s,fin,_=>fin ao s
 |o::os,ao,s,fin,e=>
  mr o.guard ao fun w=>
   bif w then aM E ao.get s (fun v s=>jc ao o.dst v fun ao=>fw E os ao s fin e) (fun v s=>e v ao s) o.op
   else jc ao o.dst (.d0 []) fun ao=>fw E os ao s fin e
def eJ(A:Nat→List Nat)(i:Nat):Nat→List Nat→List Nat
 |0,_=>[]
 |k+1,m=>bif m.elem k then(bif Nat.beq k i then eJ A i k (A k++m) else k::eJ A i k (A k++m)) else eJ A i k m
def n7:List ae→Option (List Nat)
 |[]=>some []
 |.int .i64 n::l=>if 0≤n then(n7 l).map (n.toNat:: ·) else none
 |_::_=>none
def lR:ae→Option (List Nat)
 |.agg cs=>
  match (cs[2]? :Option ae) with
  |some (.bW 1 es _)=>n7 es
  |_=>none
 |_=>none
def o2:List ae→Option (List (List Nat))
 |[]=>some []
 |e::es=>(lR e).bind fun a=>(o2 es).map (a:: ·)
def o3(es:List ae)(i:Int):Option (List ae):=
 match o2 es with
 |some A=>bif decide (0≤i)&&Nat.blt i.toNat es.length&&Nat.ble es.length 40&&A.all (fun l=>Nat.ble l.length 1000&&l.all (Nat.blt · es.length)) then some ((eJ (A.getD · []) i.toNat (i.toNat+1) [i.toNat]).map fun k=>.int .i64 (k:Nat)) else none
 |none=>none
def pO(s:ag)(j:Nat)(dI:List ae):Option (List ae):=
 match j,dI with
 |0,[.bh [.int .i64 i],.bh [v]]=>(dv s v).bind fun p=>bif Nat.beq p.1 12 then o3 p.2 i else none
 |_,_=>none
def ff(s s':ag):ae→Bool
 |.bh [.cO a _ _ _ _]=>match s.get a,s'.get a with
  |some (.cells cs),some (.cells e)=>ae.lB cs e
  |_,_=>false
 |_=>true
def fI(step:ae→ag→(oU→ag→ah)→ah)(ht:ag)(dI:List ae):List ae→ag→(oU→ag→ah)→ah
 |[],s,k=>k .norm s
 |x::xs,s,k=>step x s fun e s=>
  match e with
  |.norm=>bif dI.all (ff ht s) then fI step ht dI xs s k else .fail
  |e=>k e s
def lS(j f:Nat)(g:ae)(step:ae→ag→(oU→ag→ah)→ah)(s:ag)(k:oU→ag→ah):ah:=
 match g with
 |.fn xt dI=>bif Nat.beq f xt then(match pO s j dI with
  |some xs=>fI step s dI xs s k
  |none=>.fail) else .fail
 |_=>.fail
def exec(E:Env):ad→mU
 |.skip,ao,s,k=>k .norm ao s
 |.region none ops,ao,s,k=>fw E ops ao s (fun ao s=>k .norm ao s) (fun _ _ _=>.fail)
 |.region (some nm) ops,ao,s,k=>bif nm.all (qX E.au ao.get) then fw E ops ao s (fun ao s=>k .norm ao s) (fun _ _ _=>.fail) else .fail
 |.seq a b,ao,s,k=>exec E a ao s (fP (exec E b) k)
 |.mask m a,ao,s,k=>eO.jF m (fun ao=>exec E a ao s k) ao
 |.cond c a b,ao,s,k=>
  match aq E.au ao.get c with
  |.bool t=>bif t then exec E a ao s k else exec E b ao s k
  |_=>.fail
 |.block id c,ao,s,k=>exec E c ao s (dy id k)
 |.loop bU c,ao,s,k=>eO.jF bU (fun ao=>E.loop (exec E c) bU ao s k) ao
 |.exit id,ao,s,k=>k (.exit id) ao s
 |.scope c,ao,s,k=>exec E c ao s k
 |.ret,ao,s,k=>k .ret ao s
 |.range j f g p a b,ao,s,k=>lS j f (aq E.au ao.get g) (fun x s lN=>jc ao (some p) x fun eo=>exec E a eo s (Em (exec E b) fun e _ s=>lN e s)) s fun e s=>k e ao s
def gx(s:ag)(i off len cap sz:Nat):Option ae:=
 match s.own[i]? with
 |some (.cells cs)=>let es:=chunk sz len (cs.drop off);if ae.aZ es&&Nat.ble (off+len*sz) cs.length&& !Nat.beq sz 0 then some (.bW sz es (if len=cap then .exact else .any)) else none
 |_=>none
def gu(s:ag):ae→Option ae
 |.cO (.l i) off len cap sz=>gx s i off len cap sz
 |.cO (.g d i) off len cap sz=>if d=s.aa then gx s i off len cap sz else if d<s.aa then some (.cO (.g d i) off len cap sz) else none
 |.ref (.g d i) off=>if d<s.aa then some (.ref (.g d i) off) else none
 |.bW sz es (.dx (.l _))=>if ae.aZ es then some (.bW sz es .any) else none
 |.bW sz es (.dx (.g d i))=>if d<s.aa then some (.bW sz es (.dx (.g d i))) else if ae.aZ es then some (.bW sz es .any) else none
 |.map (.g d i)=>if d<s.aa then some (.map (.g d i)) else none
 |.fn f dI=>if ae.aZ dI then some (.fn f dI) else if Nat.blt 0 s.aa&&ae.ku (s.aa-1) dI then some (.fn f dI) else none
 |v=>if v.bc then some v else none
def fl{α β:Type}(f:α→Option β):List α→Option (List β)
 |[]=>some []
 |x::xs=>(f x).bind fun y=>(fl f xs).map fun e=>y::e
def nE(s:ag):ae→Option ae
 |.agg cs=>(fl (gu s) cs).map .agg
 |v=>gu s v
def jU(s:ag)(sz:Nat)(es:List ae):Option ae:=if ae.aZ es then some (.bW sz es .any) else(fl (nE s) es).bind fun es=>if ae.aZ es then some (.bW sz es .any) else none
def eC(s:ag):ae→Option ae
 |.bW sz es (.dx (.l _))=>jU s sz es
 |.bW sz es (.dx (.g d i))=>if d<s.aa then some (.bW sz es (.dx (.g d i))) else jU s sz es
 |v=>gu s v
def freeze(s:ag):ae→Option ae
 |.agg cs=>(fl (eC s) cs).map .agg
 |v=>eC s v
def qY(ao:eO)(s:ag):te→Option ae
 |.t n=>some (ao.get n)
 |.cell a n=>
  match ao.get a with
  |.ref a off=>
   match s.get a,n with
   |some (.cells cs),none=>cs[off]?
   |some (.cells cs),some n=>if Nat.ble (off+n) cs.length then some (.agg ((cs.drop off).take n)) else none
   |_,_=>none
  |_=>none
def qZ:List ae→ae
 |[v]=>v
 |vs=>.d0 vs
def finish(F:aX)(fn:c4)(ao:eO)(s:ag):ah:=
 match fl (qY ao s) fn.results with
 |some vs=>
  if fn.bU then F.l (vs.map (ae.ap s.aa)) fun vs=>.ok (qZ vs) s
  else
   match fl (freeze s) vs with
   |some vs=>
    match s.up with
    |own::up=>F.l vs fun vs=>F.s {own,up,ro:=s.ro} fun s=>.ok (qZ vs) s
    |[]=>.fail
   |none=>.fail
 |none=>.fail
def Mo(F:aX)(fn:c4):fk:=fun x ao s=>
 match x with
 |.norm=>finish F fn ao s
 |.ret=>finish F fn ao s
 |_=>.fail
def bI:List ae→Nat→eO→(eO→ah)→ah
 |[],_,ao,k=>k ao
 |v::vs,i,ao,k=>ao.i9 12 i v fun ao=>bI vs (i+1) ao k
def call(F:aX)(T:Nat→Option c4)(G:Nat→ae)(X:Nat→List ae→ag→ah):Nat→Nat→List ae→ag→ah
 |0,_,_,_=>.fail
 |n+1,f,args,s=>
  match T f with
  |none=>X f args s
  |some fn=>
   bif Nat.beq args.length fn.aek then
    bI args 0 .e fun ao=>exec {F,au:=G,call:=call F T G X n,loop:=fun step bU=>dS step bU n} fn.body ao
     (if fn.bU then s else {own:=[],up:=s.own::s.up,ro:=s.ro})
     (Mo F fn)
   else .fail
theorem Loc.iE{a b:Loc}:a.same b=true↔a=b:=by cases a<;> cases b<;> simp [Loc.same]
theorem eZ.iE{a b:eZ}:a.same b=true↔a=b:=by cases a<;> cases b<;> simp [eZ.same,Loc.iE]
mutual
theorem ae.iE:∀(a b:ae),a.same b=true↔a=b
 |.dead,b=>by cases b<;> simp [ae.same]
 |.hJ,b=>by cases b<;> simp [ae.same]
 |.hZ,b=>by cases b<;> simp [ae.same]
 |.km l,b=>by cases b<;> simp [ae.same]
 |.fh,b=>by cases b<;> simp [ae.same]
 |.hK,b=>by cases b<;> simp [ae.same]
 |.bool a,b=>by cases b<;> simp [ae.same]
 |.int k a,b=>by cases b<;> simp [ae.same]
 |.str a,b=>by cases b<;> simp [ae.same]
 |.bW z a g,b=>by cases b<;> simp [ae.same,eZ.iE,ae.jt a,and_assoc];intro _;exact And.comm
 |.cO a x y z q,b=>by cases b<;> simp [ae.same,Loc.iE,and_assoc]
 |.ref a x,b=>by cases b<;> simp [ae.same,Loc.iE]
 |.bh a,b=>by cases b<;> simp [ae.same,ae.jt a]
 |.fn f a,b=>by cases b<;> simp [ae.same,ae.jt a]
 |.map a,b=>by cases b<;> simp [ae.same,Loc.iE]
 |.iface t v,b=>by cases b<;> simp [ae.same,ae.iE v]
 |.agg a,b=>by cases b<;> simp [ae.same,ae.jt a]
 |.d0 a,b=>by cases b<;> simp [ae.same,ae.jt a]
theorem ae.jt:∀(a b:List ae),ae.lB a b=true↔a=b
 |[],b=>by cases b<;> simp [ae.lB]
 |x::xs,b=>by cases b<;> simp [ae.lB,ae.iE x,ae.jt xs]
end
theorem yh{a b:Option (List ae)}:n6 a b=true↔∃l,a=some l∧b=some l:=by cases a<;> cases b<;> simp only[n6,ae.jt,b4,bm,reduceCtorEq,false_and,and_false,exists_false,exists_eq_left'];exact eq_comm
def hI(n:Nat)(k:Nat→ah):ah:=Nat.casesOn n (k 0) (fun p=>k (p+1))
def pP(n:Int)(k:Int→ah):ah:=
 match n with
 |.ofNat m=>hI m fun m=>k (.ofNat m)
 |.negSucc m=>hI m fun m=>k (.negSucc m)
def n8:List Nat→(List Nat→ah)→ah
 |[],k=>k []
 |x::xs,k=>hI x fun x=>n8 xs fun xs=>k (x::xs)
def q0(v:ae)(k:ae→ah):ah:=
 match v with
 |.dead=>k .dead
 |.bool b=>match b with
  |true=>k (.bool true)
  |false=>k (.bool false)
 |.int i n=>pP n fun n=>k (.int i n)
 |.str s=>k (.str s)
 |.bW sz es g=>k (.bW sz es g)
 |.cO a off len cap sz=>k (.cO a off len cap sz)
 |.ref a off=>k (.ref a off)
 |.bh cs=>k (.bh cs)
 |.hJ=>k .hJ
 |.fn f dI=>k (.fn f dI)
 |.hZ=>k .hZ
 |.km l=>k (.km l)
 |.map a=>k (.map a)
 |.fh=>k .fh
 |.iface t v=>k (.iface t v)
 |.hK=>k .hK
 |.agg cs=>k (.agg cs)
 |.d0 vs=>k (.d0 vs)
def lT:List ae→(List ae→ah)→ah
 |[],k=>k []
 |x::xs,k=>q0 x fun x=>lT xs fun xs=>k (x::xs)
def l9(a:Loc)(k:Loc→ah):ah:=
 match a with
 |.l i=>hI i fun i=>k (.l i)
 |.g d i=>hI d fun d=>hI i fun i=>k (.g d i)
def uV(g:eZ)(k:eZ→ah):ah:=
 match g with
 |.nil=>k .nil
 |.exact=>k .exact
 |.any=>k .any
 |.dx a=>l9 a fun a=>k (.dx a)
def zc(v:ae)(k:ae→ah):ah:=
 match v with
 |.dead=>k .dead
 |.bool b=>match b with
  |true=>k (.bool true)
  |false=>k (.bool false)
 |.int i n=>pP n fun n=>k (.int i n)
 |.str s=>n8 s fun s=>k (.str s)
 |.bW sz es g=>lT es fun es=>uV g fun g=>k (.bW sz es g)
 |.cO a off len cap sz=>l9 a fun a=>hI off fun off=>hI len fun len=>hI cap fun cap=>k (.cO a off len cap sz)
 |.ref a off=>l9 a fun a=>hI off fun off=>k (.ref a off)
 |.bh cs=>lT cs fun cs=>k (.bh cs)
 |.hJ=>k .hJ
 |.fn f dI=>lT dI fun dI=>k (.fn f dI)
 |.hZ=>k .hZ
 |.km l=>k (.km l)
 |.map a=>l9 a fun a=>k (.map a)
 |.fh=>k .fh
 |.iface t v=>q0 v fun v=>k (.iface t v)
 |.hK=>k .hK
 |.agg cs=>lT cs fun cs=>k (.agg cs)
 |.d0 vs=>lT vs fun vs=>k (.d0 vs)
def sI(o:cU)(k:cU→ah):ah:=
 match o with
 |.cells cs=>k (.cells cs)
 |.tok n=>hI n fun n=>k (.tok n)
 |.map es=>k (.map es)
 |.gone=>k .gone
def ms:List cU→(List cU→ah)→ah
 |[],k=>k []
 |x::xs,k=>sI x fun x=>ms xs fun xs=>k (x::xs)
def nF:List (List cU)→(List (List cU)→ah)→ah
 |[],k=>k []
 |x::xs,k=>ms x fun x=>nF xs fun xs=>k (x::xs)
def uW(s:ag)(k:ag→ah):ah:=ms s.own fun own=>nF s.up fun up=>nF s.ro fun ro=>k {own,up,ro}
def aX.full:aX:={n1:=q0,v1:=zc,l:=lT,s:=uW}
theorem kx(n:Nat)(k:Nat→ah):hI n k=k n:=by cases n<;> rfl
theorem q1(n:Int)(k:Int→ah):pP n k=k n:=by cases n<;> simp [pP,kx]
theorem p6:∀(l:List Nat) (k:List Nat→ah),n8 l k=k l
 |[],_=>rfl
 |x::xs,k=>by simp [n8,kx,p6 xs]
theorem qy(v:ae)(k:ae→ah):q0 v k=k v:=by cases v<;> simp only[q0,q1];split<;> rfl
theorem qz:∀(l:List ae) (k:List ae→ah),lT l k=k l
 |[],_=>rfl
 |x::xs,k=>by simp [lT,qy,qz xs]
theorem q2(a:Loc)(k:Loc→ah):l9 a k=k a:=by cases a<;> simp [l9,kx]
theorem AT(a:eZ)(k:eZ→ah):uV a k=k a:=by cases a<;> simp [uV,q2]
theorem En(v:ae)(k:ae→ah):zc v k=k v:=by cases v<;> simp only[zc,q1,p6,qz,q2,AT,kx,qy];split<;> rfl
theorem zd(o:cU)(k:cU→ah):sI o k=k o:=by cases o<;> simp [sI,kx]
theorem nq:∀(l:List cU) (k:List cU→ah),ms l k=k l
 |[],_=>rfl
 |x::xs,k=>by simp [ms,zd,nq xs]
theorem q3:∀(l:List (List cU)) (k:List (List cU)→ah),nF l k=k l
 |[],_=>rfl
 |x::xs,k=>by simp [nF,nq,q3 xs]
theorem AU(s:ag)(k:ag→ah):uW s k=k s:=by simp [uW,nq,q3]
theorem aX.AV:aX.full=aX.not:=by
 unfold aX.full aX.not;congr<;> funext v k
 ·exact qy v k
 ·exact En v k
 ·exact qz v k
 ·exact AU v k
def ur(f:Nat):List (Nat×c4)→Option c4
 |[]=>none
 |(g,c)::l=>bif Nat.beq f g then some c else ur f l
theorem tf{f:Nat}{c:c4}:∀{l:List (Nat×c4)},ur f l=some c→(f,c)∈l
 |[],h=>by cases h
 |(g,d)::l,h=>by
  simp only[ur] at h;cases e:Nat.beq f g with
  |true=>
   rw[e] at h
   have:=dh e;subst this;obtain rfl:=Option.some.inj h;exact List.mem_cons_self ..
  |false=>rw[e] at h;exact List.mem_cons_of_mem _ (tf h)
end Go.Ab
end
section
namespace Go.Ab
structure bj where
 F:Addr→Option Value
 n:Nat→Nat
 loc:Nat→Nat→Nat
 lC:Nat→Nat→Nat→Option (Addr×Nat×Nat)
def iF(κ:bj)(D:Nat)(sz:Nat):eZ→Nat→Addr→Nat→Prop
 |.nil,_,_,_=>False
 |.exact,n,_,cap=>cap=n
 |.any,_,_,_=>True
 |.dx (.g d i),n,a,cap=>d<D∧i<κ.n d∧κ.lC d i n=some (a,cap,sz)
 |.dx (.l _),_,_,_=>False
def uX(g:eZ)(es:List ae):Prop:=(∀e,e∈es→e.bc=true)∨∃d j,g=.dx (.g d j)∧∀e,e∈es→e.low d=true
inductive dC (κ:bj) (D:Nat):ae→Value→Prop
 |dead (x:Value):dC κ D .dead x
 |bool (b:Bool):dC κ D (.bool b) (.bool b)
 |int (k:IntKind) (n:Int):dC κ D (.int k n) (.int k n)
 |str (e8:List Nat) (s:ByteArray) (h:s.data.toList.map UInt8.toNat=e8):dC κ D (.str e8) (.string s)
 |kQ (sz:Nat):dC κ D (.bW sz [] .nil) (.slice none 0 0)
 |bW (sz:Nat) (es:List ae) (g:eZ) (a:Addr) (cap:Nat) (dt:Nat→Value) (cb:iF κ D sz g es.length a cap) (dm:es.length≤cap) (a7:es≠[]→a.spot=none)
   (e3:∀e,e∈es→e.cells.length=sz) (aU:uX g es)
   (h7:∀j,j<(es.flatMap ae.cells).length→κ.F (a.add j)=some (dt j))
   (bM:∀(j:Nat) (c:ae),(es.flatMap ae.cells)[j]? =some c→dC κ D c (dt j)):dC κ D (.bW sz es g) (.slice (some a) es.length cap)
 |cO (d i off len cap lU sz:Nat) (cP:d<D) (bL:i<κ.n d) (bN:len≤lU) (aY:lU=cap∨(cap=0∧0<len∧off=0∧κ.lC d i len=some (⟨κ.loc d i,0,none⟩,lU,sz))):dC κ D (.cO (.g d i) off len cap sz) (.slice (some ⟨κ.loc d i,off,none⟩) len lU)
 |ref (d i off:Nat) (cP:d<D) (bL:i<κ.n d):dC κ D (.ref (.g d i) off) (.pointer (some ⟨κ.loc d i,off,none⟩))
 |bh (cs:List ae) (a:Addr) (dt:Nat→Value) (a7:a.spot=none) (h7:∀j,j<cs.length→κ.F (a.add j)=some (dt j))
   (bM:∀(j:Nat) (c:ae),cs[j]? =some c→dC κ D c (dt j)):dC κ D (.bh cs) (.pointer (some a))
 |hJ:dC κ D .hJ (.pointer none)
 |fn (f:Nat) (cs:List ae) (xs:List Value) (bN:xs.length=cs.length) (bM:∀(j:Nat) (c:ae) (x:Value),cs[j]? =some c→xs[j]? =some x→dC κ D c x):dC κ D (.fn f cs) (.func (.func f) #[] xs.toArray)
 |hZ:dC κ D .hZ .nilFunc
 |km (l:Nat):dC κ D (.km l) (.func (.yield l) #[] #[])
 |fh:dC κ D .fh (.map none)
 |map (d i:Nat) (cP:d<D) (bL:i<κ.n d):dC κ D (.map (.g d i)) (.map (some (κ.loc d i)))
 |iface (t:Nat) (v:ae) (x:Value) (h:dC κ D v x):dC κ D (.iface t v) (.iface t x)
 |hK:dC κ D .hK .nilIface
 |agg (cs:List ae) (xs:List Value) (bN:xs.length=cs.length) (bM:∀(j:Nat) (c:ae) (x:Value),cs[j]? =some c→xs[j]? =some x→dC κ D c x):dC κ D (.agg cs) (.agg xs.toArray)
 |d0 (cs:List ae) (xs:List Value) (bN:xs.length=cs.length) (bM:∀(j:Nat) (c:ae) (x:Value),cs[j]? =some c→xs[j]? =some x→dC κ D c x):dC κ D (.d0 cs) (.tuple xs.toArray)
def eu(κ:bj)(D:Nat)(cs:List ae)(xs:List Value):Prop:=xs.length=cs.length∧∀(j:Nat) (c:ae) (x:Value),cs[j]? =some c→xs[j]? =some x→dC κ D c x
structure gV (κ κ':bj) (D:Nat):Prop where
 F:∀a v,κ.F a=some v→κ'.F a=some v
 n:∀d,d<D→κ.n d≤κ'.n d
 loc:∀d i,d<D→i<κ.n d→κ'.loc d i=κ.loc d i
 lC:∀d i n x,d<D→i<κ.n d→κ.lC d i n=some x→κ'.lC d i n=some x
theorem gV.refl(κ:bj)(D:Nat):gV κ κ D:=⟨fun _ _ h=>h,fun _ _=>aD _,fun _ _ _ _=>rfl,fun _ _ _ _ _ _ h=>h⟩
theorem gV.trans{κ κ' r:bj}{D:Nat}(h:gV κ κ' D)(k:gV κ' r D):gV κ r D:=
 ⟨fun a v e=>k.F a v (h.F a v e),fun d cP=>Nat.le_trans (h.n d cP) (k.n d cP),
  fun d i cP bL=>(k.loc d i cP (gd bL (h.n d cP))).trans (h.loc d i cP bL),
  fun d i n x cP bL e=>k.lC d i n x cP (gd bL (h.n d cP)) (h.lC d i n x cP bL e)⟩
theorem gV.low{κ κ':bj}{D r:Nat}(h:gV κ κ' D)(e:r≤D):gV κ κ' r:=
 ⟨h.F,fun d cP=>h.n d (gd cP e),fun d i cP=>h.loc d i (gd cP e),fun d i n x cP=>h.lC d i n x (gd cP e)⟩
theorem iF.mono{κ κ':bj}{D sz n cap:Nat}{g:eZ}{a:Addr}(h:iF κ D sz g n a cap)(k:gV κ κ' D):iF κ' D sz g n a cap:=by unfold iF at *;split at h<;> simp_all;obtain⟨ar,av,bV⟩:=h;exact⟨gd av (k.n _ ar),k.lC _ _ _ _ ar av bV⟩
theorem dC.mono{κ κ':bj}{D:Nat}{v:ae}{x:Value}(h:dC κ D v x)(k:gV κ κ' D):dC κ' D v x:=by
 induction h with
 |dead x=>exact .dead x
 |bool b=>exact .bool b
 |int k n=>exact .int k n
 |str e8 s h=>exact .str e8 s h
 |kQ sz=>exact .kQ sz
 |bW sz es g a cap dt cb dm a7 e3 aU h7 bM e=>exact .bW sz es g a cap dt (cb.mono k) dm a7 e3 aU (fun j cX=>k.F _ _ (h7 j cX)) e
 |cO d i off len cap lU sz cP bL bN aY=>rw[←k.loc d i cP bL];exact .cO d i off len cap lU sz cP (gd bL (k.n d cP)) bN (aY.imp id fun⟨ar,av,bV,dD⟩=>⟨ar,av,bV,by rw[k.loc d i cP bL];exact k.lC d i len _ cP bL dD⟩)
 |ref d i off cP bL=>rw[←k.loc d i cP bL];exact .ref d i off cP (gd bL (k.n d cP))
 |bh cs a dt a7 h7 bM e=>exact .bh cs a dt a7 (fun j cX=>k.F _ _ (h7 j cX)) e
 |hJ=>exact .hJ
 |fn f cs xs bN bM e=>exact .fn f cs xs bN e
 |hZ=>exact .hZ
 |km l=>exact .km l
 |fh=>exact .fh
 |map d i cP bL=>rw[←k.loc d i cP bL];exact .map d i cP (gd bL (k.n d cP))
 |iface t v x h e=>exact .iface t v x e
 |hK=>exact .hK
 |agg cs xs bN bM e=>exact .agg cs xs bN e
 |d0 cs xs bN bM e=>exact .d0 cs xs bN e
theorem dC.up{κ:bj}{D u:Nat}{v:ae}{x:Value}(h:dC κ D v x)(r:D≤u):dC κ u v x:=by
 induction h with
 |dead x=>exact .dead x
 |bool b=>exact .bool b
 |int k n=>exact .int k n
 |str e8 s h=>exact .str e8 s h
 |kQ sz=>exact .kQ sz
 |bW sz es g a cap dt cb dm a7 e3 aU h7 bM e=>refine .bW sz es g a cap dt ?_ dm a7 e3 aU h7 e;unfold iF at *;split at cb<;> simp_all;exact gd cb.1 r
 |cO d i off len cap lU sz cP bL bN aY=>exact .cO d i off len cap lU sz (gd cP r) bL bN aY
 |ref d i off cP bL=>exact .ref d i off (gd cP r) bL
 |bh cs a dt a7 h7 bM e=>exact .bh cs a dt a7 h7 e
 |hJ=>exact .hJ
 |fn f cs xs bN bM e=>exact .fn f cs xs bN e
 |hZ=>exact .hZ
 |km l=>exact .km l
 |fh=>exact .fh
 |map d i cP bL=>exact .map d i (gd cP r) bL
 |iface t v x h e=>exact .iface t v x e
 |hK=>exact .hK
 |agg cs xs bN bM e=>exact .agg cs xs bN e
 |d0 cs xs bN bM e=>exact .d0 cs xs bN e
theorem iL{cs:List ae}(h:ae.aZ cs=true){j:Nat}{c:ae}(aY:cs[j]? =some c):c.bc=true:=by
 induction cs generalizing j with
 |nil=>simp at aY
 |cons v vs e=>
  simp only[ae.aZ,bl] at h;cases j with
  |zero=>simp at aY;exact aY ▸ h.1
  |succ j=>exact e h.2 (by simpa using aY)
theorem ef{cs:List ae}:ae.aZ cs=true↔∀c,c∈cs→c.bc=true:=by
 induction cs with
 |nil=>simp [ae.aZ]
 |cons v vs e=>simp [ae.aZ,e]
theorem h8{e:ae}(h:e.bc=true){c:ae}(aY:c∈e.cells):c.bc=true:=by
 unfold ae.cells at aY;split at aY
 ·exact ef.1 (by simpa [ae.bc] using h) c aY
 ·simp at aY;exact aY ▸ h
theorem dC.bc{κ:bj}{D:Nat}{v:ae}{x:Value}(h:dC κ D v x)(aU:v.bc=true){κ':bj}(y:Nat)(h7:∀a v,κ.F a=some v→κ'.F a=some v):dC κ' y v x:=by
 induction h with
 |dead x=>exact .dead x
 |bool b=>exact .bool b
 |int k n=>exact .int k n
 |str e8 s h=>exact .str e8 s h
 |kQ sz=>exact .kQ sz
 |bW sz es g a cap dt cb dm a7 e3 io u bM r=>
  refine .bW sz es g a cap dt ?_ dm a7 e3 io (fun j cX=>h7 _ _ (u j cX)) (fun j c aY=>r j c aY ?_)
  ·cases g<;> simp_all [ae.bc,iF]
  ·obtain⟨e,he,A⟩:=List.mem_flatMap.1 (List.mem_of_getElem? aY);rcases io with io|⟨d,j,rfl,_⟩
   ·exact h8 (io e he) A
   ·simp [ae.bc] at aU
 |cO d i off len cap lU sz cP bL bN aY=>simp [ae.bc] at aU
 |ref d i off cP bL=>simp [ae.bc] at aU
 |bh cs a dt a7 u bM r=>exact .bh cs a dt a7 (fun j cX=>h7 _ _ (u j cX)) (fun j c aY=>r j c aY (iL (by simpa [ae.bc] using aU) aY))
 |hJ=>exact .hJ
 |fn f cs xs bN bM r=>exact .fn f cs xs bN (fun j c x aY a5=>r j c x aY a5 (iL (by simpa [ae.bc] using aU) aY))
 |hZ=>exact .hZ
 |km l=>exact .km l
 |fh=>exact .fh
 |map d i cP bL=>simp [ae.bc] at aU
 |iface t v x h r=>exact .iface t v x (r (by simpa [ae.bc] using aU))
 |hK=>exact .hK
 |agg cs xs bN bM r=>exact .agg cs xs bN (fun j c x aY a5=>r j c x aY a5 (iL (by simpa [ae.bc] using aU) aY))
 |d0 cs xs bN bM r=>exact .d0 cs xs bN (fun j c x aY a5=>r j c x aY a5 (iL (by simpa [ae.bc] using aU) aY))
theorem ju{v:ae}(h:v.bc=true)(d:Nat):v.ap d=v:=by cases v<;> simp_all [ae.bc,ae.ap];rename_i g;cases g<;> simp_all [ae.bc,eZ.ap]
theorem nG{d:Nat}{cs:List ae}(h:ae.ku d cs=true){j:Nat}{c:ae}(aY:cs[j]? =some c):c.low d=true:=by
 induction cs generalizing j with
 |nil=>simp at aY
 |cons v vs e=>
  simp only[ae.ku,bl] at h;cases j with
  |zero=>simp at aY;exact aY ▸ h.1
  |succ j=>exact e h.2 (by simpa using aY)
theorem Loc.kf{d fQ:Nat}(h:d≤fQ){a:Loc}(r:a.low d=true):a.low fQ=true:=by
 cases a with
 |l i=>cases r
 |g e i=>exact et (Nat.le_trans (dW r) h)
mutual
theorem ae.kf{d fQ:Nat}(h:d≤fQ):∀(v:ae),v.low d=true→v.low fQ=true
 |.dead,_|.bool _,_|.int _ _,_|.str _,_|.hJ,_|.hZ,_|.km _,_|.fh,_|.hK,_=>rfl
 |.bW sz es g,bM=>by
  cases g with
  |dx a=>exact Loc.kf h bM
  |nil=>rfl
  |exact=>rfl
  |any=>rfl
 |.cO a _ _ _ _,bM=>Loc.kf h bM
 |.ref a _,bM=>Loc.kf h bM
 |.map a,bM=>Loc.kf h bM
 |.bh cs,bM=>ae.mu h cs bM
 |.fn _ cs,bM=>ae.mu h cs bM
 |.agg cs,bM=>ae.mu h cs bM
 |.d0 cs,bM=>ae.mu h cs bM
 |.iface _ v,bM=>ae.kf h v bM
theorem ae.mu{d fQ:Nat}(h:d≤fQ):∀(vs:List ae),ae.ku d vs=true→ae.ku fQ vs=true
 |[],_=>rfl
 |v::vs,bM=>by simp only[ae.ku,bl] at bM ⊢;exact⟨ae.kf h v bM.1,ae.mu h vs bM.2⟩
end
mutual
theorem ae.lV(d:Nat):∀(v:ae),v.bc=true→v.low d=true
 |.dead,_|.bool _,_|.int _ _,_|.str _,_|.hJ,_|.hZ,_|.km _,_|.fh,_|.hK,_=>rfl
 |.bW sz es g,bM=>by
  cases g with
  |dx a=>simp [ae.bc] at bM
  |nil=>rfl
  |exact=>rfl
  |any=>rfl
 |.cO a _ _ _ _,bM=>by simp [ae.bc] at bM
 |.ref a _,bM=>by simp [ae.bc] at bM
 |.map a,bM=>by simp [ae.bc] at bM
 |.bh cs,bM=>ae.iM d cs bM
 |.fn _ cs,bM=>ae.iM d cs bM
 |.agg cs,bM=>ae.iM d cs bM
 |.d0 cs,bM=>ae.iM d cs bM
 |.iface _ v,bM=>ae.lV d v bM
theorem ae.iM(d:Nat):∀(vs:List ae),ae.aZ vs=true→ae.ku d vs=true
 |[],_=>rfl
 |v::vs,bM=>by simp only[ae.aZ,bl] at bM;simp only[ae.ku,bl];exact⟨ae.lV d v bM.1,ae.iM d vs bM.2⟩
end
theorem kR{d:Nat}{cs:List ae}:ae.ku d cs=true↔∀c,c∈cs→c.low d=true:=by
 induction cs with
 |nil=>simp [ae.ku]
 |cons v vs e=>simp [ae.ku,e]
theorem uY{d:Nat}{e:ae}(h:e.low d=true){c:ae}(aY:c∈e.cells):c.low d=true:=by
 unfold ae.cells at aY;split at aY
 ·exact kR.1 (by simpa [ae.low] using h) c aY
 ·simp at aY;exact aY ▸ h
theorem dC.lower{κ:bj}{D d:Nat}{v:ae}{x:Value}(h:dC κ D v x)(bN:v.low d=true):dC κ (d+1) v x:=by
 induction h with
 |dead x=>exact .dead x
 |bool b=>exact .bool b
 |int k n=>exact .int k n
 |str e8 s h=>exact .str e8 s h
 |kQ sz=>exact .kQ sz
 |bW sz es g a cap dt cb dm a7 e3 io y bM r=>
  refine .bW sz es g a cap dt ?_ dm a7 e3 io y (fun j c aY=>?_)
  ·cases g with
   |dx l=>
    cases l with
    |l i=>simp [ae.low,Loc.low] at bN
    |g e i=>exact⟨Nat.lt_succ_of_le (dW (by simpa [ae.low,Loc.low] using bN)),cb.2⟩
   |nil=>exact cb
   |exact=>exact cb
   |any=>exact cb
  ·obtain⟨e,he,A⟩:=List.mem_flatMap.1 (List.mem_of_getElem? aY);rcases io with io|⟨fQ,hF,rfl,io⟩
   ·exact(bM j c aY).bc (h8 (io e he) A) _ (fun _ _ h=>h)
   ·exact r j c aY (ae.kf (dW (by simpa [ae.low,Loc.low] using bN)) c (uY (io e he) A))
 |cO e i off len cap lU sz cP bL u aY=>exact .cO e i off len cap lU sz (Nat.lt_succ_of_le (dW (by simpa [ae.low,Loc.low] using bN))) bL u aY
 |ref e i off cP bL=>exact .ref e i off (Nat.lt_succ_of_le (dW (by simpa [ae.low,Loc.low] using bN))) bL
 |bh cs a dt a7 y bM r=>exact .bh cs a dt a7 y (fun j c aY=>r j c aY (nG (by simpa [ae.low] using bN) aY))
 |hJ=>exact .hJ
 |fn f cs xs u bM r=>exact .fn f cs xs u (fun j c x aY a5=>r j c x aY a5 (nG (by simpa [ae.low] using bN) aY))
 |hZ=>exact .hZ
 |km l=>exact .km l
 |fh=>exact .fh
 |map e i cP bL=>exact .map e i (Nat.lt_succ_of_le (dW (by simpa [ae.low,Loc.low] using bN))) bL
 |iface t v x h r=>exact .iface t v x (r (by simpa [ae.low] using bN))
 |hK=>exact .hK
 |agg cs xs u bM r=>exact .agg cs xs u (fun j c x aY a5=>r j c x aY a5 (nG (by simpa [ae.low] using bN) aY))
 |d0 cs xs u bM r=>exact .d0 cs xs u (fun j c x aY a5=>r j c x aY a5 (nG (by simpa [ae.low] using bN) aY))
def Y9(jG:Nat×Nat)(n:Nat):Prop:=∀j,j<n→¬(jG.1≤j∧j<jG.2)
def mv(κ:bj)(D:Nat)(es:List (ae×ae))(fm:List MapEntry):Prop:=
 fm.length=es.length∧∀(j:Nat) (p:ae×ae) (e:MapEntry),es[j]? =some p→fm[j]? =some e→dC κ D p.1 e.key∧dC κ D p.2 e.val
theorem mv.mono{κ κ':bj}{D:Nat}{es:List (ae×ae)}{fm:List MapEntry}(h:mv κ D es fm)(k:gV κ κ' D):mv κ' D es fm:=
 ⟨h.1,fun j p e fz he=>⟨(h.2 j p e fz he).1.mono k,(h.2 j p e fz he).2.mono k⟩⟩
def AP(κ:bj)(d i:Nat)(w:World):cU→Prop
 |.cells cs=>(∃C e jG,w.heap[κ.loc d i]? =some (.cells C e jG)∧Y9 jG C.size∧eu κ (d+1) cs (C.toList.take cs.length)∧∀m b cap sz,κ.lC d i m=some (b,cap,sz)→cap*sz≤C.size)∧∀o,κ.F ⟨κ.loc d i,o,none⟩=none
 |.tok n=>∃b cap sz,κ.lC d i n=some (⟨b,0,none⟩,cap,sz)∧n≤cap∧(∃C e jG,w.heap[b]? =some (.cells C e jG)∧C.size=cap*sz∧Y9 jG C.size)∧(∀o,n*sz≤o→κ.F ⟨b,o,none⟩=none)∧∀m,n<m→κ.lC d i m=none
 |.gone=>True
 |.map es=>∃fm clock,w.heap[κ.loc d i]? =some (.map fm clock)∧mv κ (d+1) es fm.toList
def bi(κ:bj)(d i:Nat):cU→Option Nat
 |.cells _|.map _=>some (κ.loc d i)
 |.tok n=>(κ.lC d i n).map (·.1.block)
 |.gone=>none
def ag.ao(s:ag)(d:Nat):Option (List cU):=if d=s.aa then some s.own else if d<s.aa then(s.up++s.ro)[s.aa-1-d]? else none
theorem ag.mw(s:ag)(d i:Nat):s.get (.g d i)=(s.ao d).bind (·[i]?):=by
 unfold ag.get ag.ao;by_cases h:d=s.aa
 ·simp [h]
 ·by_cases e:d<s.aa<;> simp [h,e]
theorem ag.hO(s:ag)(a:Loc):s.get (a.ap s.aa)=s.get a:=by
 cases a with
 |l i=>simp [Loc.ap,ag.get]
 |g d i=>rfl
structure c5 (κ:bj) (s:ag) (w:World):Prop where
 iG:∀a v,κ.F a=some v→a.spot=none∧w.cell? a=some v
 len:∀d l,s.ao d=some l→l.length=κ.n d
 obj:∀d i o,s.get (.g d i)=some o→AP κ d i w o
 inj:∀d i o fQ hF o' b,s.get (.g d i)=some o→s.get (.g fQ hF)=some o'→bi κ d i o=some b→bi κ fQ hF o'=some b→d=fQ∧i=hF
def Live(κ:bj)(s:ag)(b:Nat):Prop:=∃d i o,s.get (.g d i)=some o∧bi κ d i o=some b
structure fx (κ:bj) (s:ag) (w:World) (κ':bj) (s':ag) (w':World):Prop where
 k:gV κ κ' (s.aa+1)
 aa:s'.aa=s.aa
 size:w.heap.size≤w'.heap.size
 os:w'.os=w.os
 tape:w'.tape=w.tape
 output:w'.output=w.output
 kS:∀b,b<w.heap.size→¬Live κ s b→w'.heap[b]? =w.heap[b]?
 live:∀b,b<w.heap.size→Live κ' s' b→Live κ s b
 o4:∀a,κ'.F a≠none→κ.F a≠none∨w.heap.size≤a.block∨Live κ s a.block
theorem fx.refl(κ:bj)(s:ag)(w:World):fx κ s w κ s w:=
 ⟨.refl _ _,rfl,aD _,rfl,rfl,rfl,fun _ _ _=>rfl,fun _ _ h=>h,fun _ h=>.inl h⟩
theorem fx.trans{κ r u:bj}{s y A:ag}{w B F:World}(h:fx κ s w r y B)(k:fx r y B u A F):fx κ s w u A F:=by
 refine⟨h.k.trans (h.aa ▸ k.k),k.aa.trans h.aa,Nat.le_trans h.size k.size,k.os.trans h.os,k.tape.trans h.tape,k.output.trans h.output,fun b e bN=>?_,fun b e bN=>?_,fun a H=>?_⟩
 ·rw[k.kS b (gd e h.size) (fun I=>bN (h.live b e I)),h.kS b e bN]
 ·exact h.live b e (k.live b (gd e h.size) bN)
 ·rcases k.o4 a H with ar|ar|ar
  ·exact h.o4 a ar
  ·exact .inr (.inl (Nat.le_trans h.size ar))
  ·by_cases e:a.block<w.heap.size
   ·exact .inr (.inr (h.live _ e ar))
   ·exact .inr (.inl (by omega))
def xo(κ:bj)(s:ag)(ao:Nat→ae)(a:Act):Prop:=∀t,dC κ (s.aa+1) ((ao t).ap s.aa) (a.tmps.getD t undef)
theorem xo.ext{κ κ':bj}{s s':ag}{w w':World}{ao:Nat→ae}{a:Act}(h:xo κ s ao a)(e:fx κ s w κ' s' w'):xo κ' s' ao a:=by
 intro t
 have:=(h t).mono e.k;rw[e.aa];exact this
theorem f6{a:Addr}(h:a.spot=none)(j:Nat):a.add j=⟨a.block,a.off+j,none⟩:=by
 unfold Addr.add;split
 ·subst_vars;cases a;simp_all
 ·cases a;simp_all
theorem add_add{a:Addr}(i j:Nat):(a.add i).add j=a.add (i+j):=by unfold Addr.add;by_cases bL:i=0<;> by_cases cX:j=0<;> simp_all<;> omega
theorem mx{a:Addr}(h:a.spot=none)(j:Nat):(a.add j).spot=none:=by rw[f6 h]
theorem fR{α:Type}(vs:List α):∀(cs:List α) (o:Nat),(dL cs o vs).length=cs.length:=by
 induction vs with
 |nil=>intro cs o;rfl
 |cons v vs e=>intro cs o;simp [dL,e]
theorem gQ{α:Type}(vs:List α):∀(cs:List α) (o:Nat),o+vs.length≤cs.length→∀j,(dL cs o vs)[j]? =if o≤j∧j<o+vs.length then vs[j-o]? else cs[j]?:=by
 induction vs with
 |nil=>intro cs o _ j;simp [dL];omega
 |cons v vs e=>
  intro cs o h j;simp only[bP] at h;simp only[dL];rw[e (cs.set o v) (o+1) (by simp;omega)];by_cases cX:j=o
  ·subst cX;rw[if_neg (by omega),if_pos (by simp)];simp only[Nat.sub_self,List.getElem?_cons_zero];rw[List.getElem?_set_self (by omega)]
  ·by_cases ar:o+1≤j∧j<o+1+vs.length
   ·rw[if_pos ar,if_pos (by simp;omega)];obtain⟨m,rfl⟩:∃m,j=o+1+m:=⟨j-(o+1),by omega⟩;simp only[show o+1+m-(o+1)=m by omega,show o+1+m-o=m+1 by omega,List.getElem?_cons_succ]
   ·rw[if_neg ar,if_neg (by simp;omega)];rw[lL (by omega)]
theorem my(vs:List Value):∀(w:World) (b o:Nat) (C:Array Value) (e:TypeId) (jG:Nat×Nat),w.heap[b]? =some (.cells C e jG)→o+vs.length≤C.size→
  ∀h,(w.setCells b o vs).heap[h]? =if h=b then some (.cells (dL C.toList o vs).toArray e jG) else w.heap[h]?:=by
 induction vs with
 |nil=>intro w b o C e jG r _ h;simp only[World.setCells,dL];split<;> simp_all
 |cons v vs u=>
  intro w b o C e jG r y h;simp only[bP] at y;have ar:(w.setCell ⟨b,o,none⟩ v).heap[b]? =some (.cells (C.setIfInBounds o v) e jG):=by simp [World.setCell,Array.getElem?_modify,r]
  rw[World.setCells,u _ b (o+1) _ e jG ar (by simp;omega)];split
  ·simp [dL,Array.toList_setIfInBounds]
  ·rename_i eR;simp [World.setCell,Array.getElem?_modify,Ne.symm eR]
theorem mz(vs:List Value):∀(w:World) (b o:Nat),(w.setCells b o vs).heap.size=w.heap.size:=by
 induction vs with
 |nil=>intro w b o;rfl
 |cons v vs e=>intro w b o;simp [World.setCells,e]
theorem mA(vs:List Value):∀(w:World) (b o:Nat),(w.setCells b o vs).os=w.os∧(w.setCells b o vs).tape=w.tape∧(w.setCells b o vs).output=w.output:=by
 induction vs with
 |nil=>intro w b o;exact⟨rfl,rfl,rfl⟩
 |cons v vs e=>intro w b o;simp only[World.setCells];exact e _ b (o+1)
theorem fS{w:World}{b o:Nat}{C:Array Value}{e:TypeId}{jG:Nat×Nat}(h:w.heap[b]? =some (.cells C e jG)):w.cell? ⟨b,o,none⟩=C[o]?:=by simp [World.cell?,h]
theorem gG{w w':World}{a:Addr}(h:w'.heap[a.block]? =w.heap[a.block]?):w'.cell? a=w.cell? a:=by simp [World.cell?,h]
theorem o5{w:World}{a:Addr}{v:Value}(h:w.cell? a=some v):a.block<w.heap.size:=by
 unfold World.cell? at h;split at h
 ·rename_i e;exact(Array.getElem?_eq_some_iff.1 e).1
 ·cases h
theorem eu.get{κ:bj}{D:Nat}{cs:List ae}{xs:List Value}(h:eu κ D cs xs){j:Nat}{c:ae}(aY:cs[j]? =some c):∃x,xs[j]? =some x∧dC κ D c x:=by
 have cX:j<xs.length:=by rw[h.1];exact(ec.1 aY).1
 exact⟨xs[j],ei cX,h.2 j c _ aY (ei cX)⟩
theorem eu.mono{κ κ':bj}{D:Nat}{cs:List ae}{xs:List Value}(h:eu κ D cs xs)(k:gV κ κ' D):eu κ' D cs xs:=
 ⟨h.1,fun j c x aY a5=>(h.2 j c x aY a5).mono k⟩
theorem eu.up{κ:bj}{D e:Nat}{cs:List ae}{xs:List Value}(h:eu κ D cs xs)(k:D≤e):eu κ e cs xs:=
 ⟨h.1,fun j c x aY a5=>(h.2 j c x aY a5).up k⟩
theorem eu.nil(κ:bj)(D:Nat):eu κ D [] []:=⟨rfl,fun j c x aY=>by simp at aY⟩
theorem eu.cons{κ:bj}{D:Nat}{c:ae}{x:Value}{cs:List ae}{xs:List Value}(h:dC κ D c x)(a7:eu κ D cs xs):eu κ D (c::cs) (x::xs):=by
 refine⟨by simp [a7.1],fun j n2 kI aY a5=>?_⟩;cases j with
 |zero=>simp at aY a5;exact aY ▸ a5 ▸ h
 |succ j=>exact a7.2 j n2 kI (by simpa using aY) (by simpa using a5)
theorem eu.append{κ:bj}{D:Nat}{cs h9:List ae}{xs e:List Value}(h:eu κ D cs xs)(k:eu κ D h9 e):eu κ D (cs++h9) (xs++e):=by
 refine⟨by simp [h.1,k.1],fun j c x aY a5=>?_⟩;by_cases cX:j<cs.length
 ·rw[gm cX] at aY;rw[gm (by rw[h.1];exact cX)] at a5;exact h.2 j c x aY a5
 ·rw[i7 (by omega)] at aY;rw[i7 (by rw[h.1];omega),h.1] at a5;exact k.2 _ c x aY a5
theorem eu.us{κ:bj}{D:Nat}{c:ae}{cs:List ae}{xs:List Value}(h:eu κ D (c::cs) xs):∃x e,xs=x::e∧dC κ D c x∧eu κ D cs e:=by
 cases xs with
 |nil=>have:=h.1;simp at this
 |cons x e=>exact⟨x,e,rfl,h.2 0 c x rfl rfl,by simpa using h.1,fun j n2 kI aY a5=>h.2 (j+1) n2 kI (by simpa using aY) (by simpa using a5)⟩
theorem eu.drop{κ:bj}{D:Nat}{cs:List ae}{xs:List Value}(h:eu κ D cs xs)(n:Nat):eu κ D (cs.drop n) (xs.drop n):=
 ⟨by simp [h.1],fun j c x aY a5=>h.2 (n+j) c x (by simpa using aY) (by simpa using a5)⟩
theorem eu.take{κ:bj}{D:Nat}{cs:List ae}{xs:List Value}(h:eu κ D cs xs)(n:Nat):eu κ D (cs.take n) (xs.take n):=by refine⟨by simp [h.1],fun j c x aY a5=>?_⟩;simp only[List.getElem?_take] at aY a5;split at aY<;> simp_all;exact h.2 j c x aY a5
theorem eu.dL{κ:bj}{D:Nat}{cs vs:List ae}{xs e:List Value}(h:eu κ D cs xs)(k:eu κ D vs e){o:Nat}(r:o+vs.length≤cs.length):eu κ D (dL cs o vs) (Ab.dL xs o e):=by
 refine⟨by simp [fR,h.1],fun j c x aY a5=>?_⟩;rw[gQ _ _ _ r] at aY;rw[gQ _ _ _ (by rw[k.1,h.1];exact r),k.1] at a5;split at aY
 ·rw[if_pos (by assumption)] at a5;exact k.2 _ _ _ aY a5
 ·rw[if_neg (by assumption)] at a5;exact h.2 _ _ _ aY a5
theorem eu.bc{κ:bj}{D:Nat}{cs:List ae}{xs:List Value}(h:eu κ D cs xs)(aU:ae.aZ cs=true){κ':bj}(e:Nat)(h7:∀a v,κ.F a=some v→κ'.F a=some v):eu κ' e cs xs:=
 ⟨h.1,fun j c x aY a5=>(h.2 j c x aY a5).bc (iL aU aY) e h7⟩
theorem AP.block{κ:bj}{d i:Nat}{w:World}{o:cU}{b:Nat}(h:AP κ d i w o)(r:bi κ d i o=some b):∃u,w.heap[b]? =some u:=by
 cases o with
 |cells cs=>simp only[bi,bm] at r;subst r;obtain⟨⟨C,e,jG,ar,_⟩,_⟩:=h;exact⟨_,ar⟩
 |tok n=>obtain⟨y,cap,sz,ar,_,⟨C,e,jG,av,_⟩,_⟩:=h;simp only[bi,ar,ej,bm] at r;subst r;exact⟨_,av⟩
 |map es=>simp only[bi,bm] at r;subst r;obtain⟨fm,clock,ar,_⟩:=h;exact⟨_,ar⟩
 |gone=>simp [bi] at r
theorem c5.jV{κ:bj}{s:ag}{w:World}(a7:c5 κ s w){b:Nat}(h:Live κ s b):b<w.heap.size:=by obtain⟨d,i,o,e,r⟩:=h;obtain⟨y,u⟩:=(a7.obj d i o e).block r;exact(Array.getElem?_eq_some_iff.1 u).1
theorem AP.bU{κ κ':bj}{d i:Nat}{w w':World}{o:cU}(h:AP κ d i w o)(bL:i<κ.n d)(cZ:gV κ κ' (d+1))(ed:∀m,κ'.lC d i m=κ.lC d i m)(u:∀b,bi κ d i o=some b→w'.heap[b]? =w.heap[b]?∧∀x,κ'.F ⟨b,x,none⟩=κ.F ⟨b,x,none⟩):
  AP κ' d i w' o∧bi κ' d i o=bi κ d i o:=by
 cases o with
 |cells cs=>obtain⟨⟨C,e,jG,ar,av,bV,y⟩,dD⟩:=h;have bN:=cZ.loc d i (Nat.lt_succ_self d) bL;obtain⟨dH,r⟩:=u _ rfl;refine⟨⟨⟨C,e,jG,by rw[bN,dH,ar],av,bV.mono cZ,fun m b cap sz hm=>y m b cap sz (by rw[←ed];exact hm)⟩,fun o=>by rw[bN,r,dD]⟩,by simp [bi,bN]⟩
 |tok n=>obtain⟨b,cap,sz,ar,eS,⟨C,e,jG,av,bV,dD⟩,y,A⟩:=h;have bN:=cZ.lC d i n _ (Nat.lt_succ_self d) bL ar;obtain⟨dH,r⟩:=u b (by simp [bi,ar]);exact⟨⟨b,cap,sz,bN,eS,⟨C,e,jG,by rw[dH,av],bV,dD⟩,fun o B=>by rw[r,y o B],fun m hm=>by rw[ed,A m hm]⟩,by simp [bi,ar,bN]⟩
 |map es=>obtain⟨fm,clock,ar,av⟩:=h;have bN:=cZ.loc d i (Nat.lt_succ_self d) bL;obtain⟨dH,r⟩:=u _ rfl;exact⟨⟨fm,clock,by rw[bN,dH,ar],av.mono cZ⟩,by simp [bi,bN]⟩
 |gone=>exact⟨trivial,rfl⟩
theorem c5.nH{κ:bj}{s:ag}{w:World}(a7:c5 κ s w){d i:Nat}{o:cU}(h:s.get (.g d i)=some o):i<κ.n d:=by
 rw[ag.mw] at h;cases bN:s.ao d with
 |none=>simp [bN] at h
 |some l=>rw[bN] at h;rw[←a7.len d l bN];exact(ec.1 h).1
theorem ag.gy{s:ag}{d i:Nat}{o:cU}(h:s.get (.g d i)=some o):d≤s.aa:=by
 rcases Nat.lt_trichotomy d s.aa with ar|ar|ar
 ·omega
 ·omega
 ·have av:d≠s.aa:=by omega
  have bV:¬d<s.aa:=by omega
  simp [ag.get,av,bV] at h
theorem c5.Hu{κ:bj}{s:ag}{w:World}(a7:c5 κ s w){d i:Nat}{o:cU}(h:s.get (.g d i)=some o):d<s.aa+1∧i<κ.n d:=⟨by have:=ag.gy h;omega,a7.nH h⟩
theorem c5.world{κ κ':bj}{s:ag}{w w':World}(a7:c5 κ s w)(cZ:gV κ κ' (s.aa+1))(dm:κ'.n=κ.n)(ed:κ'.lC=κ.lC)(h7:∀a v,κ'.F a=some v→a.spot=none∧w'.cell? a=some v)
  (u:∀b,Live κ s b→w'.heap[b]? =w.heap[b]?∧∀x,κ'.F ⟨b,x,none⟩=κ.F ⟨b,x,none⟩):c5 κ' s w':=by
 have key:∀d i o,s.get (.g d i)=some o→AP κ' d i w' o∧bi κ' d i o=bi κ d i o:=fun d i o h=>(a7.obj d i o h).bU (a7.nH h) (cZ.low (by have:=ag.gy h;omega)) (fun m=>by rw[ed]) (fun b y=>u b ⟨d,i,o,h,y⟩)
 refine⟨h7,fun d l h=>by rw[dm];exact a7.len d l h,fun d i o h=>(key d i o h).1,fun d i o fQ hF o' b h r e hX=>?_⟩;rw[(key d i o h).2] at e;rw[(key fQ hF o' r).2] at hX;exact a7.inj d i o fQ hF o' b h r e hX
def bj.freeze(κ:bj)(b gg:Nat)(C:Array Value):bj:=
 {κ with F:=fun a=>if a.block=b∧a.spot=none∧gg≤a.off∧a.off<C.size then C[a.off]? else κ.F a}
theorem n9{κ:bj}{b gg j:Nat}{C:Array Value}(h:gg≤j)(cX:j<C.size):(κ.freeze b gg C).F ⟨b,j,none⟩=some C[j]:=by simp [bj.freeze,h,cX]
theorem gV.freeze{κ:bj}{b gg:Nat}{C:Array Value}(e:∀j,gg≤j→κ.F ⟨b,j,none⟩=none)(D:Nat):gV κ (κ.freeze b gg C) D:=by
 refine⟨fun a v h=>?_,fun _ _=>aD _,fun _ _ _ _=>rfl,fun _ _ _ _ _ _ h=>h⟩;simp only[bj.freeze];split
 ·rename_i aY;have ar:=e a.off aY.2.2.1
  have:a=⟨b,a.off,none⟩:=by cases a;simp_all
  rw[this,ar] at h;cases h
 ·exact h
theorem c5.qA{κ:bj}{s:ag}{w:World}(a7:c5 κ s w){a:Addr}(h:w.heap.size≤a.block):κ.F a=none:=by
 cases e:κ.F a with
 |none=>rfl
 |some v=>have:=o5 (a7.iG a v e).2;omega
theorem c5.q4{κ:bj}{s:ag}{w w':World}(a7:c5 κ s w)(C:Array Value)(e:TypeId)(jG:Nat×Nat)(hw:w'.heap=w.heap.push (.cells C e jG))(u:w'.os=w.os)(ed:w'.tape=w.tape)(hu:w'.output=w.output):
  c5 (κ.freeze w.heap.size 0 C) s w'∧fx κ s w (κ.freeze w.heap.size 0 C) s w':=by
 have hold:∀b,b<w.heap.size→w'.heap[b]? =w.heap[b]?:=fun b r=>by rw[hw,Array.getElem?_push];simp [Nat.ne_of_lt r]
 have y:w'.heap[w.heap.size]? =some (.cells C e jG):=by rw[hw];simp
 have cZ:∀D,gV κ (κ.freeze w.heap.size 0 C) D:=fun D=>gV.freeze (fun j _=>a7.qA (aD _)) D
 refine⟨a7.world (cZ _) rfl rfl (fun a v h=>?_) (fun b r=>⟨hold b (a7.jV r),fun x=>?_⟩),⟨cZ _,rfl,by rw[hw];simp,u,ed,hu,fun b r _=>hold b r,fun b _ h=>h,fun a h=>?_⟩⟩
 ·simp only[bj.freeze] at h;split at h
  ·rename_i aY;refine⟨aY.2.1,?_⟩;have A:a=⟨w.heap.size,a.off,none⟩:=by cases a;simp_all
   rw[A,fS y];exact h
  ·obtain⟨ar,av⟩:=a7.iG a v h;exact⟨ar,by rw[gG (hold _ (o5 av))];exact av⟩
 ·have:=a7.jV r;simp [bj.freeze,Nat.ne_of_lt this]
 ·simp only[bj.freeze] at h;split at h
  ·rename_i aY;exact .inr (.inl (by omega))
  ·exact .inl h
theorem c5.same{κ:bj}{s:ag}{w w':World}(a7:c5 κ s w)(hw:w'.heap=w.heap)(e:w'.os=w.os)(ed:w'.tape=w.tape)(hu:w'.output=w.output):c5 κ s w'∧fx κ s w κ s w':=by refine⟨a7.world (.refl _ _) rfl rfl (fun a v h=>?_) (fun b _=>⟨by rw[hw],fun _=>rfl⟩),⟨.refl _ _,rfl,by rw[hw];exact aD _,e,ed,hu,fun b _ _=>by rw[hw],fun _ _ h=>h,fun _ h=>.inl h⟩⟩;obtain⟨ar,av⟩:=a7.iG a v h;exact⟨ar,by rw[gG (w:=w) (by rw[hw])];exact av⟩
theorem ag.Eo(s:ag)(o:cU):(s.new o).aa=s.aa:=rfl
theorem ag.Sm(s:ag)(o:cU)(d:Nat):(s.new o).ao d=if d=s.aa then some (s.own++[o]) else s.ao d:=by
 unfold ag.ao;simp only[ag.Eo];by_cases cP:d=s.aa
 ·simp [cP,ag.new]
 ·simp only[cP,↓reduceIte];rfl
structure iu (s s':ag) (d i:Nat) (o:cU):Prop where
 aa:s'.aa=s.aa
 le:d≤s.aa
 ao:∀fQ,s'.ao fQ=if fQ=d then(s.ao fQ).map (· ++ [o]) else s.ao fQ
 here:∃l,s.ao d=some l∧l.length=i
theorem iu.new(s:ag)(o:cU):iu s (s.new o) s.aa s.own.length o:=by
 refine⟨rfl,aD _,fun fQ=>?_,s.own,by simp [ag.ao],rfl⟩;rw[ag.Sm];split
 ·rename_i h;subst h;simp [ag.ao]
 ·rfl
theorem iu.get{s s':ag}{d i:Nat}{o:cU}(h:iu s s' d i o)(fQ hF:Nat):s'.get (.g fQ hF)=if fQ=d∧hF=i then some o else s.get (.g fQ hF):=by
 rw[ag.mw,ag.mw,h.ao];obtain⟨l,ar,av⟩:=h.here;by_cases cP:fQ=d
 ·subst cP;simp only[↓reduceIte,ar,ej,fF,true_and];by_cases bL:hF=i
  ·subst bL;simp [av]
  ·rw[if_neg bL];by_cases e:hF<l.length
   ·rw[gm e]
   ·rw[List.getElem?_eq_none (by simp;omega),List.getElem?_eq_none (by omega)]
 ·simp [cP]
theorem iu.by{s s':ag}{a l:Loc}{o:cU}(h:s.hn a o=some (l,s')):∃d i,l.ap s.aa=.g d i∧iu s s' d i o:=by
 cases a with
 |l j=>simp only[ag.hn,bm,e0] at h;obtain⟨rfl,rfl⟩:=h;exact⟨_,_,rfl,iu.new s o⟩
 |g d j=>
  simp only[ag.hn] at h;split at h
  ·simp only[bm,e0] at h;obtain⟨rfl,rfl⟩:=h;exact⟨_,_,rfl,iu.new s o⟩
  ·rename_i eR;split at h
   ·rename_i aY;cases bN:s.up[s.aa-1-d]? with
    |none=>rw[bN] at h;cases h
    |some sJ=>
     rw[bN] at h;simp only[bm,e0] at h;obtain⟨rfl,rfl⟩:=h;have hlen:s.aa=s.up.length+s.ro.length:=rfl;have r:s.aa-1-d<s.up.length:=by omega
     have A:s.ao d=some sJ:=by simp only[ag.ao,eR,↓reduceIte,aY.1];rw[gm r,bN]
     have y:({s with up:=s.up.modify (s.aa-1-d) (· ++ [o])}:ag).aa=s.aa:=by simp [ag.aa]
     refine⟨d,sJ.length,rfl,y,by omega,fun fQ=>?_,sJ,A,rfl⟩;unfold ag.ao;rw[y];by_cases ar:fQ=s.aa
     ·have:¬s.aa=d:=fun e=>eR e.symm
      simp [ar,this]
     ·by_cases bV:fQ<s.aa
      ·simp only[ar,↓reduceIte,bV];by_cases dD:fQ=d
       ·subst dD;simp only[↓reduceIte];rw[gm (by simpa using r),gm r,List.getElem?_modify];simp
       ·simp only[dD,↓reduceIte];by_cases u:s.aa-1-fQ<s.up.length
        ·rw[gm (by simpa using u),gm u,List.getElem?_modify];have fE:¬s.aa-1-d=s.aa-1-fQ:=by omega
         simp [fE]
        ·rw[i7 (by simpa using u),i7 (by omega)];simp
      ·have:¬fQ=d:=by omega
       simp [ar,bV,this]
   ·cases h
theorem c5.newObj{κ κ':bj}{s:ag}{w w':World}(a7:c5 κ s w)(o:cU)(cZ:gV κ κ' (s.aa+1)){s':ag}{B K:Nat}(y:iu s s' B K o)(dm:∀d,κ'.n d=if d=B then κ.n d+1 else κ.n d)(U:∀d i m,i<κ.n d→κ'.lC d i m=κ.lC d i m)
  (h7:κ'.F=κ.F∨∃gg C,(κ'.F=(κ.freeze w.heap.size gg C).F)∧∃M e jG,w'.heap[w.heap.size]? =some (.cells M e jG)∧∀(j:Nat) (x:Value),C[j]? =some x→M[j]? =some x)(hold:∀b,b<w.heap.size→w'.heap[b]? =w.heap[b]?)(e3:w.heap.size≤w'.heap.size)(V:w'.os=w.os)(ed:w'.tape=w.tape)(hu:w'.output=w.output)
  (Y:AP κ' B K w' o)(u:∀b,bi κ' B K o=some b→w.heap.size≤b):c5 κ' s' w'∧fx κ s w κ' s' w':=by
 have Z:∀b x,b<w.heap.size→κ'.F ⟨b,x,none⟩=κ.F ⟨b,x,none⟩:=by
  intro b x u;rcases h7 with h7|⟨gg,C,h7,_⟩
  ·rw[h7]
  ·rw[h7];simp [bj.freeze,Nat.ne_of_lt u]
 have key:∀d i o,s.get (.g d i)=some o→AP κ' d i w' o∧bi κ' d i o=bi κ d i o:=fun d i o h=>(a7.obj d i o h).bU (a7.nH h) (cZ.low (by have:=ag.gy h;omega)) (fun m=>U d i m (a7.nH h)) (fun b O=>by have H:=a7.jV ⟨d,i,o,h,O⟩;exact⟨hold b H,fun x=>Z b x H⟩)
 refine⟨⟨fun a v h=>?_,fun d l h=>?_,fun d i o' h=>?_,fun d i I fQ hF J b h r e hX=>?_⟩,⟨cZ,y.aa,e3,V,ed,hu,fun b u _=>hold b u,fun b O bN=>?_,fun a A=>?_⟩⟩
 ·rcases h7 with h7|⟨gg,C,h7,M,e,jG,hY,ab⟩
  ·rw[h7] at h;obtain⟨ar,av⟩:=a7.iG a v h;exact⟨ar,by rw[gG (hold _ (o5 av))];exact av⟩
  ·rw[h7] at h;simp only[bj.freeze] at h;split at h
   ·rename_i aY;refine⟨aY.2.1,?_⟩;have A:a=⟨w.heap.size,a.off,none⟩:=by cases a;simp_all
    rw[A,fS hY];exact ab _ _ h
   ·obtain⟨ar,av⟩:=a7.iG a v h;exact⟨ar,by rw[gG (hold _ (o5 av))];exact av⟩
 ·rw[y.ao] at h;rw[dm];split at h
  ·rename_i cP;cases br:s.ao d with
   |none=>rw[br] at h;cases h
   |some l'=>rw[br] at h;simp only[ej,bm] at h;rw[←h,if_pos cP,←a7.len d l' br];simp
  ·rename_i cP;rw[if_neg cP];exact a7.len d l h
 ·rw[y.get] at h;split at h
  ·rename_i aY;obtain⟨rfl,rfl⟩:=aY;simp only[bm] at h;exact h ▸ Y
  ·exact(key d i o' h).1
 ·rw[y.get] at h r;split at h
  ·rename_i aY;obtain⟨rfl,rfl⟩:=aY;simp only[bm] at h;subst h;split at r
   ·rename_i kT;exact⟨kT.1.symm,kT.2.symm⟩
   ·rw[(key fQ hF J r).2] at hX
    have:=a7.jV ⟨fQ,hF,J,r,hX⟩
    have:=u b e;omega
  ·split at r
   ·rename_i kT;obtain⟨rfl,rfl⟩:=kT;simp only[bm] at r;subst r;rw[(key d i I h).2] at e
    have:=a7.jV ⟨d,i,I,h,e⟩
    have:=u b hX;omega
   ·rw[(key d i I h).2] at e;rw[(key fQ hF J r).2] at hX;exact a7.inj d i I fQ hF J b h r e hX
 ·obtain⟨d,i,o',cb,N⟩:=bN;rw[y.get] at cb;split at cb
  ·rename_i aY;obtain⟨rfl,rfl⟩:=aY;simp only[bm] at cb;subst cb
   have:=u b N;omega
  ·rw[(key d i o' cb).2] at N;exact⟨d,i,o',cb,N⟩
 ·by_cases H:a.block<w.heap.size
  ·left
   rcases h7 with h7|⟨gg,C,h7,_⟩
   ·rwa [h7] at A
   ·rw[h7] at A;simpa [bj.freeze,Nat.ne_of_lt H] using A
  ·exact .inr (.inl (by omega))
theorem c5.o6{κ:bj}{s:ag}{w w':World}(a7:c5 κ s w)(cs:List ae)(C:Array Value)(e:TypeId)(aY:eu κ (s.aa+1) cs C.toList)(hw:w'.heap=w.heap.push (.cells C e (0,0)))(u:w'.os=w.os)(ed:w'.tape=w.tape)(hu:w'.output=w.output):
  ∃κ',c5 κ' (s.new (.cells cs)) w'∧fx κ s w κ' (s.new (.cells cs)) w'∧κ'.loc s.aa s.own.length=w.heap.size∧s.own.length<κ'.n s.aa:=by
 have y:s.own.length=κ.n s.aa:=a7.len s.aa s.own (by simp [ag.ao])
 let κ':bj:={κ with n:=fun d=>if d=s.aa then κ.n d+1 else κ.n d,loc:=fun d i=>if d=s.aa∧i=s.own.length then w.heap.size else κ.loc d i,lC:=fun d i m=>if d=s.aa∧i=s.own.length then none else κ.lC d i m}
 have eR:∀d i,i<κ.n d→¬(d=s.aa∧i=s.own.length):=by
  rintro d i bL ⟨rfl,rfl⟩
  omega
 have cZ:gV κ κ' (s.aa+1):=by
  refine⟨fun _ _ h=>h,fun d _=>?_,fun d i _ bL=>?_,fun d i n x _ bL h=>?_⟩
  ·simp only[κ'];split<;> omega
  ·simp only[κ'];rw[if_neg (eR d i bL)]
  ·simp only[κ'];rw[if_neg (eR d i bL)];exact h
 have A:w'.heap[w.heap.size]? =some (.cells C e (0,0)):=by rw[hw];simp
 refine⟨κ',?_⟩
 have:=a7.newObj (κ':=κ') (w':=w') (.cells cs) cZ (iu.new s _) (fun d=>rfl) (fun d i m bL=>if_neg (eR d i bL)) (.inl rfl) (fun b r=>by rw[hw,Array.getElem?_push];simp [Nat.ne_of_lt r]) (by rw[hw];simp) u ed hu
  ⟨⟨C,e,(0,0),by simp [κ',A],fun j _=>by simp,by rw[show C.toList.take cs.length=C.toList from i6 (by rw[aY.1];exact aD _)];exact aY.mono cZ,fun m b cap sz h=>by simp [κ'] at h⟩,fun o=>a7.qA (by simp [κ'])⟩ (fun b r=>by simp [bi,κ'] at r;omega)
 exact⟨this.1,this.2,by simp [κ'],by simp [κ',y]⟩
theorem ag.ln(s:ag)(a:Loc)(o:cU):s.set (a.ap s.aa) o=s.set a o:=by
 cases a with
 |l i=>simp [Loc.ap,ag.set]
 |g d i=>rfl
theorem tg(l:List (List cU))(n i:Nat)(o:cU)(m:Nat):(l.modify n (·.set i o))[m]? =if m=n then(l[m]?).map (·.set i o) else l[m]?:=by
 rw[List.getElem?_modify];by_cases h:m=n
 ·simp [h]
 ·simp [h,Ne.symm h]
theorem ag.uZ{s s':ag}{d i:Nat}{o:cU}(h:s.set (.g d i) o=some s'):s'.aa=s.aa∧∀fQ,s'.ao fQ=if fQ=d then(s.ao fQ).map (·.set i o) else s.ao fQ:=by
 by_cases cP:d=s.aa
 ·simp only[ag.set,cP,↓reduceIte,bm] at h;subst h;refine⟨rfl,fun fQ=>?_⟩;by_cases ar:fQ=s.aa
  ·simp [ag.ao,ag.aa,ar,cP]
  ·have A:¬fQ=s.up.length+s.ro.length:=ar;simp only[ag.ao,ag.aa,A,cP,↓reduceIte];rfl
 ·by_cases av:d<s.aa∧s.ro.length≤d
  ·simp only[ag.set,cP,↓reduceIte,av,and_self,bm] at h;subst h;have u:({s with up:=s.up.modify (s.aa-1-d) (·.set i o)}:ag).aa=s.aa:=by simp [ag.aa]
   refine⟨u,fun fQ=>?_⟩;unfold ag.ao;rw[u];by_cases ar:fQ=s.aa
   ·have:¬s.aa=d:=fun e=>cP e.symm
    simp [ar,this]
   ·by_cases bV:fQ<s.aa
    ·have hlen:s.aa=s.up.length+s.ro.length:=rfl;have y:s.aa-1-d<s.up.length:=by omega
     simp only[ar,↓reduceIte,bV];by_cases dD:fQ=d
     ·subst dD;simp only[↓reduceIte];rw[gm (by simpa using y),gm y,tg];simp
     ·simp only[dD,↓reduceIte];by_cases r:s.aa-1-fQ<s.up.length
      ·rw[gm (by simpa using r),gm r,tg,if_neg (by omega)]
      ·rw[i7 (by simpa using r),i7 (by omega)];simp
    ·by_cases dD:fQ=d
     ·exact absurd (dD ▸ av.1) bV
     ·simp [ar,bV,dD]
  ·have bV:¬(d<s.aa∧s.ro.length≤d):=av;simp [ag.set,cP,bV] at h
theorem ag.u0{s s':ag}{d i:Nat}{o u:cU}(h:s.set (.g d i) o=some s')(cb:s.get (.g d i)=some u)(fQ hF:Nat):s'.get (.g fQ hF)=if fQ=d∧hF=i then some o else s.get (.g fQ hF):=by
 rw[ag.mw,(ag.uZ h).2 fQ,ag.mw];by_cases cP:fQ=d
 ·subst cP;rw[ag.mw] at cb;cases br:s.ao fQ with
  |none=>simp [br] at cb
  |some l=>
   rw[br] at cb;simp only[fF] at cb;have bL:i<l.length:=(ec.1 cb).1;simp only[↓reduceIte,ej,fF,true_and];by_cases r:hF=i
   ·subst r;simp [bL]
   ·rw[if_neg r,lL (fun e=>r e.symm)]
 ·simp [cP]
theorem c5.setObj{κ κ':bj}{s s':ag}{w w':World}(a7:c5 κ s w){d i:Nat}{o o':cU}(cb:s.get (.g d i)=some o)(U:s.set (.g d i) o'=some s')(cZ:gV κ κ' (s.aa+1))(dm:κ'.n=κ.n)
  (ab:∀fQ hF m,¬(fQ=d∧hF=i)→κ'.lC fQ hF m=κ.lC fQ hF m)(h7:∀a v,κ'.F a=some v→a.spot=none∧w'.cell? a=some v)
  (hold:∀b,b<w.heap.size→bi κ d i o≠some b→w'.heap[b]? =w.heap[b]?∧∀x,κ'.F ⟨b,x,none⟩=κ.F ⟨b,x,none⟩)
  (e3:w.heap.size≤w'.heap.size)(ac:w'.os=w.os)(ed:w'.tape=w.tape)(hu:w'.output=w.output)
  (ad:AP κ' d i w' o')(B:∀b,bi κ' d i o'=some b→bi κ d i o=some b∨w.heap.size≤b):c5 κ' s' w'∧fx κ s w κ' s' w':=by
 have K:=ag.u0 U cb;obtain⟨ae,b2⟩:=ag.uZ U;have key:∀r u y,¬(r=d∧u=i)→s.get (.g r u)=some y→AP κ' r u w' y∧bi κ' r u y=bi κ r u y:=fun r u y eR h=>(a7.obj r u y h).bU (a7.nH h) (cZ.low (by have:=ag.gy h;omega)) (fun m=>ab r u m eR) (fun b M=>by have N:=a7.jV ⟨r,u,y,h,M⟩;exact hold b N (fun e=>eR (a7.inj r u y d i o b h cb M e)))
 refine⟨⟨h7,fun r l h=>?_,fun r u y h=>?_,fun r u y H I J b h A e hX=>?_⟩,⟨cZ,ae,e3,ac,ed,hu,fun b B bN=>(hold b B (fun e=>bN ⟨d,i,o,cb,e⟩)).1,fun b M bN=>?_,fun a V=>?_⟩⟩
 ·rw[b2] at h;rw[dm];split at h
  ·cases br:s.ao r with
   |none=>simp [br] at h
   |some l'=>rw[br] at h;simp only[ej,bm] at h;rw[←h];simpa using a7.len r l' br
  ·exact a7.len r l h
 ·rw[K] at h;split at h
  ·rename_i aY;obtain⟨rfl,rfl⟩:=aY;simp only[bm] at h;exact h ▸ ad
  ·rename_i aY;exact(key r u y aY h).1
 ·rw[K] at h A;split at h
  ·rename_i aY;obtain⟨rfl,rfl⟩:=aY;simp only[bm] at h;subst h;split at A
   ·rename_i kT;exact⟨kT.1.symm,kT.2.symm⟩
   ·rename_i kT;rw[(key H I J kT A).2] at hX;rcases B b e with ar|ar
    ·obtain⟨av,bV⟩:=a7.inj H I J _ _ o b A cb hX ar;exact absurd ⟨av,bV⟩ kT
    ·have:=a7.jV ⟨H,I,J,A,hX⟩;omega
  ·rename_i aY;rw[(key r u y aY h).2] at e;split at A
   ·rename_i kT;obtain⟨rfl,rfl⟩:=kT;simp only[bm] at A;subst A;rcases B b hX with ar|ar
    ·obtain⟨av,bV⟩:=a7.inj r u y _ _ o b h cb e ar;exact absurd ⟨av,bV⟩ aY
    ·have:=a7.jV ⟨r,u,y,h,e⟩;omega
   ·rename_i kT;rw[(key H I J kT A).2] at hX;exact a7.inj r u y H I J b h A e hX
 ·obtain⟨r,u,y,h,O⟩:=bN;rw[K] at h;split at h
  ·rename_i aY;obtain⟨rfl,rfl⟩:=aY;simp only[bm] at h;subst h;rcases B b O with ar|ar
   ·exact⟨_,_,o,cb,ar⟩
   ·omega
  ·rename_i aY;rw[(key r u y aY h).2] at O;exact⟨r,u,y,h,O⟩
 ·by_cases N:a.block<w.heap.size
  ·by_cases Y:bi κ d i o=some a.block
   ·exact .inr (.inr ⟨d,i,o,cb,Y⟩)
   ·left
    cases a5:κ'.F a with
    |none=>exact absurd a5 V
    |some v=>
     have af:=(h7 a v a5).1;have ar:=(hold a.block N Y).2 a.off;have Z:a=⟨a.block,a.off,none⟩:=by cases a;simp_all
     rw[Z,←ar,←Z];exact V
  ·exact .inr (.inl (by omega))
theorem q5{α:Type}:∀(l:List α) (off:Nat) (xs:List α) (n:Nat),off+xs.length≤n→(dL l off xs).take n=dL (l.take n) off xs
 |l,off,[],n,_=>rfl
 |l,off,x::xs,n,h=>by simp only[dL];rw[q5 _ _ xs n (by simp at h;omega)];congr 1;rw[List.take_set]
theorem c5.store{κ:bj}{s s':ag}{w:World}(a7:c5 κ s w){d i off:Nat}{cs vs:List ae}{xs:List Value}(cb:s.get (.g d i)=some (.cells cs))(y:s.set (.g d i) (.cells (dL cs off vs))=some s')
  (bM:eu κ (d+1) vs xs)(A:off+vs.length≤cs.length):c5 κ s' (w.setCells (κ.loc d i) off xs)∧fx κ s w κ s' (w.setCells (κ.loc d i) off xs):=by
 obtain⟨⟨C,e,jG,ar,av,bV,B⟩,dD⟩:=a7.obj d i _ cb;have J:xs.length=vs.length:=bM.1;have K:cs.length≤C.size:=by have:=bV.1;simp at this;omega
 have r:=my xs w (κ.loc d i) off C e jG ar (by omega);obtain⟨pY,q6,Ep⟩:=mA xs w (κ.loc d i) off;refine a7.setObj cb y (.refl _ _) rfl (fun _ _ _ _=>rfl) (fun a v h=>?_) (fun b _ u=>⟨?_,fun _=>rfl⟩) (by rw[mz];exact aD _) pY q6 Ep ⟨⟨(dL C.toList off xs).toArray,e,jG,by rw[r];simp,by simpa [fR] using av,by simpa [fR,q5 C.toList off xs cs.length (by omega)] using bV.dL bM A,fun m b cap sz hm=>by simpa [fR] using B m b cap sz hm⟩,dD⟩ (fun b u=>.inl u)
 ·obtain⟨F,H⟩:=a7.iG a v h;refine⟨F,?_⟩;rw[gG (w:=w) ?_]
  ·exact H
  ·rw[r,if_neg];intro dH;have I:a=⟨κ.loc d i,a.off,none⟩:=by cases a;simp_all
   rw[I,dD] at h;cases h
 ·rw[r,if_neg (fun dH=>u (by simp [bi,dH]))]
theorem c5.u1{κ:bj}{s s':ag}{w:World}(a7:c5 κ s w){d i:Nat}{cs:List ae}(cb:s.get (.g d i)=some (.cells cs))(u:s.set (.g d i) .gone=some s'):
  ∃C e jG,w.heap[κ.loc d i]? =some (.cells C e jG)∧eu κ (d+1) cs (C.toList.take cs.length)∧c5 (κ.freeze (κ.loc d i) 0 C) s' w∧fx κ s w (κ.freeze (κ.loc d i) 0 C) s' w:=by
 obtain⟨⟨C,e,jG,ar,av,bV,_⟩,dD⟩:=a7.obj d i _ cb;refine⟨C,e,jG,ar,bV,?_⟩;refine a7.setObj cb u (gV.freeze (fun j _=>dD j) _) rfl (fun _ _ _ _=>rfl) (fun a v h=>?_) (fun b _ r=>⟨rfl,fun x=>?_⟩) (aD _) rfl rfl rfl trivial (fun b r=>by simp [bi] at r)
 ·simp only[bj.freeze] at h;split at h
  ·rename_i aY;refine⟨aY.2.1,?_⟩;have y:a=⟨κ.loc d i,a.off,none⟩:=by cases a;simp_all
   rw[y,fS ar];exact h
  ·exact a7.iG a v h
 ·simp only[bi,ne_eq,bm] at r;simp [bj.freeze,Ne.symm r]
theorem c5.Sn{κ:bj}{s s':ag}{w w':World}(a7:c5 κ s w){r u:Nat}(A:iu s s' r u (.map []))(hw:w'.heap=w.heap.push (.map #[] 0))(B:w'.os=w.os)(ed:w'.tape=w.tape)(hu:w'.output=w.output):
  ∃κ',c5 κ' s' w'∧fx κ s w κ' s' w'∧κ'.loc r u=w.heap.size∧u<κ'.n r:=by
 have F:u=κ.n r:=by obtain⟨l,ar,av⟩:=A.here;rw[←av];exact a7.len r l ar
 let κ':bj:={κ with n:=fun d=>if d=r then κ.n d+1 else κ.n d,loc:=fun d i=>if d=r∧i=u then w.heap.size else κ.loc d i}
 have cZ:gV κ κ' (s.aa+1):=by
  refine⟨fun _ _ h=>h,fun d _=>?_,fun d i _ bL=>?_,fun _ _ _ _ _ _ h=>h⟩
  ·simp only[κ'];split<;> omega
  ·simp only[κ'];rw[if_neg]
   rintro ⟨rfl,rfl⟩
   omega
 have H:w'.heap[w.heap.size]? =some (.map #[] 0):=by rw[hw];simp
 refine⟨κ',?_⟩
 have:=a7.newObj (κ':=κ') (w':=w') (.map []) cZ A (fun d=>rfl) (fun _ _ _ _=>rfl) (.inl rfl) (fun b y=>by rw[hw,Array.getElem?_push];simp [Nat.ne_of_lt y]) (by rw[hw];simp) B ed hu
  ⟨#[],0,by simp [κ',H],rfl,fun j p e fz=>by simp at fz⟩ (fun b y=>by simp [bi,κ'] at y;omega)
 exact⟨this.1,this.2,by simp [κ'],by simp [κ',F]⟩
theorem c5.Hv{κ:bj}{s s':ag}{w:World}(a7:c5 κ s w){d i:Nat}{es A:List (ae×ae)}{fm:Array MapEntry}{clock:Nat}(cb:s.get (.g d i)=some (.map es))(B:s.set (.g d i) (.map A)=some s')(hm:mv κ (d+1) A fm.toList):
  c5 κ s' {w with heap:=w.heap.setIfInBounds (κ.loc d i) (.map fm clock)}∧fx κ s w κ s' {w with heap:=w.heap.setIfInBounds (κ.loc d i) (.map fm clock)}:=by
 obtain⟨I,J,ar,av⟩:=a7.obj d i _ cb;have F:κ.loc d i<w.heap.size:=(Array.getElem?_eq_some_iff.1 ar).1;have u:∀b,(w.heap.setIfInBounds (κ.loc d i) (.map fm clock))[b]? =if b=κ.loc d i then some (.map fm clock) else w.heap[b]?:=by
  intro b;rw[Array.getElem?_setIfInBounds];by_cases r:κ.loc d i=b
  ·subst r;simp [F]
  ·have:¬b=κ.loc d i:=fun e=>r e.symm
   simp [r,this]
 refine a7.setObj (w':={w with heap:=w.heap.setIfInBounds (κ.loc d i) (.map fm clock)}) cb B (.refl _ _) rfl (fun _ _ _ _=>rfl) (fun a v h=>?_) (fun b _ r=>⟨?_,fun _=>rfl⟩) (by simp) rfl rfl rfl ⟨fm,clock,by simp [u],hm⟩ (fun b r=>.inl r)
 ·obtain⟨H,y⟩:=a7.iG a v h;refine⟨H,?_⟩;rw[gG (w:=w) ?_]
  ·exact y
  ·show(w.heap.setIfInBounds _ _)[_]? =_;rw[u,if_neg];intro dH
   have:w.cell? a=none:=by simp [World.cell?,dH,ar]
   rw[this] at y;cases y
 ·show(w.heap.setIfInBounds _ _)[_]? =_;rw[u,if_neg (fun dH=>r (by simp [bi,dH]))]
theorem c5.Hw{κ:bj}{s:ag}{w w':World}(a7:c5 κ s w){s':ag}{r u:Nat}(C:Array Value)(e:TypeId)(n sz cap:Nat)(A:iu s s' r u (.tok n))(hY:C.size=cap*sz)(dm:n≤cap)(hw:w'.heap=w.heap.push (.cells C e (0,0)))(I:w'.os=w.os)(ed:w'.tape=w.tape)(hu:w'.output=w.output):
  ∃κ',c5 κ' s' w'∧fx κ s w κ' s' w'∧u<κ'.n r∧κ'.lC r u n=some (⟨w.heap.size,0,none⟩,cap,sz)∧∀j,j<n*sz→κ'.F ⟨w.heap.size,j,none⟩=C[j]?:=by
 have J:u=κ.n r:=by obtain⟨l,ar,av⟩:=A.here;rw[←av];exact a7.len r l ar
 have hle:n*sz≤C.size:=by rw[hY];exact fZ _ dm
 have B:((C.toList.take (n*sz)).toArray).size=n*sz:=by simp;omega
 let κ':bj:={(κ.freeze w.heap.size 0 (C.toList.take (n*sz)).toArray) with n:=fun d=>if d=r then κ.n d+1 else κ.n d,lC:=fun d i m=>if d=r∧i=u then(if m=n then some (⟨w.heap.size,0,none⟩,cap,sz) else none) else κ.lC d i m}
 have cZ:gV κ κ' (s.aa+1):=by
  refine⟨fun a v h=>?_,fun d _=>?_,fun _ _ _ _=>rfl,fun d i m x _ bL h=>?_⟩
  ·exact(gV.freeze (fun j _=>a7.qA (aD _)) (s.aa+1)).F a v h
  ·simp only[κ'];split<;> omega
  ·simp only[κ'];rw[if_neg]
   ·exact h
   ·rintro ⟨rfl,rfl⟩;omega
 have H:w'.heap[w.heap.size]? =some (.cells C e (0,0)):=by rw[hw];simp
 have K:∀j,j<n*sz→κ'.F ⟨w.heap.size,j,none⟩=C[j]?:=by intro j cX;simp only[κ',bj.freeze];rw[if_pos (⟨trivial,trivial,Nat.zero_le _,by rw[B];exact cX⟩:True∧True∧0≤j∧j<((C.toList.take (n*sz)).toArray).size)];simp [cX]
 have hold:∀b,b<w.heap.size→w'.heap[b]? =w.heap[b]?:=fun b y=>by rw[hw,Array.getElem?_push];simp [Nat.ne_of_lt y]
 refine⟨κ',?_⟩;have main:=a7.newObj (κ':=κ') (w':=w') (.tok n) cZ A (fun d=>rfl) (fun d i m bL=>?_) ?h7 hold (by rw[hw];simp) I ed hu
  ⟨w.heap.size,cap,sz,by simp [κ'],dm,⟨C,e,(0,0),H,hY,fun j _=>by simp⟩,fun o ar=>?_,fun m hm=>?_⟩ (fun b y=>?_)
 case h7=>exact .inr ⟨0,(C.toList.take (n*sz)).toArray,rfl,C,e,(0,0),H,fun j x a5=>by
  rw[List.getElem?_toArray,List.getElem?_take] at a5;split at a5
  ·simpa using a5
  ·cases a5⟩
 ·exact⟨main.1,main.2,by simp [κ',J],by simp [κ'],K⟩
 ·simp only[κ'];rw[if_neg]
  rintro ⟨rfl,rfl⟩
  omega
 ·simp only[κ',bj.freeze];rw[if_neg (by intro h;have:=h.2.2.2;rw[B] at this;omega)];exact a7.qA (aD _)
 ·simp only[κ'];rw[if_pos (by simp),if_neg (by omega)]
 ·simp [bi,κ'] at y;omega
theorem c5.Mp{κ:bj}{s s':ag}{w:World}(a7:c5 κ s w){d i n m b cap sz:Nat}(cb:s.get (.g d i)=some (.tok n))(B:κ.lC d i n=some (⟨b,0,none⟩,cap,sz))(O:s.set (.g d i) (.tok m)=some s')
  (U:n<m)(hm:m≤cap)(xs:List Value)(a5:xs.length=(m-n)*sz):
  ∃κ',c5 κ' s' (w.setCells b (n*sz) xs)∧fx κ s w κ' s' (w.setCells b (n*sz) xs)∧κ'.lC d i m=some (⟨b,0,none⟩,cap,sz)∧∀j x,xs[j]? =some x→κ'.F ⟨b,n*sz+j,none⟩=some x:=by
 obtain⟨I,Z,ab,ar,eS,⟨C,e,jG,av,bV,dD⟩,J,K⟩:=a7.obj d i _ cb;rw[B] at ar;simp only[bm,e0,Addr.mk.injEq,and_true] at ar;obtain⟨rfl,rfl,rfl⟩:=ar;obtain⟨ac,ad⟩:=a7.Hu cb;have hmul:n*sz+(m-n)*sz=m*sz:=by rw[←e9];congr 1;omega
 have hle:m*sz≤C.size:=by rw[bV];exact fZ _ hm
 have u:=my xs w b (n*sz) C e jG av (by omega);obtain⟨pY,q6,Ep⟩:=mA xs w b (n*sz)
 let E:Array Value:=((dL C.toList (n*sz) xs).take (m*sz)).toArray
 have bs:E.size=m*sz:=by simp [E,fR];omega
 have M:∀j,n*sz≤j→j<m*sz→E[j]? =xs[j-n*sz]?:=by intro j cX u2;simp only[E,List.getElem?_toArray,List.getElem?_take,u2,↓reduceIte];rw[gQ _ _ _ (by simp;omega),if_pos ⟨cX,by omega⟩]
 let κ':bj:={(κ.freeze b (n*sz) E) with lC:=fun fQ hF jv=>if fQ=d∧hF=i∧jv=m then some (⟨b,0,none⟩,cap,sz) else κ.lC fQ hF jv}
 have cZ:gV κ κ' (s.aa+1):=by
  refine⟨fun a v h=>(gV.freeze (fun j cX=>J j cX) (s.aa+1)).F a v h,fun _ _=>aD _,fun _ _ _ _=>rfl,fun fQ hF jv x _ _ h=>?_⟩;simp only[κ'];split
  ·rename_i aY;obtain⟨rfl,rfl,rfl⟩:=aY;rw[K _ U] at h;cases h
  ·exact h
 have h7:∀a v,κ'.F a=some v→a.spot=none∧(w.setCells b (n*sz) xs).cell? a=some v:=by
  intro a v h;simp only[κ',bj.freeze] at h;split at h
  ·rename_i aY;obtain⟨ae,V,lz,N⟩:=aY;rw[bs] at N;refine⟨V,?_⟩;have y:a=⟨b,a.off,none⟩:=by cases a;simp_all
   rw[y,fS (by rw[u,if_pos rfl])];rw[M _ lz N] at h;rw[List.getElem?_toArray,gQ _ _ _ (by simp;omega),if_pos ⟨lz,by omega⟩];exact h
  ·obtain⟨H,r⟩:=a7.iG a v h;refine⟨H,?_⟩;by_cases Y:a.block=b
   ·have y:a=⟨b,a.off,none⟩:=by cases a;simp_all
    have af:a.off<n*sz:=by
     rcases Nat.lt_or_ge a.off (n*sz) with q|q
     ·exact q
     ·rw[y,J _ q] at h;cases h
    rw[y,fS av] at r;rw[y,fS (by rw[u,if_pos rfl]),List.getElem?_toArray,gQ _ _ _ (by simp;omega),if_neg (by omega)];simpa using r
   ·rw[gG (w:=w) (by rw[u,if_neg Y])];exact r
 refine⟨κ',?_⟩;have main:=a7.setObj (κ':=κ') (w':=w.setCells b (n*sz) xs) cb O cZ rfl (fun fQ hF jv eR=>?_) h7 (fun I _ A=>⟨?_,fun x=>?_⟩) (by rw[mz];exact aD _) pY q6 Ep
  ⟨b,cap,sz,by simp [κ'],hm,⟨(dL C.toList (n*sz) xs).toArray,e,jG,by rw[u];simp,by simp [fR,bV],by simpa [fR] using dD⟩,fun o ah=>?_,fun jv ai=>?_⟩ (fun I A=>?_)
 ·refine⟨main.1,main.2,by simp [κ'],fun j x cX=>?_⟩;have aj:j<xs.length:=(ec.1 cX).1;have H:n*sz≤n*sz+j:=Nat.le_add_right _ _;have r:n*sz+j<m*sz:=by omega
  simp only[κ',bj.freeze];rw[if_pos (⟨trivial,trivial,H,by rw[bs];exact r⟩:True∧True∧n*sz≤n*sz+j∧n*sz+j<E.size),M _ H r,Nat.add_sub_cancel_left,cX]
 ·simp only[κ'];rw[if_neg]
  rintro ⟨rfl,rfl,_⟩
  exact eR ⟨rfl,rfl⟩
 ·rw[u,if_neg]
  rintro rfl
  exact A (by simp [bi,B])
 ·have:I≠b:=by rintro rfl;exact A (by simp [bi,B])
  simp [κ',bj.freeze,this]
 ·simp only[κ',bj.freeze];rw[if_neg]
  ·exact J o (by omega)
  ·rintro ⟨_,_,_,q⟩
   rw[bs] at q;omega
 ·simp only[κ'];rw[if_neg (by omega)];exact K jv (by omega)
 ·left
  simp [bi,κ'] at A;simp [bi,B,A]
theorem c5.Mq{κ:bj}{s s':ag}{w w':World}(a7:c5 κ s w){d i n m:Nat}(cb:s.get (.g d i)=some (.tok n))(J:s.set (.g d i) (.tok m)=some s')(K:n<m)
  (C:Array Value)(e:TypeId)(cap sz:Nat)(hY:C.size=cap*sz)(hm:m≤cap)(hw:w'.heap=w.heap.push (.cells C e (0,0)))(M:w'.os=w.os)(ed:w'.tape=w.tape)(hu:w'.output=w.output):
  ∃κ',c5 κ' s' w'∧fx κ s w κ' s' w'∧κ'.lC d i m=some (⟨w.heap.size,0,none⟩,cap,sz)∧∀j,j<m*sz→κ'.F ⟨w.heap.size,j,none⟩=C[j]?:=by
 obtain⟨b,Z,ab,ar,eS,⟨ac,hX,ad,av,bV,dD⟩,ae,y⟩:=a7.obj d i _ cb;obtain⟨af,ah⟩:=a7.Hu cb;have hle:m*sz≤C.size:=by rw[hY];exact fZ _ hm
 have u:((C.toList.take (m*sz)).toArray).size=m*sz:=by simp;omega
 have hold:∀b,b<w.heap.size→w'.heap[b]? =w.heap[b]?:=fun b N=>by rw[hw,Array.getElem?_push];simp [Nat.ne_of_lt N]
 have A:w'.heap[w.heap.size]? =some (.cells C e (0,0)):=by rw[hw];simp
 let κ':bj:={(κ.freeze w.heap.size 0 (C.toList.take (m*sz)).toArray) with lC:=fun fQ hF jv=>if fQ=d∧hF=i∧jv=m then some (⟨w.heap.size,0,none⟩,cap,sz) else κ.lC fQ hF jv}
 have cZ:gV κ κ' (s.aa+1):=by
  refine⟨fun a v h=>(gV.freeze (fun j cX=>a7.qA (aD _)) (s.aa+1)).F a v h,fun _ _=>aD _,fun _ _ _ _=>rfl,fun fQ hF jv x _ _ h=>?_⟩;simp only[κ'];split
  ·rename_i aY;obtain⟨rfl,rfl,rfl⟩:=aY;rw[y _ K] at h;cases h
  ·exact h
 have O:∀j,j<m*sz→κ'.F ⟨w.heap.size,j,none⟩=C[j]?:=by intro j cX;simp only[κ',bj.freeze];rw[if_pos (⟨trivial,trivial,Nat.zero_le _,by rw[u];exact cX⟩:True∧True∧0≤j∧j<((C.toList.take (m*sz)).toArray).size)];simp [cX]
 refine⟨κ',?_⟩;have main:=a7.setObj (κ':=κ') (w':=w') cb J cZ rfl (fun fQ hF jv eR=>?_) (fun a v h=>?_) (fun B r _=>⟨hold B r,fun x=>?_⟩) (by rw[hw];simp) M ed hu
  ⟨w.heap.size,cap,sz,by simp [κ'],hm,⟨C,e,(0,0),A,hY,fun j _=>by simp⟩,fun o ai=>?_,fun jv aj=>?_⟩ (fun B r=>?_)
 ·exact⟨main.1,main.2,by simp [κ'],O⟩
 ·simp only[κ'];rw[if_neg]
  rintro ⟨rfl,rfl,_⟩
  exact eR ⟨rfl,rfl⟩
 ·simp only[κ',bj.freeze] at h;split at h
  ·rename_i aY;obtain⟨ak,U,lz,H⟩:=aY;rw[u] at H;refine⟨U,?_⟩;have V:a=⟨w.heap.size,a.off,none⟩:=by cases a;simp_all
   rw[V,fS A];rw[List.getElem?_toArray,List.getElem?_take] at h;simpa [H] using h
  ·obtain⟨Y,I⟩:=a7.iG a v h;exact⟨Y,by rw[gG (hold _ (o5 I))];exact I⟩
 ·simp [κ',bj.freeze,Nat.ne_of_lt r]
 ·simp only[κ',bj.freeze];rw[if_neg (by intro h;have:=h.2.2.2;rw[u] at this;omega)];exact a7.qA (aD _)
 ·simp only[κ'];rw[if_neg (by omega)];exact y jv (by omega)
 ·right
  simp [bi,κ'] at r;omega
def ag.push(s:ag):ag:={own:=[],up:=s.own::s.up,ro:=s.ro}
theorem ag.jf(s:ag):s.push.aa=s.aa+1:=by simp [ag.push,ag.aa];omega
theorem ag.q7(s:ag)(d:Nat):s.push.ao d=if d=s.aa+1 then some [] else s.ao d:=by
 unfold ag.ao;rw[ag.jf];by_cases ar:d=s.aa+1
 ·simp [ar,ag.push]
 ·simp only[ar,↓reduceIte];by_cases av:d=s.aa
  ·simp [av,ag.push]
  ·by_cases bV:d<s.aa
   ·have dD:d<s.aa+1:=by omega
    simp only[av,bV,dD,↓reduceIte,ag.push];rw[show s.aa+1-1-d=(s.aa-1-d)+1 by omega,List.cons_append,List.getElem?_cons_succ]
   ·have dD:¬d<s.aa+1:=by omega
    simp [av,bV,dD]
theorem ag.nI(s:ag)(d i:Nat):s.push.get (.g d i)=s.get (.g d i):=by
 rw[ag.mw,ag.mw,ag.q7];by_cases h:d=s.aa+1
 ·subst h;have ar:s.ao (s.aa+1)=none:=by
   have q:¬s.aa+1<s.aa:=by omega
   simp [ag.ao,q]
  simp [ar]
 ·simp [h]
theorem c5.push{κ:bj}{s:ag}{w:World}(a7:c5 κ s w):∃κ',c5 κ' s.push w∧gV κ κ' (s.aa+1)∧κ'.F=κ.F∧∀d i o,s.get (.g d i)=some o→bi κ' d i o=bi κ d i o:=by
 refine⟨{κ with n:=fun d=>if d=s.aa+1 then 0 else κ.n d},?_⟩;have cZ:gV κ {κ with n:=fun d=>if d=s.aa+1 then 0 else κ.n d} (s.aa+1):=by refine⟨fun _ _ h=>h,fun d cP=>?_,fun _ _ _ _=>rfl,fun _ _ _ _ _ _ h=>h⟩;simp only;rw[if_neg (by omega)];exact aD _
 have key:∀d i o,s.get (.g d i)=some o→AP {κ with n:=fun d=>if d=s.aa+1 then 0 else κ.n d} d i w o∧bi {κ with n:=fun d=>if d=s.aa+1 then 0 else κ.n d} d i o=bi κ d i o:=fun d i o h=>(a7.obj d i o h).bU (a7.nH h) (cZ.low (by have:=ag.gy h;omega)) (fun m=>rfl) (fun b _=>⟨rfl,fun _=>rfl⟩)
 refine⟨⟨a7.iG,fun d l h=>?_,fun d i o h=>?_,fun d i o fQ hF o' b h r e hX=>?_⟩,cZ,rfl,fun d i o h=>(key d i o h).2⟩
 ·rw[ag.q7] at h;split at h
  ·rename_i cP;simp only[bm] at h;simp [←h,cP]
  ·rename_i cP;simp only[cP,↓reduceIte];exact a7.len d l h
 ·rw[ag.nI] at h;exact(key d i o h).1
 ·rw[ag.nI] at h r;rw[(key d i o h).2] at e;rw[(key fQ hF o' r).2] at hX;exact a7.inj d i o fQ hF o' b h r e hX
theorem ag.u3{s:ag}{own:List cU}{up:List (List cU)}(h:s.up=own::up):({own,up,ro:=s.ro}:ag).push= {s with own:=[]}:=by simp [ag.push,h]
theorem ag.q8{s:ag}{own:List cU}{up:List (List cU)}(h:s.up=own::up){d i:Nat}{o:cU}(cb:({own,up,ro:=s.ro}:ag).get (.g d i)=some o):s.get (.g d i)=some o:=by
 have cP:=ag.gy cb;rw[←ag.nI,ag.u3 h] at cb;have r:s.aa=({own,up,ro:=s.ro}:ag).aa+1:=by simp [ag.aa,h];omega
 have eR:d≠s.aa:=by omega
 unfold ag.get at cb ⊢;have e:({s with own:=[]}:ag).aa=s.aa:=rfl;rw[e] at cb;simp only[eR,↓reduceIte] at cb ⊢;exact cb
theorem c5.pop{κ:bj}{s:ag}{w:World}(a7:c5 κ s w){own:List cU}{up:List (List cU)}(h:s.up=own::up):c5 κ {own,up,ro:=s.ro} w:=by
 refine⟨a7.iG,fun d l cP=>?_,fun d i o cb=>a7.obj d i o (ag.q8 h cb),fun d i o fQ hF o' b cb r=>a7.inj d i o fQ hF o' b (ag.q8 h cb) (ag.q8 h r)⟩;have A:s.aa=({own,up,ro:=s.ro}:ag).aa+1:=by simp [ag.aa,h];omega
 have B:d≤({own,up,ro:=s.ro}:ag).aa:=by
  rcases Nat.lt_or_ge ({own,up,ro:=s.ro}:ag).aa d with q|q
  ·have u:d≠({own,up,ro:=s.ro}:ag).aa:=by omega
   have y:¬d<({own,up,ro:=s.ro}:ag).aa:=by omega
   simp [ag.ao,u,y] at cP
  ·exact q
 have q:({own,up,ro:=s.ro}:ag).push.ao d=some l:=by rw[ag.q7,if_neg (by omega)];exact cP
 rw[ag.u3 h] at q;refine a7.len d l ?_;unfold ag.ao at q ⊢;have e:({s with own:=[]}:ag).aa=s.aa:=rfl;rw[e] at q;have eR:d≠s.aa:=by omega
 simp only[eR,↓reduceIte] at q ⊢;exact q
theorem c5.empty{κ:bj}{s:ag}{w:World}(a7:c5 κ s w):c5 {κ with n:=fun _=>0} {own:=[],up:=[],ro:=[]} w:=by
 have e:∀d i,({own:=[],up:=[],ro:=[]}:ag).get (.g d i)=none:=by intro d i;simp [ag.get]
 refine⟨a7.iG,fun d l h=>?_,fun d i o h=>?_,fun d i o fQ hF o' b h=>?_⟩
 ·unfold ag.ao at h;simp at h;simp [h]
 ·rw[e] at h;cases h
 ·rw[e] at h;cases h
def u4:List ae→eZ→Value→Bool
 |[],.nil,.slice none 0 0=>true
 |_,_,_=>false
theorem u5{es:List ae}{g:eZ}{x:Value}(h:u4 es g x=true):es=[]∧g=.nil∧x=.slice none 0 0:=by
 unfold u4 at h;split at h
 ·exact⟨rfl,rfl,rfl⟩
 ·cases h
def ze:Value→Bool
 |.pointer none=>true
 |_=>false
theorem xu{x:Value}(h:ze x=true):x=.pointer none:=by
 unfold ze at h;split at h
 ·rfl
 ·cases h
def zf:Value→Bool
 |.map none=>true
 |_=>false
theorem xv{x:Value}(h:zf x=true):x=.map none:=by
 unfold zf at h;split at h
 ·rfl
 ·cases h
mutual
def hp:ae→Value→Bool
 |.bool a,.bool b=>a==b
 |.int k a,.int lN b=>decide (k=lN)&&a==b
 |.str e8,.string s=>e8==s.data.toList.map UInt8.toNat
 |.bW _ es g,x=>u4 es g x
 |.hJ,x=>ze x
 |.hZ,.nilFunc=>true
 |.fh,x=>zf x
 |.hK,.nilIface=>true
 |.agg cs,.agg xs=>m1 cs xs.toList
 |.d0 [],.tuple xs=>xs.size==0
 |_,_=>false
def m1:List ae→List Value→Bool
 |[],[]=>true
 |c::cs,x::xs=>hp c x&&m1 cs xs
 |_,_=>false
end
mutual
theorem oa:∀(v:ae) (x:Value),hp v x=true→(∀κ D,dC κ D v x)∧v.bc=true
 |.bool a,x,h=>by cases x<;> simp [hp] at h;subst h;exact⟨fun _ _=>.bool a,rfl⟩
 |.int k a,x,h=>by cases x<;> simp [hp] at h;obtain⟨rfl,rfl⟩:=h;exact⟨fun _ _=>.int k a,rfl⟩
 |.str e8,x,h=>by cases x<;> simp [hp] at h;exact⟨fun _ _=>.str e8 _ h.symm,rfl⟩
 |.bW sz es g,x,h=>by simp only[hp] at h;obtain⟨rfl,rfl,rfl⟩:=u5 h;exact⟨fun _ _=>.kQ sz,rfl⟩
 |.hJ,x,h=>by simp only[hp] at h;rw[xu h];exact⟨fun _ _=>.hJ,rfl⟩
 |.hZ,x,h=>by cases x<;> simp [hp] at h;exact⟨fun _ _=>.hZ,rfl⟩
 |.fh,x,h=>by simp only[hp] at h;rw[xv h];exact⟨fun _ _=>.fh,rfl⟩
 |.hK,x,h=>by cases x<;> simp [hp] at h;exact⟨fun _ _=>.hK,rfl⟩
 |.agg cs,x,h=>by cases x<;> simp [hp] at h;rename_i xs;obtain⟨ar,av⟩:=nr cs xs.toList h;exact⟨fun κ D=>by simpa using dC.agg cs xs.toList (ar κ D).1 (ar κ D).2,by simpa [ae.bc] using av⟩
 |.d0 cs,x,h=>by
  cases cs with
  |nil=>cases x<;> simp [hp] at h;rename_i xs;subst h;exact⟨fun κ D=>.d0 [] [] rfl (fun j c x aY=>by simp at aY),rfl⟩
  |cons c cs=>cases x<;> simp [hp] at h
 |.dead,x,h=>by cases x<;> simp [hp] at h
 |.cO ..,x,h=>by cases x<;> simp [hp] at h
 |.ref ..,x,h=>by cases x<;> simp [hp] at h
 |.bh ..,x,h=>by cases x<;> simp [hp] at h
 |.fn ..,x,h=>by cases x<;> simp [hp] at h
 |.map ..,x,h=>by cases x<;> simp [hp] at h
 |.iface ..,x,h=>by cases x<;> simp [hp] at h
theorem nr:∀(cs:List ae) (xs:List Value),m1 cs xs=true→(∀κ D,eu κ D cs xs)∧ae.aZ cs=true
 |[],[],_=>⟨fun κ D=>.nil κ D,rfl⟩
 |[],x::xs,h=>by simp [m1] at h
 |c::cs,[],h=>by simp [m1] at h
 |c::cs,x::xs,h=>by simp only[m1,bl] at h;obtain⟨ar,av⟩:=oa c x h.1;obtain⟨bV,dD⟩:=nr cs xs h.2;exact⟨fun κ D=>.cons (ar κ D) (bV κ D),by simp [ae.aZ,av,dD]⟩
end
def cH:bF→Operand→Bool
 |.t n,.tmp m=>n==m
 |.c v,.const x=>hp v x
 |.c (.fn f []),.func g=>f==g
 |.g n,.global m=>n==m
 |.at n _ _,.tmp m=>n==m
 |_,_=>false
def dz:List bF→List Operand→Bool
 |[],[]=>true
 |x::xs,y::e=>cH x y&&dz xs e
 |_,_=>false
def fy:Option bF→Option Operand→Bool
 |none,none=>true
 |some x,some y=>cH x y
 |_,_=>false
def ko(κ:bj)(G:Nat→ae):Prop:=∀n,dC κ 0 (G n) (.pointer (some ⟨n,0,none⟩))∧(G n).bc=true
theorem ko.mono{κ κ':bj}{G:Nat→ae}(h:ko κ G){D:Nat}(k:gV κ κ' D):ko κ' G:=fun n=>⟨(h n).1.mono (k.low (Nat.zero_le D)),(h n).2⟩
theorem bu{κ:bj}{s:ag}{ao:Nat→ae}{a:Act}{G:Nat→ae}(br:xo κ s ao a)(dV:ko κ G){x:bF}{y:Operand}(h:cH x y=true):dC κ (s.aa+1) ((aq G ao x).ap s.aa) (a.eval y):=by
 cases x with
 |t n=>cases y<;> simp [cH] at h;subst h;exact br n
 |c v=>
  cases y with
  |const x=>
   have r:hp v x=true:=by cases v<;> simpa [cH] using h
   obtain⟨ar,av⟩:=oa v x r;simp only[aq,ju av,Act.eval];exact ar _ _
  |func g=>
   cases v<;> simp [cH] at h;rename_i f dI;cases dI with
   |nil=>simp [cH] at h;subst h;exact .fn f [] [] rfl (fun j c x aY=>by simp at aY)
   |cons c cs=>simp [cH] at h
  |tmp m=>cases v<;> simp [cH] at h
  |global m=>cases v<;> simp [cH] at h
 |g n=>cases y<;> simp [cH] at h;subst h;obtain⟨ar,av⟩:=dV n;simp only[aq,ju av,Act.eval];exact ar.up (Nat.zero_le _)
 | «at» n b off=>
  cases y<;> simp [cH] at h;subst h;simp only[aq];rcases Ht (ao n) (ao b) off with e|⟨e,_⟩
  ·rw[e];exact .dead _
  ·rw[e];exact br n
 |Sk b off=>cases y<;> simp [cH] at h
section
variable{κ:bj}{D:Nat}{x:Value}
theorem dC.eD{k:IntKind}{n:Int}(h:dC κ D (.int k n) x):x=.int k n:=by cases h;rfl
theorem dC.gY{b:Bool}(h:dC κ D (.bool b) x):x=.bool b:=by cases h;rfl
theorem dC.ia{e8:List Nat}(h:dC κ D (.str e8) x):∃s,x=.string s∧s.data.toList.map UInt8.toNat=e8:=by cases h;exact⟨_,rfl,by assumption⟩
theorem dC.mB{cs:List ae}(h:dC κ D (.agg cs) x):∃xs:List Value,x=.agg xs.toArray∧eu κ D cs xs:=by cases h;exact⟨_,rfl,by assumption,by assumption⟩
theorem dC.u6{cs:List ae}(h:dC κ D (.d0 cs) x):∃xs:List Value,x=.tuple xs.toArray∧eu κ D cs xs:=by cases h;exact⟨_,rfl,by assumption,by assumption⟩
theorem dC.uu{f:Nat}{cs:List ae}(h:dC κ D (.fn f cs) x):∃xs:List Value,x=.func (.func f) #[] xs.toArray∧eu κ D cs xs:=by cases h;exact⟨_,rfl,by assumption,by assumption⟩
theorem dC.sK{cs:List ae}(h:dC κ D (.bh cs) x):∃(a:Addr) (dt:Nat→Value),x=.pointer (some a)∧a.spot=none∧(∀j,j<cs.length→κ.F (a.add j)=some (dt j))∧∀(j:Nat) (c:ae),cs[j]? =some c→dC κ D c (dt j):=by cases h;exact⟨_,_,rfl,by assumption,by assumption,by assumption⟩
theorem dC.mC{d i off:Nat}(h:dC κ D (.ref (.g d i) off) x):x=.pointer (some ⟨κ.loc d i,off,none⟩)∧d<D∧i<κ.n d:=by cases h;exact⟨rfl,by assumption,by assumption⟩
theorem dC.jW{d i off len cap sz:Nat}(h:dC κ D (.cO (.g d i) off len cap sz) x):∃lU,x=.slice (some ⟨κ.loc d i,off,none⟩) len lU∧d<D∧i<κ.n d∧len≤lU∧(lU=cap∨(cap=0∧0<len∧off=0∧κ.lC d i len=some (⟨κ.loc d i,0,none⟩,lU,sz))):=by cases h;exact⟨_,rfl,by assumption,by assumption,by assumption,by assumption⟩
theorem dC.KX{d i off len cap sz:Nat}(h:dC κ D (.cO (.g d i) off len cap sz) x)(bN:len≤cap):x=.slice (some ⟨κ.loc d i,off,none⟩) len cap∧d<D∧i<κ.n d:=by
 obtain⟨lU,rfl,ar,av,bV,dD⟩:=h.jW;rcases dD with rfl |⟨e,r,_⟩
 ·exact⟨rfl,ar,av⟩
 ·omega
theorem dC.Er{t:Nat}{v:ae}(h:dC κ D (.iface t v) x):∃y,x=.iface t y∧dC κ D v y:=by cases h;exact⟨_,rfl,by assumption⟩
end
theorem dC.cells{κ:bj}{D:Nat}{v:ae}{x:Value}(h:dC κ D v x)(bM:v.fa=true):eu κ D v.cells x.cells.toList:=by
 cases h<;> simp [ae.fa] at bM<;> simp only[ae.cells,Value.cells]
 case agg cs xs bN e=>exact⟨by simpa using bN,by simpa using e⟩
 all_goals
  refine .cons ?_ (.nil _ _)
  first
   |exact .bool _|exact .int _ _|exact .str _ _ (by assumption)|exact .kQ _
   |exact .bW _ _ _ _ _ _ (by assumption) (by assumption) (by assumption) (by assumption) (by assumption) (by assumption) (by assumption)
   |exact .cO _ _ _ _ _ _ _ (by assumption) (by assumption) (by assumption) (by assumption)|exact .ref _ _ _ (by assumption) (by assumption)
   |exact .bh _ _ _ (by assumption) (by assumption) (by assumption)|exact .hJ|exact .fn _ _ _ (by assumption) (by assumption)
   |exact .hZ|exact .km _|exact .fh|exact .map _ _ (by assumption) (by assumption)|exact .iface _ _ _ (by assumption)|exact .hK
theorem u7(v:ae)(d:Nat):(v.ap d).fa=v.fa:=by cases v<;> rfl
theorem dC.Mr{κ:bj}{D:Nat}{v:ae}{x:Value}(h:dC κ D v x)(bM:v.eB=true):x.oneCell'=true:=by cases h<;> simp [ae.eB] at bM<;> rfl
theorem bytes_inj{a b:List UInt8}(h:a.map UInt8.toNat=b.map UInt8.toNat):a=b:=by have:=List.map_inj_right (f:=UInt8.toNat) (l:=a) (l':=b) (fun x y e=>UInt8.toNat_inj.1 e);exact this.1 h
theorem zg(a b:List UInt8):(a.map UInt8.toNat==b.map UInt8.toNat)=(a==b):=by rw[Bool.eq_iff_iff];simp only[beq_iff_eq];exact⟨bytes_inj,fun h=>by rw[h]⟩
theorem o7:∀(a b:List UInt8),jP (a.map UInt8.toNat) (b.map UInt8.toNat)=Op.bytesLess a b
 |_,[]=>by simp [jP,Op.bytesLess]
 |[],_::_=>by simp [jP,Op.bytesLess]
 |a::x,b::y=>by
  simp only[fH,jP,Op.bytesLess,o7 x y];have ar:Nat.blt a.toNat b.toNat=decide (a<b):=by rw[Bool.eq_iff_iff];simp [Nat.blt_eq,UInt8.lt_iff_toNat_lt]
  have av:Nat.beq a.toNat b.toNat=(a==b):=by rw[Bool.eq_iff_iff];simp [Nat.beq_eq,UInt8.toNat_inj]
  rw[ar,av]
def dN(P:Program)(o:Op)(ty:TypeId)(ρ:Operand→Value)(κ:bj)(s:ag)(w:World)(v:ae)(s':ag):Prop:=
 ∃x κ' w',((∀dst pos after guard,(execOp ρ ⟨dst,o,ty,pos,after,guard⟩).run P w=.ok (.value x) w')∨((∀dst pos after guard,(execOp ρ ⟨dst,o,ty,pos,after,guard⟩).run P w=.ok .skip w')∧x=undef))∧
  fx κ s w κ' s' w'∧c5 κ' s' w'∧dC κ' (s.aa+1) (v.ap s.aa) x
theorem bG{P:Program}{o:Op}{ty:TypeId}{ρ:Operand→Value}{κ:bj}{s:ag}{w:World}{v:ae}(a7:c5 κ s w)(x:Value)
  (h:∀dst pos after guard,(execOp ρ ⟨dst,o,ty,pos,after,guard⟩).run P w=.ok (.value x) w)(a5:dC κ (s.aa+1) (v.ap s.aa) x):dN P o ty ρ κ s w v s:=
 ⟨x,κ,w,.inl h,.refl _ _ _,a7,a5⟩
section
variable{P:Program}{ty:TypeId}{ρ:Operand→Value}{κ:bj}{s:ag}{w:World}(a7:c5 κ s w)
include a7
theorem th{v:ae}{x:Operand}(h:dC κ (s.aa+1) (v.ap s.aa) (ρ x)):dN P (.move x) ty ρ κ s w v s:=
 bG a7 _ (fun _ _ _ _=>by simp [execOp]) h
theorem p7{v:ae}{x:Operand}(h:dC κ (s.aa+1) (v.ap s.aa) (ρ x)):dN P (.assign x) ty ρ κ s w v s:=
 bG a7 _ (fun _ _ _ _=>by simp [execOp]) h
theorem AW{t:Bool}{a b:ae}{c x y:Operand}(aY:ρ c=.bool t)(ar:dC κ (s.aa+1) (a.ap s.aa) (ρ x))(av:dC κ (s.aa+1) (b.ap s.aa) (ρ y)):
  dN P (.pick c x y) ty ρ κ s w (bif t then a else b) s:=by
 refine bG a7 (if t then ρ x else ρ y) (fun _ _ _ _=>by simp [execOp,aY,asBool]) ?_;cases t<;> assumption
theorem u9{op:BinOp}{k:IntKind}{m n:Int}{t yt:TypeId}{x y:Operand}{v:ae}(a5:ρ x=.int k m)(eM:ρ y=.int k n)(h:gr op k m n=some v):dN P (.binOp op t x y yt) ty ρ κ s w v s:=by
 have key:∃z,(binOp op t (.int k m) (.int k n)).run P w=.ok z w∧dC κ (s.aa+1) (v.ap s.aa) z:=by
  cases op<;> simp only[gr,bm,reduceCtorEq] at h
  case quo=>
   by_cases dm:n=0
   ·simp [dm] at h
   ·simp only[dm,↓reduceIte,bm] at h;subst h;exact⟨_,by simp only[binOp,Op.intDiv,dm,ne_eq,not_true_eq_false,↓reduceIte];rfl,.int k _⟩
  case rem=>
   by_cases dm:n=0
   ·simp [dm] at h
   ·simp only[dm,↓reduceIte,bm] at h;subst h;exact⟨_,by simp only[binOp,Op.intDiv,dm,ne_eq,not_true_eq_false,↓reduceIte];rfl,.int k _⟩
  case add=>subst h;exact⟨_,by simp only[binOp,Op.intArith,ne_eq,not_true_eq_false,↓reduceIte];rfl,.int k _⟩
  case sub=>subst h;exact⟨_,by simp only[binOp,Op.intArith,ne_eq,not_true_eq_false,↓reduceIte];rfl,.int k _⟩
  case mul=>subst h;exact⟨_,by simp only[binOp,Op.intArith,ne_eq,not_true_eq_false,↓reduceIte];rfl,.int k _⟩
  case and=>subst h;exact⟨_,by simp only[binOp,Op.intBits,ne_eq,not_true_eq_false,↓reduceIte];rfl,.int k _⟩
  case or=>subst h;exact⟨_,by simp only[binOp,Op.intBits,ne_eq,not_true_eq_false,↓reduceIte];rfl,.int k _⟩
  case xor=>subst h;exact⟨_,by simp only[binOp,Op.intBits,ne_eq,not_true_eq_false,↓reduceIte];rfl,.int k _⟩
  case andNot=>subst h;exact⟨_,by simp only[binOp,Op.intBits,ne_eq,not_true_eq_false,↓reduceIte];rfl,.int k _⟩
  all_goals (subst h;exact⟨_,by simp only[binOp,Op.intCmp,ne_eq,not_true_eq_false,↓reduceIte];rfl,.bool _⟩)
 obtain⟨z,g8,bM⟩:=key;refine bG a7 z (fun _ _ _ _=>?_) bM;have cb:(eqGuard op t x y (.int k m) (.int k n)).run P w=.ok () w:=by unfold eqGuard;split<;> rfl
 simp [execOp,a5,eM,cb,g8]
theorem q9{op:BinOp}{k lN:IntKind}{m n:Int}{t yt:TypeId}{x y:Operand}{v:ae}(a5:ρ x=.int k m)(eM:ρ y=.int lN n)(e:op=.shl∨op=.shr)(h:lO op k m n=some v):dN P (.binOp op t x y yt) ty ρ κ s w v s:=by
 unfold lO at h;split at h
 ·cases h
 ·rename_i dm;rcases e with rfl |rfl <;> simp only[bm] at h<;> subst h<;> exact bG a7 _ (fun _ _ _ _=>by simp only[execOp,a5,eM,eqGuard,binOp,Op.shift,dm];rfl) (.int k _)
theorem xw{k:IntKind}{n:Int}{t:TypeId}{x:Operand}(a5:ρ x=.int k n):dN P (.unOp .neg t x) ty ρ κ s w (.int k (k.wrap (0-n))) s:=
 bG a7 _ (fun _ _ _ _=>by simp only[execOp,a5,Op.unary,Op.intArith];rfl) (.int k _)
theorem xx{k:IntKind}{n:Int}{t:TypeId}{x:Operand}(a5:ρ x=.int k n):dN P (.unOp .xor t x) ty ρ κ s w (.int k (k.wrap (BitVec.ofInt k.bits (if k.signed then -1 else k.max) ^^^ BitVec.ofInt k.bits n).toNat)) s:=
 bG a7 _ (fun _ _ _ _=>by simp only[execOp,a5,Op.unary,Op.intBits];rfl) (.int k _)
theorem xy{b:Bool}{t:TypeId}{x:Operand}(a5:ρ x=.bool b):dN P (.unOp .not t x) ty ρ κ s w (.bool (!b)) s:=
 bG a7 _ (fun _ _ _ _=>by simp [execOp,a5,Op.unary]) (.bool _)
theorem va{op:BinOp}{as e8:List Nat}{t yt:TypeId}{x y:Operand}{v:ae}(a5:dC κ (s.aa+1) (.str as) (ρ x))(eM:dC κ (s.aa+1) (.str e8) (ρ y))(h:y9 op as e8=some v):dN P (.binOp op t x y yt) ty ρ κ s w v s:=by
 obtain⟨a,a5,e⟩:=a5.ia;obtain⟨b,eM,r⟩:=eM.ia;have u:(a.toList==b.toList)=(as==e8):=by rw[Go.ByteArray.toList_eq,Go.ByteArray.toList_eq,←e,←r,zg]
 have A:Op.bytesLess a.toList b.toList=jP as e8:=by rw[Go.ByteArray.toList_eq,Go.ByteArray.toList_eq,←e,←r,o7]
 have key:∃z,(binOp op t (.string a) (.string b)).run P w=.ok z w∧dC κ (s.aa+1) (v.ap s.aa) z:=by
  cases op<;> simp only[y9,bm,reduceCtorEq] at h
  case add=>
   split at h
   ·rename_i hle;simp only[bm] at h;subst h;have bN:=dW hle;have B:a.size=as.length:=by have:=congrArg List.length e;rw[ep,Array.length_toList] at this;exact this
    have F:b.size=e8.length:=by have:=congrArg List.length r;rw[ep,Array.length_toList] at this;exact this
    refine⟨.string (a++b),?_,.str _ _ ?_⟩
    ·have:¬(((a.size+b.size:Nat):Int)>IntKind.i64.max):=by rw[B,F];show¬_>(9223372036854775807:Int);omega
     simp only[binOp,Op.stringOp,this,↓reduceIte];rfl
    ·rw[←e,←r,←List.map_append];simp
   ·cases h
  all_goals (subst h;refine⟨_,by simp only[binOp,Op.stringOp,u,A];rfl,?_⟩;exact .bool _)
 obtain⟨z,g8,bM⟩:=key;refine bG a7 z (fun _ _ _ _=>?_) bM;have cb:(eqGuard op t x y (.string a) (.string b)).run P w=.ok () w:=by unfold eqGuard;split<;> rfl
 simp [execOp,a5,eM,cb,g8]
theorem vb{k lN:IntKind}{n:Int}{src dst:TypeId}{x:Operand}{d:TypeDesc}(e:P.underlying src=some d)(h:P.underlying dst=some (.int k))(a5:ρ x=.int lN n):dN P (.convert src dst x) ty ρ κ s w (.int k (k.wrap n)) s:=
 bG a7 _ (fun _ _ _ _=>by simp [execOp,convert,run_underlying e,run_underlying h,a5,Conv.intToInt]) (.int k _)
theorem xz{e8:List Nat}{src dst:TypeId}{x:Operand}{d:TypeDesc}(e:P.underlying src=some d)(h:P.underlying dst=some .string)(a5:dC κ (s.aa+1) (.str e8) (ρ x)):dN P (.convert src dst x) ty ρ κ s w (.str e8) s:=by obtain⟨a,r,u⟩:=a5.ia;exact bG a7 _ (fun _ _ _ _=>by simp [execOp,convert,run_underlying e,run_underlying h,r]) (.str _ _ u)
theorem vc{v:ae}{t:TypeId}{x:Operand}{d:TypeDesc}(ed:P.underlying t=some d)(cP:(d matches .interface _)=false)(a5:dC κ (s.aa+1) (v.ap s.aa) (ρ x)):dN P (.makeInterface t x) ty ρ κ s w (.iface t (v.ap s.aa)) s:=
 bG a7 (.iface t (ρ x)) (fun _ _ _ _=>by simp only[execOp,Instr.makeInterface,map_eq_pure_bind,Sem.run_bind,run_underlying ed,Result.andThen_ok];cases d<;> simp at cP ⊢) (.iface t _ _ a5)
theorem vd{vs:List ae}{i:Nat}{x:Operand}{v:ae}(a5:dC κ (s.aa+1) (.d0 vs) (ρ x))(bM:vs[i]? =some v)(fz:v.ap s.aa=v):dN P (.extract x i) ty ρ κ s w v s:=by obtain⟨xs,r,bN,h⟩:=a5.u6;have bL:=(ec.1 bM).1;have e:xs[i]? =some xs[i]:=ei (by omega);exact bG a7 xs[i] (fun _ _ _ _=>by simp [execOp,Instr.extract,r,e]) (by rw[fz];exact h i v _ bM e)
end
def AX:TypeDesc→Bool
 |.struct _|.array _ _=>true
 |_=>false
def kU(P:Program)(t:TypeId):Option Bool:=(P.underlying t).map AX
def fg(P:Program)(t:TypeId):Option Nat:=(P.info? t).map (·.size)
theorem jg{P:Program}{t:TypeId}{b:Bool}(h:kU P t=some b)(w:World):(isAgg t).run P w=.ok b w:=by
 unfold kU at h;cases cP:P.underlying t with
 |none=>simp [cP] at h
 |some d=>simp only[cP,ej,bm] at h;subst h;simp only[isAgg,Sem.run_bind,run_underlying cP,Result.andThen_ok];cases d<;> rfl
theorem eE{P:Program}{t:TypeId}{n:Nat}(h:fg P t=some n)(w:World):(sizeOf t).run P w=.ok n w:=by
 unfold fg at h;cases cP:P.info? t with
 |none=>simp [cP] at h
 |some i=>simp only[cP,ej,bm] at h;subst h;simp [sizeOf,typeInfo,cP]
section
variable{P:Program}{ty:TypeId}{ρ:Operand→Value}{κ:bj}{s:ag}{w:World}(a7:c5 κ s w)
include a7
def Reads(κ:bj)(D:Nat)(w:World)(a:Addr)(cs:List ae):Prop:=∃dt:Nat→Value,(∀j,j<cs.length→w.cell? (a.add j)=some (dt j))∧∀(j:Nat) (c:ae),cs[j]? =some c→dC κ D c (dt j)
omit a7 in
theorem Reads.drop{D:Nat}{a:Addr}{cs:List ae}(h:Reads κ D w a cs)(n:Nat):Reads κ D w (a.add n) (cs.drop n):=by obtain⟨dt,ar,av⟩:=h;refine⟨fun j=>dt (n+j),fun j cX=>?_,fun j c aY=>av _ c (by simpa using aY)⟩;rw[add_add];exact ar _ (by simp at cX;omega)
theorem AY{D:Nat}{cs:List ae}{x:Value}(h:dC κ D (.bh cs) x):∃a,x=.pointer (some a)∧a.spot=none∧Reads κ D w a cs:=by obtain⟨a,dt,rfl,ar,av,bV⟩:=h.sK;exact⟨a,rfl,ar,dt,fun j cX=>(a7.iG _ _ (av j cX)).2,bV⟩
theorem ob{d i:Nat}{cs:List ae}(h:s.get (.g d i)=some (.cells cs))(off:Nat):Reads κ (d+1) w ⟨κ.loc d i,off,none⟩ (cs.drop off):=by
 obtain⟨⟨C,e,jG,ar,av,bV,_⟩,dD⟩:=a7.obj d i _ h;have bN:cs.length≤C.size:=by have:=bV.1;simp at this;omega
 refine⟨fun j=>C.getD (off+j) undef,fun j cX=>?_,fun j c aY=>?_⟩
 ·rw[f6 rfl,fS ar];simp at cX;simp [Array.getD,show off+j<C.size by omega]
 ·obtain⟨x,a5,bM⟩:=bV.get (show cs[off+j]? =some c by simpa using aY);have r:off+j<cs.length:=(ec.1 (show cs[off+j]? =some c by simpa using aY)).1
  have:C.getD (off+j) undef=x:=by
   rw[List.getElem?_take,if_pos r] at a5;have u:C[off+j]? =some x:=by simpa using a5
   simp [Array.getD_eq_getD_getElem?,u]
  simpa [this] using bM
omit a7 in
theorem sL{D e:Nat}{a:Addr}{cs:List ae}(h:Reads κ D w a cs)(r:D≤e):Reads κ e w a cs:=by obtain⟨v,ar,av⟩:=h;exact⟨v,ar,fun j c aY=>(av j c aY).up r⟩
omit a7 in
theorem ti{D:Nat}{a:Addr}{cs:List ae}(h:Reads κ D w a cs){n:Nat}(dm:n≤cs.length):∃xs:List Value,(loadCells a n).run P w=.ok xs.toArray w∧eu κ D (cs.take n) xs:=by
 obtain⟨dt,ar,av⟩:=h;refine⟨(List.range n).map dt,run_loadCells w a n dt (fun j cX=>ar j (by omega)),by simp;omega,fun j c x aY a5=>?_⟩;simp only[g6,List.getElem?_range] at a5;rw[List.getElem?_take] at aY;by_cases cX:j<n
 ·simp only[cX,↓reduceIte] at aY;have e:(List.range n)[j]? =some j:=by simp [cX]
  rw[e] at a5;simp only[ej,bm] at a5;exact a5 ▸ av j c aY
 ·simp [cX] at aY
omit a7 in
theorem sM{D:Nat}{a:Addr}{cs:List ae}(h:Reads κ D w a cs){n:Nat}(dm:n≤cs.length){t:TypeId}(ar:kU P t=some true)(av:fg P t=some n):∃x,(loadVar t a).run P w=.ok x w∧dC κ D (.agg (cs.take n)) x:=by obtain⟨xs,e,bM⟩:=ti (P:=P) h dm;refine⟨.agg xs.toArray,by simp [loadVar,jg ar,eE av,e],.agg _ xs bM.1 bM.2⟩
omit a7 in
theorem sN{D:Nat}{a:Addr}{c:ae}{cs:List ae}(h:Reads κ D w a (c::cs)){t:TypeId}(ar:kU P t=some false):∃x,(loadVar t a).run P w=.ok x w∧dC κ D c x:=by obtain⟨dt,e,bM⟩:=h;have ma:=e 0 (by simp);simp only[Addr.add,↓reduceIte] at ma;exact⟨dt 0,by simp [loadVar,jg ar,ma],bM 0 c rfl⟩
def j4(P:Program)(t:TypeId):Option Nat→Bool
 |none=>kU P t==some false
 |some n=>kU P t==some true&&fg P t==some n
omit a7 in
theorem sO{D:Nat}{a:Addr}{cs:List ae}(h:Reads κ D w a cs){n:Option Nat}{t:TypeId}(dm:j4 P t n=true){E:Env}(bs:E.F=.not){k:ae→ag→ah}{r:ah}(aU:eU E s k n cs=r)(br:r≠.fail):
  ∃v x,k v s=r∧(loadVar t a).run P w=.ok x w∧dC κ D v x:=by
 cases n with
 |none=>
  cases cs with
  |nil=>simp [eU] at aU;exact absurd aU.symm br
  |cons c cs=>simp only[eU,bs,aX.not] at aU;obtain⟨x,a5,bM⟩:=sN (P:=P) h (by simpa [j4] using dm);exact⟨c,x,aU,a5,bM⟩
 |some n=>
  simp only[j4,bl,beq_iff_eq] at dm;simp only[eU,bs,aX.not] at aU;by_cases bN:n≤cs.length
  ·rw[et bN,bH] at aU;obtain⟨x,a5,bM⟩:=sM (P:=P) h bN dm.1 dm.2;exact⟨_,x,aU,a5,bM⟩
  ·have:Nat.ble n cs.length=false:=by
    cases e:Nat.ble n cs.length with
    |false=>rfl
    |true=>exact absurd (dW e) bN
   rw[this,cond_false] at aU;exact absurd aU.symm br
omit a7 in
theorem iF.ap{D sz n cap:Nat}{g:eZ}{a:Addr}(h:iF κ D sz g n a cap)(d:Nat):g.ap d=g:=by
 cases g with
 |dx a=>cases a with
  |l i=>simp [iF] at h
  |g d i=>rfl
 |_=>rfl
omit a7 in
theorem uv{D:Nat}{v:ae}{x:Value}(h:dC κ D v x)(d:Nat):v.ap d=v:=by
 cases h<;> try rfl
 simp only[ae.ap];rw[iF.ap (by assumption)]
theorem AZ{E:Env}(bs:E.F=.not){k:ae→ag→ah}{r:ah}(br:r≠.fail){n:Option Nat}{t:TypeId}{x:Operand}{v:ae}(dm:j4 P t n=true)(a5:dC κ (s.aa+1) (v.ap s.aa) (ρ x))
  (aU:dY E s k n v=r):∃fL,k fL s=r∧dN P (.load t x) ty ρ κ s w fL s:=by
 cases v<;> simp only[ae.ap] at a5<;> simp only[dY] at aU<;> try exact absurd aU.symm br
 case bh cs=>obtain⟨a,e,_,h⟩:=AY a7 a5;obtain⟨fL,y,ar,av,bV⟩:=sO h dm bs aU br;exact⟨fL,ar,bG a7 y (fun _ _ _ _=>by simp [execOp,Instr.loadAt,e,Instr.sureAddr,av]) (by rw[uv bV];exact bV)⟩
 case ref a off=>
  rw[←ag.hO] at aU;cases u:a.ap s.aa with
  |l i=>cases a<;> simp [Loc.ap] at u
  |g d i=>
   rw[u] at aU a5;obtain⟨e,cP,_⟩:=a5.mC;cases cb:s.get (.g d i) with
   |none=>rw[cb] at aU;exact absurd aU.symm br
   |some o=>
    rw[cb] at aU;cases o<;> try exact absurd aU.symm br
    rename_i cs;have h:=sL (ob a7 cb off) (show d+1≤s.aa+1 by omega);obtain⟨fL,y,ar,av,bV⟩:=sO h dm bs aU br;exact⟨fL,ar,bG a7 y (fun _ _ _ _=>by simp [execOp,Instr.loadAt,e,Instr.sureAddr,av]) (by rw[uv bV];exact bV)⟩
end
theorem jh{v:ae}{n:Nat}(h:e1 v=some n):∃k,v=.int k n:=by cases v<;> simp [e1] at h;rename_i k m;exact⟨k,by rw[←h.2,Int.toNat_of_nonneg h.1]⟩
theorem Es{n m:Nat}{r:ah}{x:ah}(h:(bif Nat.ble n m then x else .fail)=r)(br:r≠.fail):n≤m∧x=r:=by
 cases e:Nat.ble n m with
 |true=>rw[e] at h;exact⟨dW e,h⟩
 |false=>rw[e] at h;exact absurd h.symm br
theorem c2{b:Bool}{r:ah}{x:ah}(h:(bif b then x else .fail)=r)(br:r≠.fail):b=true∧x=r:=by
 cases b with
 |true=>exact⟨rfl,h⟩
 |false=>exact absurd h.symm br
section
variable{P:Program}{ty:TypeId}{ρ:Operand→Value}{κ:bj}{s:ag}{w:World}(a7:c5 κ s w)
include a7
theorem sP{E:Env}(bs:E.F=.not){k:ae→ag→ah}{r:ah}(br:r≠.fail){t:TypeId}{x:Operand}{v:ae}{i off:Nat}{jJ:Array Field}{f:Field}(ed:P.underlying t=some (.struct jJ))(u:jJ[i]? =some f)(y:f.offset=off)
  {n:Nat}(g8:fg P f.type=some n)(dm:n≠0)(a5:dC κ (s.aa+1) (v.ap s.aa) (ρ x))(aU:gP E s k off v=r):∃fL,k fL s=r∧dN P (.fieldAddr t x i) ty ρ κ s w fL s:=by
 have run:∀(a:Addr),ρ x=.pointer (some a)→∀dst pos after guard,(execOp ρ ⟨dst,.fieldAddr t x i,ty,pos,after,guard⟩).run P w=.ok (.value (.pointer (some (a.add off)))) w:=by intro a h dst pos after guard;simp [execOp,Instr.fieldAt,run_underlying ed,u,h,Instr.sureAddr,fieldPlace,eE g8,dm,y]
 cases v<;> simp only[ae.ap] at a5<;> simp only[gP,bs,aX.not] at aU<;> try exact absurd aU.symm br
 case bh cs=>obtain⟨a,dt,e,ar,av,bV⟩:=a5.sK;refine⟨_,aU,bG a7 _ (run a e) ?_⟩;refine .bh _ _ (fun j=>dt (off+j)) (mx ar _) (fun j cX=>?_) (fun j c aY=>bV _ c (by simpa using aY));rw[add_add];exact av _ (by simp at cX;omega)
 case ref a o=>
  refine⟨_,aU,?_⟩;cases h:a.ap s.aa with
  |l i=>cases a<;> simp [Loc.ap] at h
  |g d j=>rw[h] at a5;obtain⟨e,cP,cX⟩:=a5.mC;refine bG a7 _ (run _ e) ?_;simp only[ae.ap,h,f6 (show(⟨κ.loc d j,o,none⟩:Addr).spot=none from rfl)];exact .ref d j _ cP cX
omit a7 in
theorem yi{cs:List ae}{xs:List Value}{D off:Nat}(h:eu κ D cs xs){t:TypeId}{n:Option Nat}(dm:j4 P t n=true){E:Env}(bs:E.F=.not){k:ae→ag→ah}{r:ah}(aU:eU E s k n (cs.drop off)=r)(br:r≠.fail):
  ∃v x,k v s=r∧(part t xs.toArray off).run P w=.ok x w∧dC κ D v x:=by
 have cP:=h.drop off;cases n with
 |none=>
  cases aY:cs.drop off with
  |nil=>rw[aY] at aU;simp [eU] at aU;exact absurd aU.symm br
  |cons c u=>
   rw[aY] at aU;simp only[eU,bs,aX.not] at aU;rw[aY] at cP;obtain⟨x,y,f7,bM,_⟩:=cP.us;refine⟨c,x,aU,?_,bM⟩;have e:xs[off]? =some x:=by have:=congrArg (fun l:List Value=>l[0]?) f7;simpa using this
   simp [part,jg (show kU P t=some false by simpa [j4] using dm),e]
 |some n=>
  simp only[j4,bl,beq_iff_eq] at dm;simp only[eU,bs,aX.not] at aU;obtain⟨bN,cZ⟩:=Es aU br;refine⟨_,.agg ((xs.drop off).take n).toArray,cZ,?_,.agg _ _ (cP.take n).1 (cP.take n).2⟩
  have:xs.toArray.extract off (off+n)=((xs.drop off).take n).toArray:=by rw[List.extract_toArray];congr 1;simp [List.extract_eq_take_drop]
  simp [part,jg dm.1,eE dm.2,this]
theorem zh{E:Env}(bs:E.F=.not){k:ae→ag→ah}{r:ah}(br:r≠.fail){t:TypeId}{x:Operand}{v:ae}{i off:Nat}{n:Option Nat}{jJ:Array Field}{f:Field}(ed:P.underlying t=some (.struct jJ))(u:jJ[i]? =some f)(A:f.offset=off)
  (dm:j4 P f.type n=true)(a5:dC κ (s.aa+1) (v.ap s.aa) (ρ x))(aU:lP E s k off n v=r):∃fL,k fL s=r∧dN P (.field t x i) ty ρ κ s w fL s:=by
 cases v<;> simp only[ae.ap] at a5<;> simp only[lP] at aU<;> try exact absurd aU.symm br
 obtain⟨xs,e,h⟩:=a5.mB;obtain⟨fL,y,ar,av,bV⟩:=yi (w:=w) h dm bs aU br;exact⟨fL,ar,bG a7 y (fun _ _ _ _=>by simp [execOp,Instr.field,run_underlying ed,u,e,asAgg,A,av]) (by rw[uv bV];exact bV)⟩
theorem xA{E:Env}(bs:E.F=.not){k:ae→ag→ah}{r:ah}(br:r≠.fail){t e:TypeId}{x y:Operand}{v i:ae}{sz len:Nat}{n:Option Nat}(ed:P.underlying t=some (.array len e))(g8:fg P e=some sz)
  (dm:j4 P e n=true)(a5:dC κ (s.aa+1) (v.ap s.aa) (ρ x))(bL:dC κ (s.aa+1) (i.ap s.aa) (ρ y))(aU:kv E s k sz len n v i=r):∃fL,k fL s=r∧dN P (.index t x y) ty ρ κ s w fL s:=by
 cases v<;> simp only[ae.ap] at a5<;> simp only[kv] at aU<;> try exact absurd aU.symm br
 rename_i cs;obtain⟨xs,ex,h⟩:=a5.mB;cases u:e1 i with
 |none=>rw[u] at aU;exact absurd aU.symm br
 |some m=>
  rw[u] at aU;obtain⟨ev,rfl⟩:=jh u;have A:=bL.eD;obtain⟨B,aU⟩:=c2 aU br;have hm:m<len:=by simpa [Nat.blt_eq] using B
  obtain⟨fL,z,ar,av,bV⟩:=yi (w:=w) h dm bs aU br;refine⟨fL,ar,bG a7 z (fun _ _ _ _=>?_) (by rw[uv bV];exact bV)⟩;simp [execOp,Instr.index,run_underlying ed,ex,A,asIntOf,hm,eE g8,av]
theorem xB{E:Env}(bs:E.F=.not){k:ae→ag→ah}{r:ah}(br:r≠.fail){t:TypeId}{x y:Operand}{v i:ae}(ed:P.underlying t=some .string)
  (a5:dC κ (s.aa+1) (v.ap s.aa) (ρ x))(bL:dC κ (s.aa+1) (i.ap s.aa) (ρ y))(aU:h6 E s k v i=r):∃fL,k fL s=r∧dN P (.index t x y) ty ρ κ s w fL s:=by
 cases v<;> simp only[ae.ap] at a5<;> simp only[h6] at aU<;> try exact absurd aU.symm br
 rename_i e8;obtain⟨a,ex,h⟩:=a5.ia;cases u:e1 i with
 |none=>rw[u] at aU;exact absurd aU.symm br
 |some m=>
  rw[u] at aU;obtain⟨ev,rfl⟩:=jh u;have B:=bL.eD;cases e:e8[m]? with
  |none=>simp only[e] at aU;exact absurd aU.symm br
  |some b=>
   simp only[e,bs,aX.not] at aU;refine⟨_,aU,bG a7 (.int .u8 b) (fun _ _ _ _=>?_) (.int _ _)⟩;rw[←h,g6] at e;cases aY:a.data.toList[m]? with
   |none=>simp [aY] at e
   |some c=>
    simp only[aY,ej,bm] at e;subst e;have A:=(ec.1 aY).1;have H:a[m]? =some c:=by
     have e3:m<a.size:=by rw[Array.length_toList] at A;exact A
     rw[getElem?_pos a m e3];have av:=(ec.1 aY).2;rw[ByteArray.getElem_eq_getElem_data];simpa using av
    have key:(Instr.index t (.string a) (.int ev m)).run P w=.ok (.int .u8 c.toNat) w:=by simp only[Instr.index,Sem.run_bind,asIntOf,Sem.run_pure,Result.andThen_ok,run_underlying ed,Int.natCast_nonneg,↓reduceIte,Int.toNat_natCast,H]
    simp only[execOp,ex,B,Sem.run_bind,key,Result.andThen_ok,Sem.run_pure]
omit a7 in
theorem hE{D:Nat}{v:ae}{x:Value}(h:dC κ D v x):(∀sz es g,v=.bW sz es g→∃a c,x=.slice a es.length c)∧∀a off len cap sz,v=.cO a off len cap sz→∃p c,x=.slice p len c:=by cases h<;> refine⟨fun sz es g e=>?_,fun a off len cap sz e=>?_⟩<;> cases e<;> exact⟨_,_,rfl⟩
theorem ve{E:Env}(bs:E.F=.not){k:ae→ag→ah}{r:ah}(br:r≠.fail){b:Bool}{t:TypeId}{d:TypeDesc}{x:Operand}{v:ae}(ed:P.underlying t=some d)(cP:(b=true∧d=.string)∨(b=false∧∃e,d=.slice e))
  (a5:dC κ (s.aa+1) (v.ap s.aa) (ρ x))(aU:p5 E s k b v=r):∃fL,k fL s=r∧dN P (.call {callee:=.builtin .len,args:= #[x],argTypes:= #[t]}) ty ρ κ s w fL s:=by
 have u:=hE a5;cases v<;> simp only[ae.ap] at a5 u<;> rcases cP with⟨rfl,rfl⟩|⟨rfl,e,rfl⟩<;> simp only[p5,bs,aX.not] at aU<;> try exact absurd aU.symm br
 case str.inl e8=>
  obtain⟨a,ex,h⟩:=a5.ia;refine⟨_,aU,bG a7 (.int .i64 e8.length) (fun _ _ _ _=>?_) (.int _ _)⟩
  have:a.size=e8.length:=by have:=congrArg List.length h;rw[ep,Array.length_toList] at this;exact this
  simp [execOp,resolve,invoke,builtin,Builtin.len_,run_underlying ed,ex,goInt,this]
 case bW.inr sz es g=>refine⟨_,aU,bG a7 (.int .i64 es.length) (fun _ _ _ _=>?_) (.int _ _)⟩;obtain⟨a,c,ex⟩:=u.1 _ _ _ rfl;simp [execOp,resolve,invoke,builtin,Builtin.len_,run_underlying ed,ex,goInt]
 case cO.inr a off len cap sz=>refine⟨_,aU,bG a7 (.int .i64 len) (fun _ _ _ _=>?_) (.int _ _)⟩;obtain⟨p,lU,ex⟩:=u.2 _ _ _ _ _ rfl;simp [execOp,resolve,invoke,builtin,Builtin.len_,run_underlying ed,ex,goInt]
end
theorem nJ:∀(es:List ae) (sz i:Nat) (e:ae),(∀e,e∈es→e.cells.length=sz)→es[i]? =some e→∀j,j<sz→(es.flatMap ae.cells)[i*sz+j]? =e.cells[j]?
 |[],_,_,_,_,h,_,_=>by simp at h
 |x::es,sz,i,e,bN,h,j,cX=>by
  have a5:=bN x (by simp);simp only[List.flatMap_cons];cases i with
  |zero=>simp at h;subst h;rw[gm (by omega)];simp
  |succ i=>rw[i7 (by rw[a5,Nat.succ_mul];omega),a5,show(i+1)*sz+j-sz=i*sz+j by rw[Nat.succ_mul];omega];exact nJ es sz i e (fun e he=>bN e (by simp [he])) (by simpa using h) j cX
theorem e6:∀(es:List ae) (sz:Nat),(∀e,e∈es→e.cells.length=sz)→(es.flatMap ae.cells).length=es.length*sz
 |[],sz,_=>by simp
 |x::es,sz,bN=>by simp only[List.flatMap_cons,gL,bP,bN x (by simp),e6 es sz (fun e he=>bN e (by simp [he])),Nat.succ_mul];omega
theorem dC.hE{κ:bj}{D sz:Nat}{es:List ae}{g:eZ}{x:Value}(h:dC κ D (.bW sz es g) x):(es=[]∧g=.nil∧x=.slice none 0 0)∨
  ∃(a:Addr) (cap:Nat) (dt:Nat→Value),x=.slice (some a) es.length cap∧iF κ D sz g es.length a cap∧es.length≤cap∧(es≠[]→a.spot=none)∧(∀e,e∈es→e.cells.length=sz)∧uX g es∧
   (∀j,j<(es.flatMap ae.cells).length→κ.F (a.add j)=some (dt j))∧∀(j:Nat) (c:ae),(es.flatMap ae.cells)[j]? =some c→dC κ D c (dt j):=by
 cases h with
 |kQ=>exact .inl ⟨rfl,rfl,rfl⟩
 |bW=>exact .inr ⟨_,_,_,rfl,by assumption,by assumption,by assumption,by assumption,by assumption,by assumption,by assumption⟩
section
variable{P:Program}{ty:TypeId}{ρ:Operand→Value}{κ:bj}{s:ag}{w:World}(a7:c5 κ s w)
include a7
theorem zi{E:Env}(bs:E.F=.not){k:ae→ag→ah}{r:ah}(br:r≠.fail){t e:TypeId}{x y:Operand}{v i:ae}{sz:Nat}(ed:P.underlying t=some (.slice e))(g8:fg P e=some sz)
  (a5:dC κ (s.aa+1) (v.ap s.aa) (ρ x))(bL:dC κ (s.aa+1) (i.ap s.aa) (ρ y))(aU:kK E s k sz v i=r):∃fL,k fL s=r∧dN P (.indexAddr t x y) ty ρ κ s w fL s:=by
 unfold kK at aU;cases B:e1 i with
 |none=>rw[B] at aU;exact absurd aU.symm br
 |some m=>
  rw[B] at aU;obtain⟨ev,rfl⟩:=jh B;have H:=bL.eD;have run:∀(a:Addr) (len cap:Nat),ρ x=.slice (some a) len cap→m<len→∀dst pos after guard,(execOp ρ ⟨dst,.indexAddr t x y,ty,pos,after,guard⟩).run P w=.ok (.value (.pointer (some (a.add (m*sz))))) w:=by intro a len cap u hm dst pos after guard;simp [execOp,Instr.indexAt,run_underlying ed,u,H,asIntOf,hm,eE g8]
  cases v<;> simp only[ae.ap] at a5<;> simp only[bs,aX.not] at aU<;> try exact absurd aU.symm br
  case bW z es g=>
   obtain⟨A,h⟩:=c2 aU br;clear aU;obtain rfl:z=sz:=dh A;cases he:es[m]? with
   |none=>rw[he] at h;exact absurd h.symm br
   |some el=>
    rw[he] at h;simp only at h;refine⟨_,h,?_⟩;have hm:=(ec.1 he).1;rcases a5.hE with⟨rfl,_,_⟩|⟨a,cap,dt,ex,ar,av,bV,dD,M,I,J⟩
    ·simp at he
    ·refine bG a7 _ (run a _ _ ex hm) ?_;have iH:=dD el (List.mem_of_getElem? he);have K:=e6 es z dD;refine .bh _ _ (fun j=>dt (m*z+j)) (mx (bV (fun ma=>by simp_all)) _) (fun j cX=>?_) (fun j c aY=>?_)
     ·rw[add_add];refine I _ ?_;rw[K]
      have:(m+1)*z≤es.length*z:=fZ _ hm;rw[Nat.succ_mul] at this;omega
     ·have cX:j<z:=by rw[←iH];exact(ec.1 aY).1
      exact J _ c (by rw[nJ es z m el dD he j cX];exact aY)
  case cO a off len cap z=>
   obtain⟨A,h⟩:=c2 aU br;clear aU;rw[bl] at A;obtain rfl:z=sz:=dh A.1;have hm:m<len:=by simpa [Nat.blt_eq] using A.2
   refine⟨_,h,?_⟩;cases u:a.ap s.aa with
   |l i=>cases a<;> simp [Loc.ap] at u
   |g d j=>rw[u] at a5;obtain⟨lU,hX,cP,cX,_⟩:=a5.jW;refine bG a7 _ (run _ _ _ hX hm) ?_;simp only[ae.ap,u,f6 (show(⟨κ.loc d j,off,none⟩:Addr).spot=none from rfl)];exact .ref d j _ cP cX
theorem xC{E:Env}(bs:E.F=.not){k:ae→ag→ah}{r:ah}(br:r≠.fail){t e:TypeId}{x y:Operand}{v i:ae}{sz len:Nat}(ed:P.underlying t=some (.array len e))(g8:fg P e=some sz)
  (a5:dC κ (s.aa+1) (v.ap s.aa) (ρ x))(bL:dC κ (s.aa+1) (i.ap s.aa) (ρ y))(aU:hM E s k sz len v i=r):∃fL,k fL s=r∧dN P (.indexAddr t x y) ty ρ κ s w fL s:=by
 unfold hM at aU;cases A:e1 i with
 |none=>rw[A] at aU;exact absurd aU.symm br
 |some m=>
  rw[A] at aU;obtain⟨ev,rfl⟩:=jh A;have B:=bL.eD;obtain⟨H,u⟩:=c2 aU br;clear aU;have hm:m<len:=by simpa [Nat.blt_eq] using H
  have run:∀(a:Addr),ρ x=.pointer (some a)→∀dst pos after guard,(execOp ρ ⟨dst,.indexAddr t x y,ty,pos,after,guard⟩).run P w=.ok (.value (.pointer (some (a.add (m*sz))))) w:=by intro a h dst pos after guard;simp [execOp,Instr.indexAt,run_underlying ed,h,B,asIntOf,hm,eE g8,Instr.sureAddr]
  cases v<;> simp only[ae.ap] at a5<;> simp only[bs,aX.not] at u<;> try exact absurd u.symm br
  case bh cs=>obtain⟨a,dt,hX,ar,av,bV⟩:=a5.sK;refine⟨_,u,bG a7 _ (run a hX) ?_⟩;refine .bh _ _ (fun j=>dt (m*sz+j)) (mx ar _) (fun j cX=>?_) (fun j c aY=>bV _ c (by simpa using aY));rw[add_add];exact av _ (by simp at cX;omega)
  case ref a o=>
   refine⟨_,u,?_⟩;cases h:a.ap s.aa with
   |l i=>cases a<;> simp [Loc.ap] at h
   |g d j=>rw[h] at a5;obtain⟨hX,cP,cX⟩:=a5.mC;refine bG a7 _ (run _ hX) ?_;simp only[ae.ap,h,f6 (show(⟨κ.loc d j,o,none⟩:Addr).spot=none from rfl)];exact .ref d j _ cP cX
omit a7 in
theorem sQ{v:ae}{m y:Nat}{x:Value}{D:Nat}(h:e1 v=some m)(a5:dC κ D v x)(hm:m≤y)(code:BoundsCode):(Instr.sliceBound x y code).run P w=.ok m w:=by obtain⟨ev,rfl⟩:=jh h;rw[a5.eD];simp [Instr.sliceBound,asIntOf,hm]
omit a7 in
theorem Et{v:ae}{m:Nat}(h:e1 v=some m)(d:Nat):v.ap d=v:=by obtain⟨ev,rfl⟩:=jh h;rfl
omit a7 in
theorem Ba{G:Nat→ae}{ao:Nat→ae}{a:Act}(b2:xo κ s ao a)(dV:ko κ G){o:Option bF}{p:Option Operand}(h:fy o p=true){r m:Nat}(e:dG G ao o r=some m):
  (o=none∧p=none∧m=r)∨∃x y v,o=some x∧p=some y∧e1 v=some m∧dC κ (s.aa+1) v (a.eval y):=by
 cases o with
 |none=>cases p with
  |none=>simp [dG] at e;exact .inl ⟨rfl,rfl,e.symm⟩
  |some y=>simp [fy] at h
 |some x=>cases p with
  |none=>simp [fy] at h
  |some y=>simp only[dG] at e;have bM:=bu b2 dV (show cH x y=true by simpa [fy] using h);rw[Et e] at bM;exact .inr ⟨x,y,_,rfl,rfl,e,bM⟩
omit a7 in
theorem qB{G:Nat→ae}{ao:Nat→ae}{a:Act}(b2:xo κ s ao a)(dV:ko κ G){o:Option bF}{p:Option Operand}(h:fy o p=true){e m:Nat}(r:dG G ao o e=some m):
  (o=none∧p=none∧m=e)∨∃x y,o=some x∧p=some y∧∀(Y:Nat) (code:BoundsCode),m≤Y→(Instr.sliceBound (a.eval y) Y code).run P w=.ok m w:=by
 rcases Ba b2 dV h r with ar|⟨x,y,v,ar,av,bV,dD⟩
 ·exact .inl ar
 ·exact .inr ⟨x,y,ar,av,fun Y code hm=>sQ bV dD hm code⟩
omit a7 in
theorem hy{G:Nat→ae}{ao:Nat→ae}{a:Act}(b2:xo κ s ao a)(dV:ko κ G){gg bL iK:Option bF}{e r u:Option Operand}(y:fy gg e=true)(A:fy bL r=true)(B:fy iK u=true)
  {l h m len cap:Nat}(mb:dG G ao gg 0=some l)(F:dG G ao bL len=some h)(H:dG G ao iK cap=some m)(ar:l≤h)(av:h≤m)(bV:m≤cap)(I:iK.isSome=true→bL.isSome=true)(J:Bool):
  (Instr.sliceBounds J len cap (e.map a.eval) (r.map a.eval) (u.map a.eval)).run P w=.ok (l,h,m) w:=by
 have K:h≤cap:=by omega
 rcases qB (P:=P) (w:=w) b2 dV y mb with⟨rfl,rfl,rfl⟩|⟨M,N,rfl,rfl,O⟩ <;>
 rcases qB (P:=P) (w:=w) b2 dV A F with⟨rfl,rfl,rfl⟩|⟨U,V,rfl,rfl,Y⟩ <;>
 rcases qB (P:=P) (w:=w) b2 dV B H with⟨rfl,rfl,rfl⟩|⟨Z,aa,rfl,rfl,ab⟩ <;>
 first
  |(simp at I;done)
  |simp (discharger:=omega) [Instr.sliceBounds, *]
end
section
variable{P:Program}{ty:TypeId}{ρ:Operand→Value}{κ:bj}{s:ag}{w:World}(a7:c5 κ s w)
theorem nK(a:ByteArray)(l h:Nat):(a.extract l h).data.toList=(a.data.toList.drop l).take (h-l):=by simp [List.extract_eq_take_drop]
include a7
theorem xD{E:Env}(bs:E.F=.not){k:ae→ag→ah}{r:ah}(br:r≠.fail){ao:Nat→ae}{a:Act}(b2:xo κ s ao a)(dV:ko κ E.au){t:TypeId}{x:bF}{y:Operand}{gg bL:Option bF}{A B:Option Operand}(ed:P.underlying t=some .string)
  (I:cH x y=true)(J:fy gg A=true)(K:fy bL B=true)(aU:jQ E ao s k (aq E.au ao x) gg bL=r):∃fL,k fL s=r∧dN P (.slice t y A B none) ty a.eval κ s w fL s:=by
 have a5:=bu b2 dV I;generalize bM:aq E.au ao x=v at a5 aU;cases v<;> simp only[ae.ap] at a5<;> simp only[jQ] at aU<;> try exact absurd aU.symm br
 rename_i e8;cases mb:dG E.au ao gg 0 with
 |none=>simp only[mb] at aU;exact absurd aU.symm br
 |some l=>
  cases e:dG E.au ao bL e8.length with
  |none=>simp only[mb,e] at aU;exact absurd aU.symm br
  |some h=>
   simp only[mb,e,bs,aX.not] at aU;obtain⟨u,M⟩:=c2 aU br;rw[bl] at u;have ar:=dW u.1;have av:=dW u.2;obtain⟨c,ex,aY⟩:=a5.ia;have e3:c.size=e8.length:=by have:=congrArg List.length aY;rw[ep,Array.length_toList] at this;exact this
   refine⟨_,M,bG a7 (.string (c.extract l h)) (fun _ _ _ _=>?_) (.str _ _ ?_)⟩
   ·have H:=hy (P:=P) (w:=w) b2 dV J K (show fy none none=true from rfl) (len:=c.size) (cap:=c.size) mb (by rw[e3];exact e) (m:=c.size) rfl ar (by omega) (aD _) (by simp) false;simp only[Option.map_none] at H;simp [execOp,Instr.sliceAt,Instr.slice,run_underlying ed,ex,H]
   ·rw[nK,List.map_take,List.map_drop,aY]
theorem xE{E:Env}(bs:E.F=.not){k:ae→ag→ah}{r:ah}(br:r≠.fail){ao:Nat→ae}{a:Act}(b2:xo κ s ao a)(dV:ko κ E.au){t e:TypeId}{sz n:Nat}{x:bF}{y:Operand}{gg bL iK:Option bF}{B H I:Option Operand}(ed:P.underlying t=some (.array n e))(g8:fg P e=some sz)
  (N:cH x y=true)(O:fy gg B=true)(U:fy bL H=true)(V:fy iK I=true)(Y:iK.isSome=true→bL.isSome=true)(aU:iD E ao s k sz n (aq E.au ao x) gg bL iK=r):∃fL,k fL s=r∧dN P (.slice t y B H I) ty a.eval κ s w fL s:=by
 have a5:=bu b2 dV N;generalize bM:aq E.au ao x=v at a5 aU;have run:∀(A:Addr) (l h m:Nat),a.eval y=.pointer (some A)→(Instr.sliceBounds false n n (B.map a.eval) (H.map a.eval) (I.map a.eval)).run P w=.ok (l,h,m) w→∀dst pos after guard,(execOp a.eval ⟨dst,.slice t y B H I,ty,pos,after,guard⟩).run P w=.ok (.value (.slice (some (if m=l then A else A.add (l*sz))) (h-l) (m-l))) w:=by intro A l h m ex u dst pos after guard;simp [execOp,Instr.sliceAt,run_underlying ed,ex,u,eE g8,Instr.sureAddr]
 cases v<;> simp only[ae.ap] at a5<;> simp only[iD] at aU<;> try exact absurd aU.symm br
 rename_i b off;cases mb:dG E.au ao gg 0 with
 |none=>simp only[mb] at aU;exact absurd aU.symm br
 |some l=>
  cases J:dG E.au ao bL n with
  |none=>simp only[mb,J] at aU;exact absurd aU.symm br
  |some h=>
   cases K:dG E.au ao iK n with
   |none=>simp only[mb,J,K] at aU;exact absurd aU.symm br
   |some m=>
    simp only[mb,J,K,bs,aX.not] at aU;obtain⟨u,Z⟩:=c2 aU br;simp only[bl] at u;have ar:=dW u.1.1;have av:=dW u.1.2;have bV:=dW u.2;refine⟨_,Z,?_⟩;cases M:b.ap s.aa with
    |l i=>cases b<;> simp [Loc.ap] at M
    |g d j=>
     rw[M] at a5;obtain⟨ex,cP,cX⟩:=a5.mC;have ab:=hy (P:=P) (w:=w) b2 dV O U V (len:=n) (cap:=n) mb J K ar av bV Y false;refine bG a7 _ (run _ _ _ _ ex ab) ?_;simp only[ae.ap,M]
     have:(if m=l then(⟨κ.loc d j,off,none⟩:Addr) else(⟨κ.loc d j,off,none⟩:Addr).add (l*sz))=⟨κ.loc d j,if m=l then off else off+l*sz,none⟩:=by
      split
      ·rfl
      ·simp [f6]
     rw[this];exact .cO d j _ _ _ _ sz cP cX (by omega) (.inl rfl)
omit a7 in
theorem uX.left{g:eZ}{es:List ae}(h:uX g es)(cb:∀d j,g≠.dx (.g d j)):∀e,e∈es→e.bc=true:=by
 rcases h with h|⟨d,j,e,_⟩
 ·exact h
 ·exact absurd e (cb d j)
omit a7 in
theorem uX.part{g':eZ}{es:List ae}(h:∀e,e∈es→e.bc=true)(l n:Nat):uX g' ((es.drop l).take n):=.inl fun e he=>h e (List.mem_of_mem_drop (List.mem_of_mem_take he))
theorem zj{E:Env}(bs:E.F=.not){k:ae→ag→ah}{r:ah}(br:r≠.fail){ao:Nat→ae}{a:Act}(b2:xo κ s ao a)(dV:ko κ E.au){t e:TypeId}{sz:Nat}{x:bF}{y:Operand}{gg bL iK:Option bF}{ac ad N:Option Operand}(ed:P.underlying t=some (.slice e))(g8:fg P e=some sz)
  (ax:cH x y=true)(af:fy gg ac=true)(ai:fy bL ad=true)(O:fy iK N=true)(am:iK.isSome=true→bL.isSome=true)(aU:j3 E ao s k sz (aq E.au ao x) gg bL iK=r):∃fL,k fL s=r∧dN P (.slice t y ac ad N) ty a.eval κ s w fL s:=by
 have a5:=bu b2 dV ax;generalize bM:aq E.au ao x=v at a5 aU;have run:∀(A:Option Addr) (len cap l h m:Nat),a.eval y=.slice A len cap→(Instr.sliceBounds true len cap (ac.map a.eval) (ad.map a.eval) (N.map a.eval)).run P w=.ok (l,h,m) w→∀dst pos after guard,(execOp a.eval ⟨dst,.slice t y ac ad N,ty,pos,after,guard⟩).run P w=.ok (.value (.slice (if m=l then A else A.map (·.add (l*sz))) (h-l) (m-l))) w:=by intro A len cap l h m ex u dst pos after guard;simp [execOp,Instr.sliceAt,Instr.slice,run_underlying ed,ex,u,eE g8]
 cases v<;> simp only[ae.ap] at a5<;> simp only[j3] at aU<;> try exact absurd aU.symm br
 case bW z es g=>
  cases mb:dG E.au ao gg 0 with
  |none=>simp only[mb] at aU;exact absurd aU.symm br
  |some l=>
   cases B:dG E.au ao bL es.length with
   |none=>simp only[mb,B] at aU;exact absurd aU.symm br
   |some h=>
    simp only[mb,B,bs,aX.not] at aU;have part:∀(A:Addr) (cap:Nat) (dt:Nat→Value) (g':eZ),(es≠[]→A.spot=none)→(∀e,e∈es→e.cells.length=sz)→uX (g'.ap s.aa) ((es.drop l).take (h-l))→
      (∀j,j<(es.flatMap ae.cells).length→κ.F (A.add j)=some (dt j))→(∀(j:Nat) (c:ae),(es.flatMap ae.cells)[j]? =some c→dC κ (s.aa+1) c (dt j))→l≤h→h≤es.length→∀m,h≤m→
      iF κ (s.aa+1) sz (g'.ap s.aa) (h-l) (if m=l then A else A.add (l*sz)) (m-l)→g'.ap s.aa≠.nil→
      dC κ (s.aa+1) ((ae.bW sz ((es.drop l).take (h-l)) g').ap s.aa) (.slice (some (if m=l then A else A.add (l*sz))) (h-l) (m-l)):=by
     intro A cap dt g' U dD H V Y aJ ay m aK cb I;have hlen:((es.drop l).take (h-l)).length=h-l:=by simp;omega
     simp only[ae.ap];have ji:∀e,e∈(es.drop l).take (h-l)→e∈es:=fun e he=>List.mem_of_mem_drop (List.mem_of_mem_take he)
     have az:=e6 es sz dD;have an:=e6 _ sz (fun e he=>dD e (ji e he));have aA:∀j,j<(h-l)*sz→((((es.drop l).take (h-l))).flatMap ae.cells)[j]? =(es.flatMap ae.cells)[l*sz+j]?:=by
      intro j cX;have aB:0<sz:=Nat.pos_of_ne_zero (fun eS=>by rw[eS] at cX;simp at cX);have fE:j/sz<h-l:=Nat.div_lt_of_lt_mul (by rw[ez];exact cX);have io:j%sz<sz:=Nat.mod_lt _ aB;have u2:j=j/sz*sz+j%sz:=by rw[ez];exact(Nat.div_add_mod j sz).symm
      have hle:l+j/sz<es.length:=by omega
      have dH:((es.drop l).take (h-l))[j/sz]? =some es[l+j/sz]:=by rw[List.getElem?_take,if_pos fE,List.getElem?_drop,ei hle]
      have aC:es[l+j/sz]? =some es[l+j/sz]:=ei hle;have f1:=nJ _ sz _ _ (fun e he=>dD e (ji e he)) dH (j%sz) io;have f2:=nJ es sz _ _ dD aC (j%sz) io;rw[←u2] at f1;rw[f1,←f2];congr 1;rw[e9];omega
     by_cases aw:m=l
     ·have eS:h-l=0:=by omega
      rw[if_pos aw] at cb ⊢;have aE:(es.drop l).take (h-l)=[]:=by rw[eS];simp
      rw[aE];rw[eS] at cb ⊢;exact .bW sz [] _ A _ dt cb (Nat.zero_le _) (fun h=>absurd rfl h) (fun e he=>by simp at he) (.inl fun e he=>by simp at he) (fun j cX=>by simp at cX) (fun j c aY=>by simp at aY)
     ·rw[if_neg aw] at cb ⊢;have key:dC κ (s.aa+1) (ae.bW sz ((es.drop l).take (h-l)) (g'.ap s.aa)) (.slice (some (A.add (l*sz))) ((es.drop l).take (h-l)).length (m-l)):=by
       refine .bW sz _ _ _ _ (fun j=>dt (l*sz+j)) (by rw[hlen];exact cb) (by rw[hlen];omega) (fun eR=>mx (U (fun ma=>eR (by simp [ma]))) _) (fun e he=>dD e (ji e he)) H (fun j cX=>?_) (fun j c aY=>?_)
       ·rw[add_add];refine V _ ?_;rw[an,hlen] at cX;rw[az]
        have:h*sz≤es.length*sz:=fZ _ ay;have aL:l*sz+(h-l)*sz=h*sz:=by rw[←e9];congr 1;omega
        omega
       ·have cX:=(ec.1 aY).1;rw[an,hlen] at cX;rw[aA j cX] at aY;exact Y _ c aY
      rw[hlen] at key;exact key
    cases iK with
    |none=>
     cases N with
     |some y=>simp [fy] at O
     |none=>
     simp only at aU;obtain⟨u,Z⟩:=c2 aU br;rw[bl,bl,bl] at u;have ab:z=sz:=(dh u.1.1.1).symm;subst ab;have ar:=dW u.1.1.2;have av:=dW u.1.2;have aj:=u.2;refine⟨_,Z,?_⟩;rcases a5.hE with⟨rfl,cb,ex⟩|⟨A,cap,dt,ex,cb,dm,U,dD,H,V,Y⟩
     ·have I:g=.nil:=by cases g<;> simp_all [eZ.ap]
      subst I;simp only[cB,Nat.le_zero_eq] at av;subst av;simp only[Nat.le_zero_eq] at ar;subst ar;have K:=hy (P:=P) (w:=w) b2 dV af ai O (len:=0) (cap:=0) mb B (m:=0) rfl (aD _) (aD _) (aD _) (by simp) true;exact bG a7 _ (run _ _ _ _ _ _ ex K) (by simp;exact .kQ z)
     ·have K:=hy (P:=P) (w:=w) b2 dV af ai O (len:=es.length) (cap:=cap) mb B (m:=cap) rfl ar (by omega) (aD _) (by simp) true;refine bG a7 _ (run _ _ _ _ _ _ ex K) ?_;have fz:=fun g' aF ak I=>part A cap dt g' U dD aF V Y ar av cap (by omega) ak I
      have dH:(if cap=l then some A else Option.map (fun x=>x.add (l*z)) (some A))=some (if cap=l then A else A.add (l*z)):=by split<;> rfl
      rw[dH];cases g with
      |nil=>simp [eZ.ap,iF] at cb
      |any=>exact fz .any (.part (H.left (by simp [eZ.ap])) l (h-l)) trivial (by simp [eZ.ap])
      |exact=>
       simp only[eZ.ap,iF] at cb;subst cb;by_cases J:h=es.length
       ·subst J;simp only[↓reduceIte];exact fz .exact (.part (H.left (by simp [eZ.ap])) l _) rfl (by simp [eZ.ap])
       ·simp only[J,↓reduceIte];exact fz .any (.part (H.left (by simp [eZ.ap])) l (h-l)) trivial (by simp [eZ.ap])
      |dx b=>
       by_cases J:l=0∧h=es.length
       ·obtain⟨rfl,rfl⟩:=J;simp only[true_and,↓reduceIte];refine fz (.dx b) (by simpa using H) ?_ (by simp [eZ.ap]);simp only[Nat.sub_zero,Nat.zero_mul,Addr.add,↓reduceIte];simpa using cb
       ·have sR:∀e,e∈es→e.bc=true:=by
         simp only[pN,Bool.or_eq_true,bl] at aj;rcases aj with⟨aG,aH⟩|q
         ·exact absurd ⟨dh aG,dh aH⟩ J
         ·exact ef.1 q
        simp only[J,↓reduceIte];exact fz .any (.part sR l (h-l)) trivial (by simp [eZ.ap])
    |some aI=>
     cases N with
     |none=>simp [fy] at O
     |some aM=>
     cases M:e1 (aq E.au ao aI) with
     |none=>simp only[M] at aU;cases g<;> simp only at aU<;> exact absurd aU.symm br
     |some m=>
      simp only[M] at aU;have I:g≠.nil:=by rintro rfl;exact absurd aU.symm br
      have io:(bif Nat.beq sz z&&Nat.ble l h&&Nat.ble h m&&Nat.ble m es.length&&uU g es then k (.bW z ((es.drop l).take (h-l)) (if h=m then .exact else .any)) s else .fail)=r:=by cases g<;> first|exact absurd rfl I|exact aU
      obtain⟨u,Z⟩:=c2 io br;simp only[bl] at u;have ab:z=sz:=(dh u.1.1.1.1).symm;subst ab;have ar:=dW u.1.1.1.2;have av:=dW u.1.1.2;have bV:=dW u.1.2;have aj:=u.2;refine⟨_,Z,?_⟩;rcases a5.hE with⟨rfl,cb,ex⟩|⟨A,cap,dt,ex,cb,dm,U,dD,H,V,Y⟩
      ·exact absurd (by cases g<;> simp_all [eZ.ap]) I
      ·have K:=hy (P:=P) (w:=w) b2 dV af ai O (len:=es.length) (cap:=cap) mb B (m:=m) M ar av (by omega) am true;refine bG a7 _ (run _ _ _ _ _ _ ex K) ?_;have sR:∀e,e∈es→e.bc=true:=by
        cases g with
        |dx b=>exact ef.1 aj
        |nil=>exact H.left (by simp [eZ.ap])
        |exact=>exact H.left (by simp [eZ.ap])
        |any=>exact H.left (by simp [eZ.ap])
       have fz:=fun g' ak I=>part A cap dt g' U dD (.part sR l (h-l)) V Y ar (by omega) m av ak I
       have dH:(if m=l then some A else Option.map (fun x=>x.add (l*z)) (some A))=some (if m=l then A else A.add (l*z)):=by split<;> rfl
       rw[dH];by_cases J:h=m
       ·subst J;simp only[↓reduceIte];exact fz .exact rfl (by simp [eZ.ap])
       ·simp only[J,↓reduceIte];exact fz .any trivial (by simp [eZ.ap])
 case cO b off len cap z=>
  cases mb:dG E.au ao gg 0 with
  |none=>simp only[mb] at aU;exact absurd aU.symm br
  |some l=>
   cases B:dG E.au ao bL len with
   |none=>simp only[mb,B] at aU;exact absurd aU.symm br
   |some h=>
    cases M:dG E.au ao iK cap with
    |none=>simp only[mb,B,M] at aU;exact absurd aU.symm br
    |some m=>
     simp only[mb,B,M,bs,aX.not] at aU;obtain⟨u,Z⟩:=c2 aU br;simp only[bl] at u;have ab:z=sz:=(dh u.1.1.1.1).symm;subst ab;have ar:=dW u.1.1.1.2;have av:=dW u.1.1.2;have bV:=dW u.1.2;have ub:=dW u.2;refine⟨_,Z,?_⟩;cases al:b.ap s.aa with
     |l i=>cases b<;> simp [Loc.ap] at al
     |g d j=>
      rw[al] at a5;obtain⟨ex,cP,cX⟩:=a5.KX ub;have K:=hy (P:=P) (w:=w) b2 dV af ai O (len:=len) (cap:=cap) mb B M ar av bV am true;refine bG a7 _ (run _ _ _ _ _ _ ex K) ?_;simp only[ae.ap,al]
      have:(if m=l then some (⟨κ.loc d j,off,none⟩:Addr) else Option.map (fun(x:Addr)=>x.add (l*z)) (some ⟨κ.loc d j,off,none⟩))=some ⟨κ.loc d j,if m=l then off else off+l*z,none⟩:=by
       split
       ·rfl
       ·simp [f6]
      rw[this];exact .cO d j _ _ _ _ z cP cX (by omega) (.inl rfl)
end
theorem zk(l:List Value):∀(n:Nat) (cs:Array Value) (off:Nat),(l.zipIdx n).foldl (fun cs (p:Value×Nat)=>cs.setIfInBounds (off+p.2) p.1) cs=(dL cs.toList (off+n) l).toArray:=by
 induction l with
 |nil=>intro n cs off;simp [dL]
 |cons v l e=>intro n cs off;simp only[List.zipIdx_cons,List.foldl_cons,dL];rw[e (n+1)];congr 1;simp [Array.toList_setIfInBounds,Nat.add_assoc]
theorem p8(C:Array Value)(cs:Array Value)(off:Nat):C.zipIdx.foldl (fun cs (p:Value×Nat)=>cs.setIfInBounds (off+p.2) p.1) cs=(dL cs.toList off C.toList).toArray:=by rw[←Array.foldl_toList,Array.toList_zipIdx,zk];simp
section
variable{P:Program}{ty:TypeId}{ρ:Operand→Value}{κ:bj}{s:ag}{w:World}(a7:c5 κ s w)
def ky(place:Nat→Option (Nat×Nat)):List (Nat×Nat×bF)→List (Nat×Operand)→Bool
 |[],[]=>true
 |(off,sz,x)::eb,(i,y)::e=>(place i==some (off,sz))&&cH x y&&ky place eb e
 |_,_=>false
theorem vf{G:Nat→ae}{ao:Nat→ae}{a:Act}(b2:xo κ s ao a)(dV:ko κ G)(place:Nat→Option (Nat×Nat)):∀(eb:List (Nat×Nat×bF)) (A:List (Nat×Operand)) (cs u:List ae) (xs:List Value),
  ky place eb A=true→eu κ (s.aa+1) cs xs→fj G s.aa ao cs eb=some u→∃B,Instr.fill place xs.toArray (A.map fun p=>(p.1,a.eval p.2))=some B.toArray∧eu κ (s.aa+1) u B
 |[],[],cs,u,xs,_,h,br=>by simp only[fj,bm] at br;exact⟨xs,rfl,br ▸ h⟩
 |[],_::_,_,_,_,h,_,_=>by simp [ky] at h
 |_::_,[],_,_,_,h,_,_=>by simp [ky] at h
 |(off,sz,x)::eb,(i,y)::A,cs,u,xs,dk,h,br=>by
  simp only[ky,bl,beq_iff_eq] at dk;simp only[fj] at br;have a5:=bu b2 dV dk.1.2;generalize (aq G ao x).ap s.aa=v at a5 br;cases r:(v.fa&&Nat.beq v.cells.length sz&&Nat.ble (off+sz) cs.length) with
  |false=>rw[r] at br;simp at br
  |true=>
   rw[r,bH] at br;simp only[bl] at r;have bM:=a5.cells r.1.1;have ar:=dh r.1.2;have av:=dW r.2;have bV:=h.dL bM (o:=off) (by omega);obtain⟨B,e,F⟩:=vf b2 dV place eb A _ u _ dk.2 bV br;refine⟨B,?_,F⟩;have e3:(a.eval y).cells.size=sz:=by rw[←Array.length_toList,bM.1,ar]
   have hle:¬(off+(a.eval y).cells.size>xs.toArray.size):=by simp only[List.size_toArray,h.1,e3];omega
   have H:decide (off+(a.eval y).cells.size>xs.toArray.size)=false:=cA hle;have I:=p8 (a.eval y).cells xs.toArray off;simp only[fH,Instr.fill,dk.1.1,e3,ne_eq,not_true_eq_false,dF,Bool.false_or];rw[←e3,H];simp only[b4,↓reduceIte];rw[I];exact e
def j5(P:Program)(t:TypeId)(z:List ae):Bool:=
 match (P.info? t).bind (·.zero) with
 |some v=>m1 z v.cells.toList
 |none=>false
theorem kV{t:TypeId}{z:List ae}(h:j5 P t z=true)(w:World):∃v,(zeroValue t).run P w=.ok v w∧(∀κ D,eu κ D z v.cells.toList)∧ae.aZ z=true∧∃i,P.info? t=some i∧i.zero=some v:=by
 unfold j5 at h;cases bL:P.info? t with
 |none=>simp [bL] at h
 |some i=>
  cases g8:i.zero with
  |none=>simp [bL,g8] at h
  |some v=>simp only[bL,fF,g8] at h;obtain⟨ar,av⟩:=nr _ _ h;exact⟨v,by simp [zeroValue,typeInfo,bL,g8],ar,av,i,rfl,g8⟩
include a7
theorem vg{v:Value}{t:TypeId}{o:Op}{cs:List ae}(aY:eu κ (s.aa+1) cs v.cells.toList)(h:∀dst pos after guard,(execOp ρ ⟨dst,o,ty,pos,after,guard⟩).run P w=.ok (.value (.pointer (some ⟨w.heap.size,0,none⟩))) (w.alloc (.cells v.cells t))):
  dN P o ty ρ κ s w (.ref (.l s.own.length) 0) (s.new (.cells cs)):=by
 obtain⟨κ',ar,av,bV,dD⟩:=a7.o6 cs v.cells t aY (w':=w.alloc (.cells v.cells t)) rfl rfl rfl rfl;refine⟨_,κ',_,.inl h,av,ar,?_⟩;simp only[ae.ap,Loc.ap];rw[←bV];exact .ref _ _ _ (Nat.lt_succ_self _) dD
theorem zl{t:TypeId}{z:List ae}(g8:j5 P t z=true):dN P (.alloc t) ty ρ κ s w (.ref (.l s.own.length) 0) (s.new (.cells z)):=by obtain⟨v,e,ar,_,_⟩:=kV g8 w;exact vg a7 (v:=v) (t:=t) (ar _ _) (fun _ _ _ _=>by simp [execOp,Instr.alloc,e,newVar,newRow])
theorem xF{t:TypeId}{x:Operand}{v:ae}(a5:dC κ (s.aa+1) (v.ap s.aa) (ρ x))(bM:v.fa=true):dN P (.box t x) ty ρ κ s w (.ref (.l s.own.length) 0) (s.new (.cells (v.ap s.aa).cells)):=
 vg a7 (v:=ρ x) (t:=t) (a5.cells (by rw[u7];exact bM)) (fun _ _ _ _=>by simp [execOp,Instr.box,newVar,newRow])
theorem p9{C:Array Value}{t:TypeId}{o:Op}{cs:List ae}(aY:eu κ (s.aa+1) cs C.toList)(x:Addr→Value)(v:ae)(e:∀κ',gV κ κ' (s.aa+1)→(∀j,j<cs.length→κ'.F ⟨w.heap.size,j,none⟩=C[j]?)→dC κ' (s.aa+1) (v.ap s.aa) (x ⟨w.heap.size,0,none⟩))
  (h:∀dst pos after guard,(execOp ρ ⟨dst,o,ty,pos,after,guard⟩).run P w=.ok (.value (x ⟨w.heap.size,0,none⟩)) (w.alloc (.cells C t))):dN P o ty ρ κ s w v s:=by
 obtain⟨ar,av⟩:=a7.q4 (w':=w.alloc (.cells C t)) C t (0,0) rfl rfl rfl rfl;have bN:C.size=cs.length:=by simpa using aY.1
 refine⟨_,_,_,.inl h,av,ar,e _ av.k (fun j cX=>?_)⟩;rw[n9 (Nat.zero_le _) (by omega),Array.getElem?_eq_getElem (by omega)]
theorem zm{t:TypeId}{x:Operand}{v:ae}(a5:dC κ (s.aa+1) (v.ap s.aa) (ρ x))(bM:v.fa=true):dN P (.box t x) ty ρ κ s w (.bh (v.ap s.aa).cells) s:=by
 have aY:=a5.cells (by rw[u7];exact bM);refine p9 a7 (t:=t) aY (fun a=>.pointer (some a)) _ (fun κ' cZ h7=>?_) (fun _ _ _ _=>by simp [execOp,Instr.box,newVar,newRow]);refine .bh _ _ (fun j=>(ρ x).cells.getD j undef) rfl (fun j cX=>?_) (fun j c cX=>?_)
 ·rw[f6 rfl];simp only[bf];rw[h7 j cX]
  have:j<(ρ x).cells.size:=by have:=aY.1;simp at this;omega
  simp [Array.getD,this]
 ·obtain⟨y,eM,e⟩:=aY.get cX
  have:(ρ x).cells.getD j undef=y:=by
   have h:(ρ x).cells[j]? =some y:=by simpa using eM
   simp [Array.getD_eq_getD_getElem?,h]
  rw[this];exact e.mono cZ
theorem xG{f:Nat}{cs:List bF}{dI:List Operand}{G:Nat→ae}{ao:Nat→ae}{a:Act}(b2:xo κ s ao a)(dV:ko κ G)(h:dz cs dI=true):
  dN P (.makeFunc (.func f) #[] dI.toArray) ty a.eval κ s w (.fn f (cs.map fun x=>(aq G ao x).ap s.aa)) s:=by
 have key:∀(cs:List bF) (dI:List Operand),dz cs dI=true→eu κ (s.aa+1) (cs.map fun x=>(aq G ao x).ap s.aa) (dI.map a.eval):=by
  intro cs
  induction cs with
  |nil=>intro dI h;cases dI with
   |nil=>exact .nil _ _
   |cons _ _=>simp [dz] at h
  |cons c cs e=>intro dI h;cases dI with
   |nil=>simp [dz] at h
   |cons y r=>simp only[dz,bl] at h;exact .cons (bu b2 dV h.1) (e r h.2)
 have cZ:=key cs dI h;exact bG a7 (.func (.func f) #[] (dI.map a.eval).toArray) (fun _ _ _ _=>by simp [execOp,Instr.makeFunc]) (.fn f _ _ cZ.1 cZ.2)
theorem pZ{G:Nat→ae}{ao:Nat→ae}{a:Act}(b2:xo κ s ao a)(dV:ko κ G){t:TypeId}{z cs:List ae}{eb:List (Nat×Nat×bF)}{r:List (Nat×Operand)}{jJ:Array Field}(ed:P.underlying t=some (.struct jJ))(g8:j5 P t z=true)
  {pl:Array (Nat×Nat)}(u:(jJ.toList.mapM fun f=>(fg P f.type).map fun n=>(f.offset,n))=some pl.toList)(dk:ky (pl[·]?) eb r=true)(aY:fj G s.aa ao z eb=some cs):
  dN P (.build t r.toArray) ty a.eval κ s w (.agg cs) s:=by
 obtain⟨v,e,ar,_,_⟩:=kV g8 w;have y:∀(jJ:List Field) (pl:List (Nat×Nat)),(jJ.mapM fun f=>(fg P f.type).map fun n=>(f.offset,n))=some pl→(jJ.mapM fun f=>do pure (f.offset,←sizeOf f.type):Sem _).run P w=.ok pl w:=by
  intro jJ
  induction jJ with
  |nil=>intro pl h;simp at h;subst h;simp
  |cons f jJ A=>
   intro pl h;simp only[List.mapM_cons,Option.bind_eq_bind,Option.bind_eq_some_iff,Option.pure_def,bm] at h;obtain⟨p,fz,eb,B,rfl⟩:=h;cases e3:fg P f.type with
   |none=>simp [e3] at fz
   |some n=>
    simp only[e3,ej,bm] at fz;subst fz
    have:=A eb B;simp only[bind_pure_comp] at this;simp [List.mapM_cons,eE e3,this]
 have hm:(jJ.mapM fun f=>do pure (f.offset,←sizeOf f.type):Sem _).run P w=.ok pl w:=by
  rw[Array.mapM_eq_mapM_toList]
  have:=y jJ.toList pl.toList u;simp only[bind_pure_comp] at this;simp [this]
 obtain⟨F,hX,bM⟩:=vf b2 dV _ eb r z cs v.cells.toList dk (ar _ _) aY;refine bG a7 (.agg F.toArray) (fun _ _ _ _=>?_) (.agg _ _ bM.1 bM.2);simp only[Array.toArray_toList] at hX;simp only[bind_pure_comp] at hm;simp [execOp,Instr.build,e,run_underlying ed,hm,hX]
theorem qC{G:Nat→ae}{ao:Nat→ae}{a:Act}(b2:xo κ s ao a)(dV:ko κ G){t el:TypeId}{len sz:Nat}{z cs:List ae}{eb:List (Nat×Nat×bF)}{h:List (Nat×Operand)}(ed:P.underlying t=some (.array len el))(e3:fg P el=some sz)(g8:j5 P t z=true)
  (dk:ky (fun i=>some (i*sz,sz)) eb h=true)(aY:fj G s.aa ao z eb=some cs):
  dN P (.build t h.toArray) ty a.eval κ s w (.agg cs) s:=by
 obtain⟨v,e,ar,_,_⟩:=kV g8 w;obtain⟨r,hX,bM⟩:=vf b2 dV _ eb h z cs v.cells.toList dk (ar _ _) aY;refine bG a7 (.agg r.toArray) (fun _ _ _ _=>?_) (.agg _ _ bM.1 bM.2);simp only[Array.toArray_toList] at hX;simp [execOp,Instr.build,e,run_underlying ed,eE e3,hX]
omit a7 in
theorem m2{G:Nat→ae}{ao:Nat→ae}{a:Act}(b2:xo κ s ao a)(dV:ko κ G)(sz:Nat):∀(eb:List bF) (r:List Operand) (i:Nat) (es:List ae) (pre:List Value) (rest:List Value),
  dz eb r=true→es=eb.map (fun x=>(aq G ao x).ap s.aa)→(∀e,e∈es→e.fa=true∧e.cells.length=sz)→pre.length=i*sz→rest.length=r.length*sz→
  ∃xs,Instr.fill (fun i=>some (i*sz,sz)) (pre++rest).toArray ((r.zipIdx i).map fun p=>(p.2,a.eval p.1))=some (pre++xs).toArray∧eu κ (s.aa+1) (es.flatMap ae.cells) xs
 |[],[],i,es,pre,rest,_,he,_,_,aU=>by
  subst he
  have:rest=[]:=by simpa using aU
  subst this;exact⟨[],by simp [Instr.fill],.nil _ _⟩
 |[],_::_,_,_,_,_,h,_,_,_,_=>by simp [dz] at h
 |_::_,[],_,_,_,_,h,_,_,_,_=>by simp [dz] at h
 |x::eb,y::r,i,es,pre,rest,dk,he,u,fz,aU=>by
  simp only[dz,bl] at dk;subst he;have a5:=bu b2 dV dk.1;obtain⟨ar,av⟩:=u ((aq G ao x).ap s.aa) (by simp);have bM:=a5.cells ar;have e3:(a.eval y).cells.toList.length=sz:=by rw[bM.1,av]
  have sR:rest.length=sz+r.length*sz:=by rw[aU,bP,Nat.succ_mul,Nat.add_comm]
  have F:dL (pre++rest) (i*sz) (a.eval y).cells.toList=(pre++(a.eval y).cells.toList)++rest.drop sz:=by
   apply List.ext_getElem?;intro j;rw[gQ _ _ _ (by simp only[gL];omega),e3];by_cases I:j<i*sz
   ·rw[if_neg (by omega),nk,gm (by omega),gm (by omega)]
   ·by_cases H:j<i*sz+sz
    ·rw[if_pos ⟨by omega,H⟩,nk,i7 (by omega),gm (by omega),fz]
    ·rw[if_neg (by omega),i7 (by omega),i7 (by simp only[gL];omega),List.getElem?_drop];congr 1;simp only[gL];omega
  obtain⟨xs,e,f7⟩:=m2 b2 dV sz eb r (i+1) _ (pre++(a.eval y).cells.toList) (rest.drop sz) dk.2 rfl (fun e he=>u e (by simp at he ⊢;exact .inr he)) (by simp only[gL,fz,e3,Nat.succ_mul]) (by simp only[List.length_drop];omega);refine⟨(a.eval y).cells.toList++xs,?_,by simpa using bM.append f7⟩;have A:(a.eval y).cells.size=sz:=by rw[←Array.length_toList];exact e3
  have hle:decide (i*sz+(a.eval y).cells.size>(pre++rest).toArray.size)=false:=cA (by simp only[List.size_toArray,gL];omega);have B:=p8 (a.eval y).cells (pre++rest).toArray (i*sz);rw[F] at B;simp only[List.zipIdx_cons,fH,Instr.fill,A,ne_eq,not_true_eq_false,dF,Bool.false_or];rw[A] at hle;rw[hle];simp only[b4,↓reduceIte];rw[B,e,nk]
omit a7 in
theorem lD{t el:TypeId}{sz n:Nat}{v:Value}{parts:Array (Nat×Value)}{xs:Array Value}(ed:P.underlying t=some (.slice el))(e3:fg P el=some sz)(bM:(zeroValue el).run P w=.ok v w)(gZ:¬(n*sz>2^24))
  (br:Instr.fill (fun i=>some (i*sz,sz)) ((Array.range (n*sz)).map (v.cells[· % v.cells.size]!)) parts.toList=some xs):(Instr.buildSlice t n parts).run P w=.ok (.slice (some ⟨w.heap.size,0,none⟩) n n) (w.alloc (.cells xs el)):=by
 unfold Instr.buildSlice;simp only[Sem.run_bind,run_underlying ed,Result.andThen_ok,eE e3];rw[if_neg gZ];by_cases eS:n*sz=0
 ·have ma:(Array.range (n*sz)).map (fun x=>(#[]:Array Value)[x%(#[]:Array Value).size]!)=(Array.range (n*sz)).map (v.cells[· % v.cells.size]!):=by
   rw[eS];simp
  rw[if_pos eS];simp only[Sem.run_bind,Sem.run_pure,Result.andThen_ok];rw[ma,br];simp [newRow]
 ·rw[if_neg eS];simp only[Sem.run_bind,bM,Result.andThen_ok,Sem.run_pure];rw[br];simp [newRow]
theorem ra{G:Nat→ae}{ao:Nat→ae}{a:Act}(b2:xo κ s ao a)(dV:ko κ G){t el:TypeId}{sz:Nat}{z:List ae}{eb:List bF}{r:List Operand}(ed:P.underlying t=some (.slice el))(e3:fg P el=some sz)(g8:j5 P el z=true)(F:z.length=sz)
  (gZ:¬(r.length*sz>2^24))(dk:dz eb r=true)(aU:ae.aZ (eb.map (aq G ao))=true)(bM:∀e,e∈eb.map (aq G ao)→e.fa=true∧e.cells.length=sz):
  dN P (.buildSlice t r.length (r.zipIdx.map fun p=>(p.2,p.1)).toArray) ty a.eval κ s w (.bW sz (eb.map (aq G ao)) .exact) s:=by
 obtain⟨v,e,ar,_,_⟩:=kV g8 w;have B:eb.map (fun x=>(aq G ao x).ap s.aa)=eb.map (aq G ao):=by apply List.map_congr_left;intro x a5;exact ju (ef.1 aU _ (List.mem_map_of_mem a5)) _
 have O:v.cells.size=sz:=by rw[←Array.length_toList,(ar κ 0).1,F]
 have hlen:(eb.map (aq G ao)).length=r.length:=by
  have:∀(eb:List bF) (r:List Operand),dz eb r=true→eb.length=r.length:=by
   intro eb
   induction eb with
   |nil=>intro r h;cases r<;> simp [dz] at h ⊢
   |cons p eb H=>intro r h;cases r with
    |nil=>simp [dz] at h
    |cons q r=>simp only[dz,bl] at h;simp [H r h.2]
  simp [this eb r dk]
 obtain⟨xs,hX,f7⟩:=m2 b2 dV sz eb r 0 (eb.map (aq G ao)) [] ((Array.range (r.length*sz)).map (v.cells[· % v.cells.size]!)).toList dk B.symm bM (by simp) (by simp);have u:∀dst pos after guard,(execOp a.eval ⟨dst,.buildSlice t r.length (r.zipIdx.map fun p=>(p.2,p.1)).toArray,ty,pos,after,guard⟩).run P w=.ok (.value (.slice (some ⟨w.heap.size,0,none⟩) r.length r.length)) (w.alloc (.cells xs.toArray el)):=by
  intro dst pos after guard;simp only[List.nil_append,Array.toArray_toList] at hX;have I:=lD (parts:=((r.zipIdx.map fun p=>(p.2,p.1)).toArray.map fun p=>(p.1,a.eval p.2))) ed e3 e gZ (xs:=xs.toArray) (by rw[Array.toList_map,List.map_map];exact hX)
  have a5:∀(o:Oper),o.op=.buildSlice t r.length (r.zipIdx.map fun p=>(p.2,p.1)).toArray→execOp a.eval o=(do pure (.value (←Instr.buildSlice t r.length ((r.zipIdx.map fun p=>(p.2,p.1)).toArray.map fun p=>(p.1,a.eval p.2)))):Sem Next):=by intro o J;unfold execOp;rw[J]
  rw[a5 _ rfl,Sem.run_bind,I];rfl
 have aY:eu κ (s.aa+1) ((eb.map (aq G ao)).flatMap ae.cells) xs.toArray.toList:=f7;generalize K:Op.buildSlice t r.length (r.zipIdx.map fun p=>(p.2,p.1)).toArray=op at u ⊢;generalize dm:r.length=n at u hlen;generalize U:eb.map (aq G ao)=es at aY hlen aU bM ⊢;clear K dm hX f7 B gZ dk;refine p9 a7 (t:=el) aY (fun A=>.slice (some A) n n) (.bW sz es .exact) (fun κ' cZ h7=>?_) u;simp only[ae.ap,eZ.ap];rw[←hlen];refine .bW sz _ .exact _ _ (fun j=>xs.getD j undef) rfl (aD _) (fun _=>rfl) (fun e he=>(bM e he).2) (.inl fun e he=>ef.1 aU e he) (fun j cX=>?_) (fun j c cX=>?_)
 ·rw[f6 rfl];simp only[bf];rw[h7 j cX];have bN:xs.length=(es.flatMap ae.cells).length:=aY.1
  have:j<xs.length:=by omega
  simp [List.getD,this]
 ·obtain⟨y,eM,M⟩:=aY.get cX
  have:xs.getD j undef=y:=by have N:xs[j]? =some y:=eM;simp [List.getD,N]
  rw[this];exact M.mono cZ
end
theorem xH(c:ae):(y8 c).cells=[c]:=by cases c<;> rfl
theorem fs(sz:Nat):∀(n:Nat) (cs:List ae),(chunk sz n cs).length=n
 |0,_=>rfl
 |n+1,cs=>by simp [chunk,fs sz n]
theorem kz(sz:Nat)(e3:sz≠0):∀(n:Nat) (cs:List ae),n*sz≤cs.length→(chunk sz n cs).flatMap ae.cells=cs.take (n*sz)∧∀e,e∈chunk sz n cs→e.cells.length=sz
 |0,cs,_=>by simp [chunk]
 |n+1,cs,h=>by
  rw[Nat.succ_mul] at h;obtain⟨ar,av⟩:=kz sz e3 n (cs.drop sz) (by simp;omega);have cP:(mn sz cs).cells=cs.take sz:=by
   unfold mn;split
   ·cases cs with
    |nil=>simp at h
    |cons c cs=>rw[xH];simp
   ·rfl
  have bN:(cs.take sz).length=sz:=by simp;omega
  refine⟨?_,?_⟩
  ·simp only[chunk,List.flatMap_cons];rw[cP,ar,Nat.succ_mul,Nat.add_comm,←List.take_add]
  ·intro e he;simp only[chunk,List.mem_cons] at he;rcases he with rfl |he
   ·rw[cP,bN]
   ·exact av e he
section
variable{P:Program}{ty:TypeId}{ρ:Operand→Value}{κ:bj}{s:ag}{w:World}(a7:c5 κ s w)
include a7
theorem uc{v:ae}{x:Operand}(a5:dC κ (s.aa+1) (v.ap s.aa) (ρ x))(dm:isNil v=some false):dN P (.nilCheck x) ty ρ κ s w v s:=by
 refine bG a7 (ρ x) (fun dst pos after guard=>?_) a5;generalize eM:ρ x=y at a5;generalize bM:v.ap s.aa=fL at a5;have e:isNil fL=some false:=by
  rw[←bM];cases v with
  |bW sz es g=>cases g<;> first|exact dm|(simp [isNil] at dm)
  |_=>exact dm
 cases a5<;> simp [isNil] at e<;> simp [execOp,eM]
omit a7 in
theorem Eu{v:ae}(d:Nat):isNil (v.ap d)=isNil v:=by
 cases v with
 |bW sz es g=>cases g<;> rfl
 |_=>rfl
omit a7 in
theorem Bb{e:Sl}{v:ae}(d:Nat):gX e (v.ap d)=gX e v:=by cases v<;> cases e<;> rfl
def qa(e:Sl)(d:TypeDesc):Bool:=
 match e,d with
 |.bool,.bool|.slice,.slice _|.ptr,.pointer _|.func,.func .. |.map,.map .. |.iface,.interface _=>true
 |_,_=>false
omit a7 in
theorem tj(t:TypeId)(X Y:Value):Op.equal t X Y=Op.equalIn (9999+1) t X Y:=rfl
inductive g0:TypeDesc→Value→Value→Bool→Prop
 |bool (a b:Bool):g0 .bool (.bool a) (.bool b) (a==b)
 |So (el:TypeId) (l c:Nat) (B:Option Addr) (l' n2:Nat):g0 (.slice el) (.slice none l c) (.slice B l' n2) B.isNone
 |Sp (el:TypeId) (a:Addr) (l c l' n2:Nat):g0 (.slice el) (.slice (some a) l c) (.slice none l' n2) false
 |aen (el:TypeId) (B:Option Addr):g0 (.pointer el) (.pointer none) (.pointer B) B.isNone
 |aeo (el:TypeId) (a:Addr):g0 (.pointer el) (.pointer (some a)) (.pointer none) false
 |func0 (p r:Array TypeId) (v:Bool):g0 (.func p r v) .nilFunc .nilFunc true
 |func1 (p r:Array TypeId) (v:Bool) (f:Fn) (x y:Array Value):g0 (.func p r v) .nilFunc (.func f x y) false
 |func2 (p r:Array TypeId) (v:Bool) (f:Fn) (x y:Array Value):g0 (.func p r v) (.func f x y) .nilFunc false
 |aep (k el:TypeId) (B:Option Nat):g0 (.map k el) (.map none) (.map B) B.isNone
 |aeq (k el:TypeId) (a:Nat):g0 (.map k el) (.map (some a)) (.map none) false
 |Sq (Bc:Array (String×TypeId)) (t:TypeId) (v:Value):g0 (.interface Bc) .nilIface (.iface t v) false
 |Hx (Bc:Array (String×TypeId)) (t:TypeId) (v:Value):g0 (.interface Bc) (.iface t v) .nilIface false
omit a7 in
theorem g0.run{t:TypeId}{d:TypeDesc}(ed:P.underlying t=some d){X Y:Value}{b:Bool}(h:g0 d X Y b):(Op.equal t X Y).run P w=.ok b w:=by rw[tj];generalize (9999:Nat)=n;cases h<;> simp only[Op.equalIn,Sem.run_bind,run_underlying ed,Result.andThen_ok,Sem.run_pure]
omit a7 in
theorem g0.guard{d:TypeDesc}{X Y:Value}{b:Bool}(h:g0 d X Y b)(op:BinOp)(t:TypeId)(x y:Operand):(eqGuard op t x y X Y).run P w=.ok () w:=by cases h<;> unfold eqGuard<;> cases op<;> rfl
omit a7 in
theorem g0.gives{t yt:TypeId}{d:TypeDesc}(ed:P.underlying t=some d){x y:Operand}{b:Bool}(neg:Bool)(h:g0 d (ρ x) (ρ y) b)(dst:Option Tmp)(pos:String)(after:Array Edge)(guard:Option (Nat×Bool)):
  (execOp ρ ⟨dst,.binOp (if neg then .neq else .eql) t x y yt,ty,pos,after,guard⟩).run P w=.ok (.value (.bool (bif neg then !b else b))) w:=by
 have ar:=h.run (w:=w) ed;have av:=h.guard (P:=P) (w:=w) (if neg then .neq else .eql) t x y;have r:∀(op:BinOp),op=.eql∨op=.neq→binOp op t (ρ x) (ρ y)=match op with
   |.eql=>(do pure (.bool (←Op.equal t (ρ x) (ρ y))):Sem Value)
   |_=>(do pure (.bool (!(←Op.equal t (ρ x) (ρ y)))):Sem Value):=by
  intro op u;generalize ρ x=X at h;generalize ρ y=Y at h;rcases u with rfl |rfl <;> cases h<;> rfl
 cases neg
 ·have e:=r .eql (.inl rfl);simp only[b4,↓reduceIte] at av ⊢;simp only[execOp,Sem.run_bind,av,Result.andThen_ok,e,ar,Sem.run_pure,cond_false]
 ·have e:=r .neq (.inr rfl);simp only[↓reduceIte] at av ⊢;simp only[execOp,Sem.run_bind,av,Result.andThen_ok,e,ar,Sem.run_pure,bH]
omit a7 in
theorem vh(e:Sl)(v u:ae)(d:Nat):o1 e (v.ap d) (u.ap d)=o1 e v u:=by
 cases e with
 |bool=>cases v<;> cases u<;> rfl
 |agg=>cases v<;> cases u<;> rfl
 |_=>simp only[o1,Bb,Eu]
omit a7 in
theorem tk{D:Nat}{v:ae}{X:Value}(h:dC κ D v X)(cZ:gX .slice v=true):∃A l c,X=.slice A l c∧∀b,isNil v=some b→A.isNone=b:=by
 cases v<;> simp [gX] at cZ
 case bW sz es g=>
  rcases h.hE with⟨rfl,rfl,rfl⟩|⟨a,cap,dt,rfl,cb,_⟩
  ·exact⟨_,_,_,rfl,fun b e=>by simpa [isNil] using e⟩
  ·refine⟨_,_,_,rfl,fun b e=>?_⟩;cases g<;> simp [isNil,iF] at e cb<;> simp [←e]
 case cO a off len cap sz=>cases h;exact⟨_,_,_,rfl,fun b e=>by simpa [isNil] using e⟩
omit a7 in
theorem yj{D:Nat}{v:ae}{X:Value}(h:dC κ D v X)(cZ:gX .ptr v=true):∃A,X=.pointer A∧∀b,isNil v=some b→A.isNone=b:=by cases h<;> simp [gX] at cZ<;> exact⟨_,rfl,fun b e=>by simpa [isNil] using e⟩
omit a7 in
theorem vi{D:Nat}{v:ae}{X:Value}(h:dC κ D v X)(cZ:gX .func v=true):(X=.nilFunc∧∀b,isNil v=some b→b=true)∨((∃f x y,X=.func f x y)∧∀b,isNil v=some b→b=false):=by
 cases h<;> simp [gX] at cZ
 ·exact .inr ⟨⟨_,_,_,rfl⟩,fun b e=>by simpa [isNil] using e.symm⟩
 ·exact .inl ⟨rfl,fun b e=>by simpa [isNil] using e.symm⟩
omit a7 in
theorem yk{D:Nat}{v:ae}{X:Value}(h:dC κ D v X)(cZ:gX .map v=true):∃A,X=.map A∧∀b,isNil v=some b→A.isNone=b:=by cases h<;> simp [gX] at cZ<;> exact⟨_,rfl,fun b e=>by simpa [isNil] using e⟩
omit a7 in
theorem tl{D:Nat}{v:ae}{X:Value}(h:dC κ D v X)(cZ:gX .iface v=true):(X=.nilIface∧∀b,isNil v=some b→b=true)∨((∃t x,X=.iface t x)∧∀b,isNil v=some b→b=false):=by
 cases h<;> simp [gX] at cZ
 ·exact .inr ⟨⟨_,_,rfl⟩,fun b e=>by simpa [isNil] using e.symm⟩
 ·exact .inl ⟨rfl,fun b e=>by simpa [isNil] using e.symm⟩
omit a7 in
theorem Ms{D:Nat}{e:Sl}{v u:ae}{X Y:Value}{d:TypeDesc}{b:Bool}(cP:qa e d=true)(a5:dC κ D v X)(eM:dC κ D u Y)(h:o1 e v u=some b):g0 d X Y b:=by
 have main:e≠.bool→(∀iq,e≠.agg iq)→∃p q,gX e v=true∧gX e u=true∧isNil v=some p∧isNil u=some q∧(p=true∧b=q∧¬(q=true∧e=.iface)∨p=false∧q=true∧b=false):=by
  intro ar av;have H:(bif gX e v&&gX e u then
    match isNil v,isNil u with
    |some true,some b=>bif b&&decide (e=.iface) then none else some b
    |some false,some true=>some false
    |_,_=>none
   else none)=some b:=by
   cases e<;> first|exact absurd rfl ar|exact absurd rfl (av _)|exact h
  cases cZ:(gX e v&&gX e u) with
  |false=>rw[cZ] at H;simp at H
  |true=>
   rw[cZ,bH] at H;rw[bl] at cZ;cases bM:isNil v with
   |none=>rw[bM] at H;simp at H
   |some p=>
    cases hu:isNil u with
    |none=>rw[bM,hu] at H;cases p<;> simp at H
    |some q=>
     rw[bM,hu] at H;refine⟨p,q,cZ.1,cZ.2,rfl,rfl,?_⟩;cases p
     ·cases q
      ·simp at H
      ·right;simp at H;exact⟨rfl,rfl,H⟩
     ·left
      simp only at H;cases fE:(q&&decide (e=.iface)) with
      |true=>rw[fE] at H;simp at H
      |false=>rw[fE] at H;simp at H fE;exact⟨rfl,H.symm,by simpa using fE⟩
 cases e
 case bool=>
  have M:d=.bool:=by cases d<;> simp [qa] at cP ⊢
  subst M;cases v<;> cases u<;> simp [o1] at h;subst h;rw[a5.gY,eM.gY];exact .bool _ _
 case agg iq=>cases d<;> simp [qa] at cP
 case slice=>
  obtain⟨el,rfl⟩:∃el,d=.slice el:=by cases d<;> simp [qa] at cP ⊢
  obtain⟨p,q,k1,qb,kr,J,I⟩:=main (by simp) (by simp);obtain⟨A,l,c,rfl,r⟩:=tk a5 k1;obtain⟨B,l',n2,rfl,F⟩:=tk eM qb;have r:=r p kr;have F:=F q J;rcases I with⟨rfl,rfl,_⟩|⟨rfl,rfl,rfl⟩
  ·cases A<;> simp at r;rw[←F];exact .So ..
  ·cases A<;> simp at r;cases B<;> simp at F;exact .Sp ..
 case ptr=>
  obtain⟨el,rfl⟩:∃el,d=.pointer el:=by cases d<;> simp [qa] at cP ⊢
  obtain⟨p,q,k1,qb,kr,J,I⟩:=main (by simp) (by simp);obtain⟨A,rfl,r⟩:=yj a5 k1;obtain⟨B,rfl,F⟩:=yj eM qb;have r:=r p kr;have F:=F q J;rcases I with⟨rfl,rfl,_⟩|⟨rfl,rfl,rfl⟩
  ·cases A<;> simp at r;rw[←F];exact .aen ..
  ·cases A<;> simp at r;cases B<;> simp at F;exact .aeo ..
 case map=>
  obtain⟨k,el,rfl⟩:∃k el,d=.map k el:=by cases d<;> simp [qa] at cP ⊢
  obtain⟨p,q,k1,qb,kr,J,I⟩:=main (by simp) (by simp);obtain⟨A,rfl,r⟩:=yk a5 k1;obtain⟨B,rfl,F⟩:=yk eM qb;have r:=r p kr;have F:=F q J;rcases I with⟨rfl,rfl,_⟩|⟨rfl,rfl,rfl⟩
  ·cases A<;> simp at r;rw[←F];exact .aep ..
  ·cases A<;> simp at r;cases B<;> simp at F;exact .aeq ..
 case func=>
  obtain⟨eb,K,o8,rfl⟩:∃eb K o8,d=.func eb K o8:=by cases d<;> simp [qa] at cP ⊢
  obtain⟨p,q,k1,qb,kr,J,I⟩:=main (by simp) (by simp);rcases vi a5 k1 with⟨rfl,r⟩|⟨⟨f,x,y,rfl⟩,r⟩<;> rcases vi eM qb with⟨rfl,F⟩|⟨⟨xt,kI,uq,rfl⟩,F⟩<;> have r:=r p kr<;> have F:=F q J<;> subst r F<;> simp at I<;> try subst I
  ·exact .func0 ..
  ·exact .func1 ..
  ·exact .func2 ..
 case iface=>
  obtain⟨Bc,rfl⟩:∃Bc,d=.interface Bc:=by cases d<;> simp [qa] at cP ⊢
  obtain⟨p,q,k1,qb,kr,J,I⟩:=main (by simp) (by simp);rcases tl a5 k1 with⟨rfl,r⟩|⟨⟨f,x,rfl⟩,r⟩<;> rcases tl eM qb with⟨rfl,F⟩|⟨⟨xt,kI,rfl⟩,F⟩<;> have r:=r p kr<;> have F:=F q J<;> subst r F<;> simp at I<;> try subst I
  ·exact .Sq ..
  ·exact .Hx ..
theorem Bd{neg:Bool}{v:ae}{t yt:TypeId}{x:Operand}{Bc:Array (String×TypeId)}{op:BinOp}{z:ae}(u:op=if neg then .neq else .eql)(ed:P.underlying t=some (.interface Bc))(a5:dC κ (s.aa+1) (v.ap s.aa) (ρ x))(aY:ρ (.const .nilIface)=.nilIface)(h:za neg v=some z):dN P (.binOp op t x (.const .nilIface) yt) ty ρ κ s w z s:=by
 cases v<;> simp [za] at h
 case iface Sg fL=>
  subst h;obtain⟨y,A,eM⟩:=dC.Er (t:=Sg) (v:=fL) a5;have br:g0 (.interface Bc) (ρ x) (ρ (.const .nilIface)) false:=by rw[A,aY];exact .Hx Bc Sg y
  have:=bG (P:=P) (ty:=ty) (o:=.binOp op t x (.const .nilIface) yt) (ρ:=ρ) a7 (v:=.bool neg) _ (fun dst pos after guard=>by have:=br.gives (ty:=ty) (w:=w) (yt:=yt) ed neg dst pos after guard;rw[u];exact this) (by cases neg<;> exact .bool _)
  exact this
 case hK=>
  subst h;have ex:ρ x=.nilIface:=by simp only[ae.ap] at a5;generalize ρ x=q at a5;cases a5;rfl
  refine bG a7 (.bool (!neg)) (fun dst pos after guard=>?_) (.bool _);subst u;have dH:(Op.equal t .nilIface .nilIface).run P w=.ok true w:=by rw[tj];generalize (9999:Nat)=n;simp only[Op.equalIn,Sem.run_bind,run_underlying ed,Result.andThen_ok,Sem.run_pure]
  cases neg
  ·have e:(eqGuard .eql t x (.const .nilIface) .nilIface .nilIface).run P w=.ok () w:=by
    unfold eqGuard;cases x<;> rfl
   have r:binOp .eql t .nilIface .nilIface=(do pure (.bool (←Op.equal t .nilIface .nilIface)):Sem Value):=rfl;simp only[execOp,b4,↓reduceIte,ex,aY,Sem.run_bind,e,Result.andThen_ok,r,dH,Sem.run_pure,g7]
  ·have e:(eqGuard .neq t x (.const .nilIface) .nilIface .nilIface).run P w=.ok () w:=by
    unfold eqGuard;cases x<;> rfl
   have r:binOp .neq t .nilIface .nilIface=(do pure (.bool (!(←Op.equal t .nilIface .nilIface))):Sem Value):=rfl;simp only[execOp,↓reduceIte,ex,aY,Sem.run_bind,e,Result.andThen_ok,r,dH,Sem.run_pure,hk]
theorem KY{e:Sl}{b neg:Bool}{v u:ae}{t yt:TypeId}{x y:Operand}{d:TypeDesc}{op:BinOp}(r:op=if neg then .neq else .eql)(ed:P.underlying t=some d)(cP:qa e d=true)
  (a5:dC κ (s.aa+1) (v.ap s.aa) (ρ x))(eM:dC κ (s.aa+1) (u.ap s.aa) (ρ y))(h:o1 e v u=some b):dN P (.binOp op t x y yt) ty ρ κ s w (.bool (bif neg then !b else b)) s:=by
 subst r;exact bG a7 _ ((Ms cP a5 eM (by rw[vh];exact h)).gives ed neg) (.bool _)
end
end Go.Ab
end
