/- A part of the proof: no condition. -/
import Derived.Calls
import Derived.Below
import Derived.Laws.World
import Derived.Laws.Cells
import Derived.Laws.Entries
import Derived.Laws.IdiomCopy
import Derived.Laws.Strings
import Derived.Laws.Slices
import Derived.Laws.MakeOwn
import Derived.Laws.BytesArg
set_option linter.unusedSectionVars false
set_option linter.unusedSimpArgs false
section
namespace Go
theorem cL{p:Prop}[Decidable p](h:¬p):decide p=false:=decide_eq_false h
theorem dY{p:Prop}[Decidable p](h:p):decide p=true:=decide_eq_true h
theorem ey{α:Type _}{i:Nat}{a:α}{l:List α}:l[i]? =some a↔∃h:i<l.length,l[i]=a:=List.getElem?_eq_some_iff
theorem eG{α:Type _}{β:Type _}{dq:List α}(f:α→β):(dq.map f).length=dq.length:=List.length_map f
theorem hn{α:Type _}{l m:List α}{i:Nat}(h:i<l.length):(l++m)[i]? =l[i]?:=List.getElem?_append_left h
theorem dk{n m:Nat}(h:n.beq m=true):n=m:=Nat.eq_of_beq_eq_true h
theorem bn(a b:Bool):((a&&b)=true)=(a=true∧b=true):=Bool.and_eq_true a b
theorem bj{α:Type _}(a b:α):(some a=some b)=(a=b):=Option.some.injEq a b
theorem ns{α:Type _}{l:List α}{i j:Nat}(h:i≠j){a:α}:(l.set i a)[j]? =l[j]?:=List.getElem?_set_ne h
theorem dK{α:Type _}{a:α}{l:List α}{i:Nat}:(a::l).drop (i+1)=l.drop i:=List.drop_succ_cons
theorem eP{α:Type _}{l:List α}{i:Nat}(h:i<l.length):l[i]? =some l[i]:=List.getElem?_eq_getElem h
theorem eQ{n m:Nat}(h:n≤m):n.ble m=true:=Nat.ble_eq_true_of_le h
theorem d0{n m:Nat}(h:n.ble m=true):n≤m:=Nat.le_of_ble_eq_true h
theorem bW:(false=true)=False:=Bool.false_eq_true
theorem bP{α:Type _}{a:α}{dq:List α}:(a::dq).length=dq.length+1:=List.length_cons
theorem fJ{α:Type _}{dq fc:List α}:(dq++fc).length=dq.length+fc.length:=List.length_append
theorem b1{p:Prop}[Decidable p]:(decide p=true)=p:=decide_eq_true_eq
theorem ly{α:Type _}(dq fc cs:List α):dq++fc++cs=dq++(fc++cs):=List.append_assoc dq fc cs
theorem bL{α:Type _}{l:List α}:l.drop 0=l:=List.drop_zero
theorem f6{α:Type _}{β:Type _}(a:α)(f:α→Option β):(some a).bind f=f a:=Option.bind_some a f
theorem ew{α:Type _}{β:Type _}(a:α)(f:α→β):(some a).map f=some (f a):=Option.map_some a f
theorem cy{α:Type _}:([]:List α).length=0:=List.length_nil
theorem mi{α:Type _}{a:α}:¬a∈([]:List α):=List.not_mem_nil
theorem nT{α:Type _}{l:List α}{n:Nat}(h:n<l.length):l[n]∈l:=List.getElem_mem h
theorem aC(n:Nat):n≤n:=Nat.le_refl n
theorem bg(n:Nat):0+n=n:=Nat.zero_add n
theorem eM(b:Bool):(true&&b)=b:=Bool.true_and b
theorem fU(b:Bool):(false&&b)=false:=Bool.false_and b
theorem b2{α:Sort _}(a b:α):(bif true then a else b)=a:=rfl
theorem dG(h:Decidable True): @decide True h=true:=decide_true h
theorem dy(h:Decidable False): @decide False h=false:=decide_false h
theorem iW{α:Type _}{l:List α}{i:Nat}(h:i<l.length):l.drop i=l[i]::l.drop (i+1):=List.drop_eq_getElem_cons h
theorem iP{α:Type _}{l:List α}{i:Nat}(h:l.length≤i):l.take i=l:=List.take_of_length_le h
theorem lz{α:Type _}{l:List α}{i:Nat}(h:l.length≤i):l.drop i=[]:=List.drop_of_length_le h
theorem hy{α:Type _}{β:Type _}(f:α→β)(l:List α)(i:Nat):(l.map f)[i]? =l[i]?.map f:=by simp
theorem hh:(!false)=true:=rfl
theorem gK:(!true)=false:=rfl
theorem bD(b:Bool):(b&&b)=b:=Bool.and_self b
theorem oJ{α:Type _}(l:List α):l++[]=l:=List.append_nil l
theorem ez(n m:Nat):n*m=m*n:=Nat.mul_comm n m
theorem hz{a b:Nat}(h:a<b):a%b=a:=Nat.mod_eq_of_lt h
theorem fD(a b c:Nat):a*(b+c)=a*b+a*c:=Nat.mul_add a b c
theorem gL(a b c:Nat):a*b*c=a*(b*c):=Nat.mul_assoc a b c
theorem fV{a b:Nat}(c:Nat)(h:a≤b):a*c≤b*c:=Nat.mul_le_mul_right c h
theorem f8{a b c:Nat}(h:a<b)(k:b≤c):a<c:=Nat.lt_of_lt_of_le h k
theorem j5{α:Type _}{l m:List α}{i:Nat}(h:l.length≤i):(l++m)[i]? =m[i-l.length]?:=List.getElem?_append_right h
theorem e0{α:Type _}{β:Type _}(a:α)(b:β)(c:α)(d:β):((a,b)=(c,d))=(a=c∧b=d):=Prod.mk.injEq a b c d
theorem cV{α:Type _}{a:α}{l:List α}{i:Nat}:(a::l).take (i+1)=a::l.take i:=List.take_succ_cons
theorem kQ{α:Type _}{l:List α}(h:l.length=0):l=[]:=List.eq_nil_of_length_eq_zero h
theorem e9(a b c:Nat):(a+b)*c=a*c+b*c:=Nat.add_mul a b c
theorem fK{α:Type _}{β:Type _}{f:α→β}{a:α}{l:List α}:(a::l).map f=f a::l.map f:=List.map_cons
theorem gM(a:Nat):a.beq a=true:=Nat.beq_refl a
theorem cX{α:Type _}{l:List α}:l.take 0=[]:=List.take_zero
end Go
namespace Go.Ab
inductive Loc where
 |l (i:Nat)
 |g (d i:Nat)
 deriving DecidableEq,Inhabited
inductive fi where
 |nil|exact |any
 |dB (a:Loc)
 deriving Inhabited
inductive af where
 |dead
 |bool (b:Bool)
 |int (k:IntKind) (n:Int)
 |str (s:List Nat)
 |bG (sz:Nat) (es:List af) (g:fi)
 |cZ (a:Loc) (off len cap sz:Nat)
 |ref (a:Loc) (off:Nat)
 |bI (cs:List af)
 |hP
 |fn (f:Nat) (dI:List af)
 |h2
 |map (a:Loc)
 |fj
 |iface (t:Nat) (v:af)
 |hQ
 |agg (cs:List af)
 |ea (vs:List af)
 |kk (l:Nat)
 deriving Inhabited
inductive du where
 |cells (cs:List af)
 |tok (n:Nat)
 |map (es:List (af×af))
 |gone
 deriving Inhabited
structure ag where
 own:List du
 up:List (List du)
 ro:List (List du)
 deriving Inhabited
def ag.aa(s:ag):Nat:=s.up.length+s.ro.length
inductive ah where
 |fail
 |ok (v:af) (s:ag)
 |panic (v:af) (s:ag)
 deriving Inhabited
inductive eL where
 |e
 |n (l:eL) (v:af) (r:eL)
 deriving Inhabited
def eL.get:eL→Nat→af
 |.e,_=>.dead
 |.n l v r,i=>bif Nat.beq i 0 then v else bif Nat.beq (i%2) 1 then l.get ((i-1)/2) else r.get ((i-1)/2)
def eL.iX:Nat→Nat→af→(eL→ah)→eL→ah
 |0,_,_,_,_=>.fail
 |d+1,i,v,k,.e=>
  bif Nat.beq i 0 then k (.n .e v .e)
  else bif Nat.beq (i%2) 1 then eL.iX d ((i-1)/2) v (fun l=>k (.n l .dead .e)) .e
  else eL.iX d ((i-1)/2) v (fun r=>k (.n .e .dead r)) .e
 |d+1,i,v,k,.n l x r=>
  bif Nat.beq i 0 then k (.n l v r)
  else bif Nat.beq (i%2) 1 then eL.iX d ((i-1)/2) v (fun l=>k (.n l x r)) l
  else eL.iX d ((i-1)/2) v (fun r=>k (.n l x r)) r
inductive gf where
 |e
 |n (l:gf) (b:Bool) (r:gf)
 deriving Inhabited
def eL.jD:gf→(eL→ah)→eL→ah
 |.e,k,_=>k .e
 |.n h _ q,k,.e=>eL.jD h (fun l=>eL.jD q (fun r=>k (.n l .dead r)) .e) .e
 |.n h b q,k,.n l v r=>eL.jD h (fun l=>eL.jD q (fun r=>k (.n l (bif b then v else .dead) r)) r) l
inductive bC where
 |t (n:Nat)
 |c (v:af)
 |g (n:Nat)
 |at(t b off:Nat)
 |Py (b off:Nat)
 deriving Inhabited
inductive wE where
 |int (k:IntKind)|str|bool
 deriving DecidableEq,Inhabited
inductive Pz where
 |bool|slice|ptr|func|map|iface
 |agg (iq:List wE)
 deriving DecidableEq,Inhabited
inductive gg where
 |move (x:bC)
 |oK (x:bC)
 |nb (x:bC)
 |pick (c a b:bC)
 |alloc (zero:List af)
 |e1 (x:bC)
 |jX (x:bC)
 |build (zero:List af) (parts:List (Nat×Nat×bC))
 |buildSlice (sz:Nat) (parts:List bC)
 |load (n:Option Nat) (a:bC)
 |store (n:Nat) (a v:bC)
 |nilCheck (x:bC)
 |bin (op:BinOp) (x y:bC)
 |eq (neg:Bool) (e:Pz) (x y:bC)
 |un (op:UnOp) (x:bC)
 |lj (k:IntKind) (x:bC)
 |nU (x:bC)
 |gN (x:bC)
 |iY (x:bC)
 |jI (t:Nat) (x:bC)
 |ko (f:Nat) (dI:List bC)
 |makeSlice (zero:List af) (bytes:Nat) (l c:bC)
 |kq (x:bC) (gn bX:Option bC)
 |slice (sz:Nat) (x:bC) (gn bX iJ:Option bC)
 |fieldAddr (off:Nat) (a:bC)
 |field (off:Nat) (n:Option Nat) (x:bC)
 |iZ (sz:Nat) (x i:bC)
 |e6 (sz len:Nat) (x i:bC)
 |mP (x i:bC)
 |mQ (sz len:Nat) (n:Option Nat) (x i:bC)
 |extract (x:bC) (i:Nat)
 |call (f:Nat) (args:List bC)
 |eA (f:bC) (args:List bC)
 |hA (f:Nat) (args:List bC)
 |lM (f:bC) (args:List bC)
 |len (str:Bool) (x:bC)
 |append (sz bytes:Nat) (at_:Option bC) (s x:bC)
 |copy (sz:Nat) (d s:bC)
 |min (xs:List bC)
 |max (xs:List bC)
 |makeMap (at_:Option bC)
 |mR (kJ:wE) (m k v:bC)
 |lookup (kJ:wE) (zero:af) (ok:Bool) (m k:bC)
 |ui (neg:Bool) (x:bC)
 |lA (iq:List (Option Nat×bC)) (f:Nat) (args:List bC)
 |jY (iq:List (Option Nat×bC)) (f:bC) (args:List bC)
 |iS (sz len:Nat) (x:bC) (gn bX iJ:Option bC)
 |jJ (sz bytes:Nat) (at_:Option bC) (s x:bC)
 |jK (sz bytes:Nat) (at_:Option bC) (s x:bC)
 |gB (sz:Nat) (parts:List bC)
 |gC (sz:Nat) (parts:List bC)
 |jL (sz bytes:Nat) (s x:bC)
 |la (m:Option Nat) (y:bC) (n:Nat) (a v:bC)
 |no
 deriving Inhabited
structure cT where
 dst:Option Nat
 guard:Option (Nat×Bool)
 op:gg
 deriving Inhabited
inductive ad where
 |skip
 |region (nc:Option (List (bC×Nat×bC×Nat))) (ops:List cT)
 |seq (a b:ad)
 |mask (m:gf) (a:ad)
 |cond (c:bC) (adZ ad0:ad)
 |block (id:Nat) (body:ad)
 |loop (bS:gf) (body:ad)
 |exit (id:Nat)
 |scope (body:ad)
 |ret
 |range (j f:Nat) (g:bC) (p:Nat) (assign body:ad)
 deriving Inhabited
inductive sI where
 |t (n:Nat)
 |cell (a:Nat) (n:Option Nat)
 deriving Inhabited
structure c0 where
 abg:Nat
 fR:Nat
 results:List sI
 bS:Bool
 body:ad
 deriving Inhabited
mutual
def af.bd:af→Bool
 |.cZ .. |.ref .. |.map _=>false
 |.bG _ _ (.dB _)=>false
 |.bI cs|.fn _ cs|.agg cs|.ea cs=>af.aY cs
 |.iface _ v=>v.bd
 |_=>true
def af.aY:List af→Bool
 |[]=>true
 |v::vs=>v.bd&&af.aY vs
end
def Loc.low(d:Nat):Loc→Bool
 |.l _=>false
 |.g e _=>Nat.ble e d
mutual
def af.low(d:Nat):af→Bool
 |.cZ a _ _ _ _=>a.low d
 |.ref a _=>a.low d
 |.map a=>a.low d
 |.bG _ _ (.dB a)=>a.low d
 |.bI cs|.fn _ cs|.agg cs|.ea cs=>af.kK d cs
 |.iface _ v=>v.low d
 |_=>true
def af.kK(d:Nat):List af→Bool
 |[]=>true
 |v::vs=>v.low d&&af.kK d vs
end
def Loc.ap(d:Nat):Loc→Loc
 |.l i=>.g d i
 |a=>a
def fi.ap(d:Nat):fi→fi
 |.dB a=>.dB (a.ap d)
 |g=>g
def af.ap(d:Nat):af→af
 |.bG sz es g=>.bG sz es (g.ap d)
 |.cZ a off len cap sz=>.cZ (a.ap d) off len cap sz
 |.ref a off=>.ref (a.ap d) off
 |.map a=>.map (a.ap d)
 |v=>v
def af.cells:af→List af
 |.agg cs=>cs
 |v=>[v]
def x8:af→af
 |.agg xs=>.agg [.agg xs]
 |c=>c
def mj(sz:Nat)(cs:List af):af:=
 match sz with
 |1=>x8 (cs.getD 0 .dead)
 |_=>.agg (cs.take sz)
def chunk(sz:Nat):Nat→List af→List af
 |0,_=>[]
 |n+1,cs=>mj sz cs::chunk sz n (cs.drop sz)
def ag.get(s:ag):Loc→Option du
 |.l i=>s.own[i]?
 |.g d i=>if d=s.aa then s.own[i]? else if d<s.aa then((s.up++s.ro)[s.aa-1-d]?).bind (·[i]?) else none
def ag.set(s:ag)(a:Loc)(o:du):Option ag:=
 match a with
 |.l i=>some {s with own:=s.own.set i o}
 |.g d i=>
  if d=s.aa then some {s with own:=s.own.set i o}
  else if d<s.aa∧s.ro.length≤d then some {s with up:=s.up.modify (s.aa-1-d) (·.set i o)}
  else none
def ag.oL(s:ag):Loc→Bool
 |.l _=>true
 |.g d _=>d=s.aa
def ag.hB(s:ag)(a:Loc)(vs:List af):Bool:=
 s.oL a||af.aY vs||(match a with
  |.g d _=>af.kK d vs
  |.l _=>false)
def ag.new(s:ag)(o:du):ag:={s with own:=s.own++[o]}
def ag.hi(s:ag)(a:Loc)(o:du):Option (Loc×ag):=
 match a with
 |.l _=>some (.l s.own.length,s.new o)
 |.g d _=>
  if d=s.aa then some (.l s.own.length,s.new o)
  else if d<s.aa∧s.ro.length≤d then
   match s.up[s.aa-1-d]? with
   |some l=>some (.g d l.length,{s with up:=s.up.modify (s.aa-1-d) (· ++ [o])})
   |none=>none
  else none
def oM:Loc→Loc→Bool
 |.l i,.l j=>Nat.beq i j
 |.g d i,.g e j=>Nat.beq d e&&Nat.beq i j
 |_,_=>false
def Wg:af→Nat→af
 |.ref a o,off=>.ref a (o+off)
 |_,_=>.dead
def Kc:af→af→Nat→af
 |.ref a o,.ref fT o',off=>bif oM a fT&&Nat.beq o (o'+off) then .ref a o else .dead
 |_,_,_=>.dead
theorem zN{a b:Loc}(h:oM a b=true):a=b:=by
 cases a<;> cases b<;> simp [oM] at h
 ·rw[h]
 ·rw[h.1,h.2]
theorem FB(x y:af)(off:Nat):Kc x y off=.dead∨(Kc x y off=x∧Kc x y off=Wg y off):=by
 cases x<;> cases y<;> try exact .inl rfl
 ·rename_i a o fT o';have e:Kc (.ref a o) (.ref fT o') off=bif oM a fT&&Nat.beq o (o'+off) then .ref a o else .dead:=rfl
  rw[e];cases h:oM a fT&&Nat.beq o (o'+off) with
  |false=>exact .inl rfl
  |true=>simp only[bn] at h;have au:=zN h.1;have az:=dk h.2;subst au az;exact .inr ⟨rfl,rfl⟩
def aq(G:Nat→af)(ao:Nat→af):bC→af
 |.t n=>ao n
 |.c v=>v
 |.g n=>G n
 |.at t b off=>Kc (ao t) (ao b) off
 |.Py b off=>Wg (ao b) off
def nV:af→af
 |.bG sz es (.dB a)=>bif af.aY es then .bG sz es .any else .bG sz es (.dB a)
 |v=>v
def i5(ao:eL)(d:Option Nat)(v:af)(k:eL→ah):ah:=
 match d with
 |some n=>ao.iX 12 n v k
 |none=>k ao
structure aW where
 nR:af→(af→ah)→ah
 v1:af→(af→ah)→ah
 l:List af→(List af→ah)→ah
 s:ag→(ag→ah)→ah
def aW.not:aW:={nR:=fun v k=>k v,v1:=fun v k=>k v,l:=fun v k=>k v,s:=fun v k=>k v}
def e2:af→Option Nat
 |.int _ n=>if 0≤n then some n.toNat else none
 |_=>none
def dL(s:ag):af→Option (Nat×List af)
 |.bG sz es (.dB _)=>if af.aY es then some (sz,es) else none
 |.bG sz es _=>some (sz,es)
 |.str fc=>some (1,fc.map fun b=>.int .u8 (b:Nat))
 |.cZ a off len _ sz=>
  match s.get a with
  |some (.cells cs)=>let es:=chunk sz len (cs.drop off);if af.aY es&&Nat.ble (off+len*sz) cs.length&& !Nat.beq sz 0 then some (sz,es) else none
  |_=>none
 |_=>none
def iC:List af→List af→Option Bool
 |[],[]=>some true
 |.int k a::xs,.int lN b::e=>if k=lN then(iC xs e).map ((a==b)&& ·) else none
 |.bool a::xs,.bool b::e=>(iC xs e).map ((a==b)&& ·)
 |.str a::xs,.str b::e=>(iC xs e).map ((a==b)&& ·)
 |_,_=>none
def jM:List Nat→List Nat→Bool
 |_,[]=>false
 |[],_::_=>true
 |a::x,b::y=>Nat.blt a b||(Nat.beq a b&&jM x y)
def gm(op:BinOp)(k:IntKind)(a b:Int):Option af:=
 match op with
 |.add=>some (.int k (k.wrap (a+b)))
 |.sub=>some (.int k (k.wrap (a-b)))
 |.mul=>some (.int k (k.wrap (a*b)))
 |.quo=>if b=0 then none else some (.int k (k.wrap (a.tdiv b)))
 |.rem=>if b=0 then none else some (.int k (a.tmod b))
 |.and=>some (.int k (k.wrap (BitVec.ofInt k.bits a &&& BitVec.ofInt k.bits b).toNat))
 |.or=>some (.int k (k.wrap (BitVec.ofInt k.bits a ||| BitVec.ofInt k.bits b).toNat))
 |.xor=>some (.int k (k.wrap (BitVec.ofInt k.bits a ^^^ BitVec.ofInt k.bits b).toNat))
 |.andNot=>some (.int k (k.wrap (BitVec.ofInt k.bits a &&& ~~~BitVec.ofInt k.bits b).toNat))
 |.eql=>some (.bool (a==b))
 |.neq=>some (.bool (a != b))
 |.lss=>some (.bool (a<b))
 |.leq=>some (.bool (a≤b))
 |.gtr=>some (.bool (a>b))
 |.geq=>some (.bool (a≥b))
 |_=>none
def lO(op:BinOp)(k:IntKind)(a b:Int):Option af:=
 if b<0 then none else
 match op with
 |.shl=>some (.int k (k.wrap (a*2^(min b.toNat k.bits))))
 |.shr=>some (.int k (a.fdiv (2^(min b.toNat k.bits))))
 |_=>none
def x9(op:BinOp)(x y:List Nat):Option af:=
 match op with
 |.add=>if Nat.ble (x.length+y.length) 1099511627776 then some (.str (x++y)) else none
 |.eql=>some (.bool (x==y))
 |.neq=>some (.bool (!(x==y)))
 |.lss=>some (.bool (jM x y))
 |.leq=>some (.bool (jM x y||x==y))
 |.gtr=>some (.bool (!(jM x y||x==y)))
 |.geq=>some (.bool (!jM x y))
 |_=>none
def isNil:af→Option Bool
 |.hP|.h2|.fj|.hQ=>some true
 |.bG _ _ .nil=>some true
 |.bG _ _ .exact |.bG _ _ .any|.bG _ _ (.dB _)|.cZ .. |.ref .. |.bI _|.fn .. |.map _|.iface ..=>some false
 |_=>none
def gW:Pz→af→Bool
 |.slice,.bG .. |.slice,.cZ ..=>true
 |.ptr,.hP|.ptr,.ref .. |.ptr,.bI _=>true
 |.func,.h2|.func,.fn ..=>true
 |.map,.fj|.map,.map _=>true
 |.iface,.hQ|.iface,.iface ..=>true
 |_,_=>false
def e7:List wE→List af→Bool
 |[],[]=>true
 |.int k::iq,.int lN _::xs=>decide (lN=k)&&e7 iq xs
 |.str::iq,.str _::xs=>e7 iq xs
 |.bool::iq,.bool _::xs=>e7 iq xs
 |_,_=>false
def lB(e:Pz)(x y:af):Option Bool:=
 match e with
 |.bool=>
  match x,y with
  |.bool a,.bool b=>some (a==b)
  |_,_=>none
 |.agg iq=>
  match x,y with
  |.agg xs,.agg h=>bif e7 iq xs&&e7 iq h then iC xs h else none
  |_,_=>none
 |e=>
  bif gW e x&&gW e y then
   match isNil x,isNil y with
   |some true,some b=>bif b&&decide (e=.iface) then none else some b
   |some false,some true=>some false
   |_,_=>none
  else none
def ya(neg:Bool):af→Option af
 |.hQ=>some (.bool (!neg))
 |.iface ..=>some (.bool neg)
 |_=>none
def an(op:BinOp)(x y:af):Option af:=
 match op,x,y with
 |.shl,.int k a,.int _ b=>lO .shl k a b
 |.shr,.int k a,.int _ b=>lO .shr k a b
 |op,.int k a,.int lN b=>if k=lN then gm op k a b else none
 |op,.str a,.str b=>x9 op a b
 |_,_,_=>none
def kl(op:UnOp)(x:af):Option af:=
 match op,x with
 |.neg,.int k n=>some (.int k (k.wrap (0-n)))
 |.xor,.int k n=>some (.int k (k.wrap (BitVec.ofInt k.bits (if k.signed then -1 else k.max) ^^^ BitVec.ofInt k.bits n).toNat))
 |.not,.bool b=>some (.bool (!b))
 |_,_=>none
def min2(x y:af):Option af:=
 match x,y with
 |.int k a,.int _ b=>some (.int k (if b<a then b else a))
 |_,_=>none
def max2(x y:af):Option af:=
 match x,y with
 |.int k a,.int _ b=>some (.int k (if b>a then b else a))
 |_,_=>none
def uj(f:af→af→Option af):af→List af→Option af
 |x,[]=>some x
 |x,y::e=>(f x y).bind fun z=>uj f z e
def dH(G:Nat→af)(ao:Nat→af)(o:Option bC)(e:Nat):Option Nat:=
 match o with
 |none=>some e
 |some x=>e2 (aq G ao x)
def h5(es:List af):Option (List Nat):=
 match es with
 |[]=>some []
 |.int .u8 n::es=>if n.toNat<256 then(h5 es).map (n.toNat:: ·) else none
 |_=>none
def dS{α:Type}(cs:List α)(off:Nat)(vs:List α):List α:=
 match vs with
 |[]=>cs
 |v::vs=>dS (cs.set off v) (off+1) vs
def af.fh:af→Bool
 |.dead|.ea _=>false
 |_=>true
def af.eO:af→Bool
 |.dead|.ea _|.agg _=>false
 |_=>true
def fk(G:Nat→af)(d:Nat)(ao:Nat→af):List af→List (Nat×Nat×bC)→Option (List af)
 |cs,[]=>some cs
 |cs,(off,sz,x)::ec=>
  let v:=(aq G ao x).ap d
  bif v.fh&&Nat.beq v.cells.length sz&&Nat.ble (off+sz) cs.length then fk G d ao (dS cs off v.cells) ec else none
def qE(G:Nat→af)(ao:Nat→af):bC×Nat×bC×Nat→Bool
 |(x,n,y,m)=>
  match aq G ao x,aq G ao y with
  |.ref (.l i) o,.ref (.l j) q=> !Nat.beq i j||Nat.ble (o+n) q||Nat.ble (q+m) o
  |.bI _,.ref ..=>true
  |_,_=>false
inductive qb where
 |norm|exit (id:Nat)|ret|panic (v:af)
 deriving Inhabited
abbrev f9:=qb→eL→ag→ah
abbrev mM:=eL→ag→f9→ah
def ga(g:mM)(k:f9):f9:=fun x ao s=>
 match x with
 |.norm=>g ao s k
 |x=>k x ao s
def C0(g:mM)(k:f9):f9:=fun x ao s=>
 match x with
 |.norm=>g ao s k
 |_=>.fail
def eU(m:gf)(g:mM)(k:f9):f9:=fun x ao s=>
 match x with
 |.norm=>eL.jD m (fun ao=>g ao s k) ao
 |x=>k x ao s
def ek(id:Nat)(k:f9):f9:=fun x ao s=>
 match x with
 |.exit j=>bif Nat.beq j id then k .norm ao s else k (.exit j) ao s
 |x=>k x ao s
def dV(step:mM)(bS:gf):Nat→mM
 |0,_,_,_=>.fail
 |n+1,ao,s,k=>step ao s (eU bS (dV step bS n) k)
structure Env where
 F:aW
 aw:Nat→af
 call:Nat→List af→ag→ah
 loop:mM→gf→mM
def Loc.same:Loc→Loc→Bool
 |.l i,.l j=>Nat.beq i j
 |.g d i,.g e j=>Nat.beq d e&&Nat.beq i j
 |_,_=>false
def fi.same:fi→fi→Bool
 |.nil,.nil|.exact,.exact |.any,.any=>true
 |.dB a,.dB b=>a.same b
 |_,_=>false
mutual
def af.same:af→af→Bool
 |.kk l,.kk m=>Nat.beq l m
 |.dead,.dead|.hP,.hP|.h2,.h2|.fj,.fj|.hQ,.hQ=>true
 |.bool a,.bool b=>a==b
 |.int k a,.int lN b=>decide (k=lN)&&a==b
 |.str a,.str b=>a==b
 |.bG z a g,.bG WE b g'=>Nat.beq z WE&&g.same g'&&af.lC a b
 |.cZ a x y z q,.cZ fT kH tM WE qc=>a.same fT&&Nat.beq x kH&&Nat.beq y tM&&Nat.beq z WE&&Nat.beq q qc
 |.ref a x,.ref fT kH=>a.same fT&&Nat.beq x kH
 |.bI a,.bI b=>af.lC a b
 |.fn f a,.fn wF b=>Nat.beq f wF&&af.lC a b
 |.map a,.map b=>a.same b
 |.iface t v,.iface Pv fG=>Nat.beq t Pv&&v.same fG
 |.agg a,.agg b=>af.lC a b
 |.ea a,.ea b=>af.lC a b
 |_,_=>false
def af.lC:List af→List af→Bool
 |[],[]=>true
 |a::as,b::fc=>a.same b&&af.lC as fc
 |_,_=>false
end
def h6(G:Nat→af)(ao:Nat→af):Option bC→Option Loc
 |none=>some (.l 0)
 |some x=>
  match aq G ao x with
  |.ref a _=>some a
  |.map a=>some a
  |_=>none
def sh:af→af→Option Bool
 |.int k a,.int lN b=>if k=lN then some (a==b) else none
 |.str a,.str b=>some (a==b)
 |.bool a,.bool b=>some (a==b)
 |_,_=>none
def isKey:wE→af→Bool
 |.int k,.int lN _=>decide (lN=k)
 |.str,.str _=>true
 |.bool,.bool _=>true
 |_,_=>false
def findKey(k:af):List (af×af)→Option (Option af)
 |[]=>some none
 |(x,v)::es=>
  match sh k x with
  |some true=>some (some v)
  |some false=>findKey k es
  |none=>none
def putKey(k v:af):List (af×af)→Option (List (af×af))
 |[]=>some [(k,v)]
 |(x,u)::es=>
  match sh k x with
  |some true=>some ((x,v)::es)
  |some false=>(putKey k v es).map ((x,u):: ·)
  |none=>none
section
variable(E:Env)(ao:Nat→af)(s:ag)(k kp:af→ag→ah)
def qC(v:Option af):ah:=
 match v with
 |some v=>E.F.v1 v fun v=>k v s
 |none=>.fail
def eV(m:Option Nat)(cs:List af):ah:=
 match m with
 |none=>match cs with
  |c::_=>E.F.nR c fun v=>k v s
  |[]=>.fail
 |some n=>bif Nat.ble n cs.length then E.F.v1 (.agg (cs.take n)) fun v=>k v s else .fail
def iu(a:Loc)(off:Nat)(vs:List af):ah:=
 match s.get a with
 |some (.cells cs)=>
  bif Nat.ble (off+vs.length) cs.length&&s.hB a vs&&vs.all af.eO then
   E.F.l (dS cs off vs) fun cs=>
   match s.set a (.cells cs) with
   |some s=>E.F.s s fun s=>k .dead s
   |none=>.fail
  else .fail
 |_=>.fail
def jN(x:af)(gn bX:Option bC):ah:=
 match x with
 |.str fc=>
  match dH E.aw ao gn 0,dH E.aw ao bX fc.length with
  |some l,some h=>bif Nat.ble l h&&Nat.ble h fc.length then E.F.v1 (.str ((fc.drop l).take (h-l))) fun v=>k v s else .fail
  |_,_=>.fail
 |_=>.fail
def pu(g:fi)(l h:Nat)(es:List af):Bool:=
 match g with
 |.dB _=>(Nat.beq l 0&&Nat.beq h es.length)||af.aY es
 |_=>true
def uk(g:fi)(es:List af):Bool:=
 match g with
 |.dB _=>af.aY es
 |_=>true
def jZ(z:Nat)(x:af)(gn bX iJ:Option bC):ah:=
 match x with
 |.bG sz es g=>
  match dH E.aw ao gn 0,dH E.aw ao bX es.length with
  |some l,some h=>
   match iJ with
   |none=>
    bif Nat.beq z sz&&Nat.ble l h&&Nat.ble h es.length&&pu g l h es then
     E.F.v1 (.bG sz ((es.drop l).take (h-l)) (match g with
      |.nil=>.nil
      |.exact=>if h=es.length then .exact else .any
      |.dB a=>if l=0∧h=es.length then .dB a else .any
      |.any=>.any)) fun v=>k v s
    else .fail
   |some x=>
    match e2 (aq E.aw ao x),g with
    |_,.nil=>.fail
    |some m,_=>bif Nat.beq z sz&&Nat.ble l h&&Nat.ble h m&&Nat.ble m es.length&&uk g es then E.F.v1 (.bG sz ((es.drop l).take (h-l)) (if h=m then .exact else .any)) fun v=>k v s else .fail
    |_,_=>.fail
  |_,_=>.fail
 |.cZ a off len cap sz=>
  match dH E.aw ao gn 0,dH E.aw ao bX len,dH E.aw ao iJ cap with
  |some l,some h,some m=>bif Nat.beq z sz&&Nat.ble l h&&Nat.ble h m&&Nat.ble m cap&&Nat.ble len cap then E.F.v1 (.cZ a (if m=l then off else off+l*sz) (h-l) (m-l) sz) fun v=>k v s else .fail
  |_,_,_=>.fail
 |_=>.fail
def h7(q bytes:Nat)(b:Loc)(x y:af):ah:=
 match dL s y with
 |none=>.fail
 |some (z,new)=>
  match x with
  |.bG sz es g=>
   bif Nat.beq z q&&Nat.beq sz q&&Nat.ble ((es.length+new.length)*bytes) 1099511627776 then
    match new with
    |[]=>k (.bG sz es g) s
    |_::_=>
     match g with
     |.nil|.exact=>
      match s.hi b (.tok (es.length+new.length)) with
      |some (l,s)=>E.F.v1 (.bG sz (es++new) (.dB l)) fun v=>E.F.s s fun s=>k v s
      |none=>.fail
     |.dB a=>
      match s.get a with
      |some (.tok n)=>
       bif Nat.beq n es.length&&(new.flatMap af.cells).all af.eO then
        match s.set a (.tok (es.length+new.length)) with
        |some s=>E.F.v1 (.bG sz (es++new) (.dB a)) fun v=>E.F.s s fun s=>k v s
        |none=>.fail
       else .fail
      |_=>.fail
     |.any=>.fail
   else .fail
  |.cZ a off len cap sz=>
   match s.get a with
   |some (.cells cs)=>
    bif Nat.beq z q&&Nat.beq sz q&&Nat.ble (len+new.length) cap&&Nat.ble (off+(len+new.length)*sz) cs.length&&s.hB a new&&(new.flatMap af.cells).all af.eO then
     E.F.l (dS cs (off+len*sz) (new.flatMap af.cells)) fun cs=>
     match s.set a (.cells cs) with
     |some s=>E.F.v1 (.cZ a off (len+new.length) cap sz) fun v=>E.F.s s fun s=>k v s
     |none=>.fail
    else .fail
   |_=>.fail
  |_=>.fail
def si(s:ag)(l:Loc)(vs:List af):Bool:=
 match l with
 |.l _=>af.kK s.aa vs
 |.g d _=>af.kK d vs
def kb(q bytes:Nat)(b:Loc)(x y:af):ah:=
 match y with
 |.bG z new _=>
  match x with
  |.bG sz es g=>
   bif Nat.beq z q&&Nat.beq sz q&&Nat.ble ((es.length+new.length)*bytes) 1099511627776 then
    match new with
    |[]=>.fail
    |_::_=>
     match g with
     |.nil=>
      bif si s b new then
       match s.hi b (.tok (es.length+new.length)) with
       |some (l,s)=>E.F.v1 (.bG sz (es++new) (.dB l)) fun v=>E.F.s s fun s=>k v s
       |none=>.fail
      else .fail
     |.dB a=>
      match s.get a with
      |some (.tok n)=>
       bif Nat.beq n es.length&&(new.flatMap af.cells).all af.eO&&si s a new then
        match s.set a (.tok (es.length+new.length)) with
        |some s=>E.F.v1 (.bG sz (es++new) (.dB a)) fun v=>E.F.s s fun s=>k v s
        |none=>.fail
       else .fail
      |_=>.fail
     |_=>.fail
   else .fail
  |_=>.fail
 |_=>.fail
def yb(s:ag):af→af
 |.cZ (.g d i) o l c z=>bif Nat.beq d s.aa then .cZ (.l i) o l c z else .cZ (.g d i) o l c z
 |v=>v
def l7(q bytes:Nat)(x y:af):ah:=
 match dL s y with
 |none=>.fail
 |some (z,new)=>
  match new with
  |[]=>.fail
  |_::_=>
   match x with
   |.bG sz [] .nil=>
    bif Nat.beq z q&&Nat.beq sz q&&Nat.ble (new.length*bytes) 1099511627776&&(new.flatMap af.cells).all af.eO then
     E.F.l (new.flatMap af.cells) fun cs=>E.F.v1 (.cZ (.l s.own.length) 0 new.length 0 q) fun v=>E.F.s (s.new (.cells cs)) fun s=>k v s
    else .fail
   |.cZ (.l i) 0 len 0 sz=>
    match s.own[i]? with
    |some (.cells cs)=>
     bif Nat.beq z q&&Nat.beq sz q&&Nat.beq cs.length (len*q)&& !Nat.beq len 0&&Nat.ble ((len+new.length)*bytes) 1099511627776&&(new.flatMap af.cells).all af.eO&& !Nat.beq q 0 then
      E.F.l (cs++new.flatMap af.cells) fun cs=>E.F.v1 (.cZ (.l s.own.length) 0 (len+new.length) 0 q) fun v=>E.F.s {s with own:=s.own.set i .gone++[.cells cs]} fun s=>k v s
     else .fail
    |_=>.fail
   |_=>.fail
def kL(sz:Nat)(x:af)(i:af):ah:=
 match e2 i with
 |none=>.fail
 |some i=>
  match x with
  |.bG z es _=>
   bif Nat.beq z sz then
    match es[i]? with
    |some e=>E.F.v1 (.bI e.cells) fun v=>k v s
    |none=>.fail
   else .fail
  |.cZ a off len _ z=>bif Nat.beq z sz&&Nat.blt i len then E.F.v1 (.ref a (off+i*sz)) fun v=>k v s else .fail
  |_=>.fail
def hR(sz len:Nat)(x:af)(i:af):ah:=
 match e2 i with
 |none=>.fail
 |some i=>
  bif Nat.blt i len then
   match x with
   |.bI cs=>E.F.v1 (.bI (cs.drop (i*sz))) fun v=>k v s
   |.ref a off=>E.F.v1 (.ref a (off+i*sz)) fun v=>k v s
   |_=>.fail
  else .fail
def eA(f:Nat)(args:List af):ah:=
 match E.call f args s with
 |.ok v s'=>bif Nat.beq s'.aa s.aa then k v s' else .fail
 |.panic v s'=>kp v s'
 |.fail=>.fail
def cellsOf(v:af):Option (List af):=
 match v with
 |.bI cs=>some cs
 |.ref a off=>
  match s.get a with
  |some (.cells cs)=>some (cs.drop off)
  |_=>none
 |_=>none
def e3(s:ag)(n:Option Nat)(v:af):Option (List af):=(cellsOf s v).map fun cs=>cs.take (n.getD 1)
def nW:Option (List af)→Option (List af)→Bool
 |some a,some b=>af.lC a b
 |_,_=>false
def h3(xs:List (Option Nat×af))(f:Nat)(args:List af):ah:=
 eA E s (fun v s'=>bif xs.all fun x=>nW (e3 s x.1 x.2) (e3 s' x.1 x.2) then k v s' else .fail) kp f args
def hF(f:Nat)(args:List af):ah:=
 bif af.aY args then
  match E.call f args {own:=[],up:=[],ro:=[]} with
  |.ok v _=>bif v.bd then k v s else .fail
  |_=>.fail
 else .fail
def d8(n:Option Nat)(v:af):ah:=
 match v with
 |.bI cs=>eV E s k n cs
 |.ref a off=>
  match s.get a with
  |some (.cells cs)=>eV E s k n (cs.drop off)
  |_=>.fail
 |_=>.fail
def gO(off:Nat)(v:af):ah:=
 match v with
 |.bI cs=>E.F.v1 (.bI (cs.drop off)) fun v=>k v s
 |.ref a o=>E.F.v1 (.ref a (o+off)) fun v=>k v s
 |_=>.fail
def lP(off:Nat)(n:Option Nat)(v:af):ah:=
 match v with
 |.agg cs=>eV E s k n (cs.drop off)
 |_=>.fail
def h8(v i:af):ah:=
 match v with
 |.str fc=>
  match e2 i with
  |some i=>
   match fc[i]? with
   |some b=>E.F.v1 (.int .u8 b) fun v=>k v s
   |none=>.fail
  |none=>.fail
 |_=>.fail
def kr(sz len:Nat)(n:Option Nat)(v i:af):ah:=
 match v with
 |.agg cs=>
  match e2 i with
  |some i=>bif Nat.blt i len then eV E s k n (cs.drop (i*sz)) else .fail
  |none=>.fail
 |_=>.fail
def kc(i:Nat)(v:af):ah:=
 match v with
 |.ea vs=>qC E s k vs[i]?
 |_=>.fail
def pL(str:Bool)(v:af):ah:=
 match str,v with
 |true,.str fc=>E.F.v1 (.int .i64 fc.length) fun v=>k v s
 |false,.bG _ es _=>E.F.v1 (.int .i64 es.length) fun v=>k v s
 |false,.cZ _ _ n _ _=>E.F.v1 (.int .i64 n) fun v=>k v s
 |_,_=>.fail
def copyV(d x:af):ah:=
 match d with
 |.cZ a off len _ sz=>
  match dL s x with
  |some (z,es)=>
   match s.get a with
   |some (.cells cs)=>
    bif Nat.beq z sz&&Nat.ble (off+len*sz) cs.length&&((es.take (min es.length len)).flatMap af.cells).all af.eO then
     E.F.l (dS cs off ((es.take (min es.length len)).flatMap af.cells)) fun cs=>
     match s.set a (.cells cs) with
     |some s=>E.F.v1 (.int .i64 (min es.length len:Nat)) fun v=>E.F.s s fun s=>k v s
     |none=>.fail
    else .fail
   |_=>.fail
  |none=>.fail
 |_=>.fail
def lQ(q:Nat)(d x:af):ah:=
 match d with
 |.cZ a off len cap sz=>bif Nat.beq sz q then copyV E s k (.cZ a off len cap sz) x else .fail
 |_=>.fail
def nd(zero:List af)(bytes:Nat)(l c:af):ah:=
 match e2 l with
 |some l=>
  match e2 c with
  |some c=>
   bif Nat.ble l c&&Nat.ble (c*bytes) 1099511627776 then
    E.F.l (List.replicate c zero).flatten fun cs=>E.F.v1 (.cZ (.l s.own.length) 0 l c zero.length) fun v=>E.F.s (s.new (.cells cs)) fun s=>k v s
   else .fail
  |none=>.fail
 |none=>.fail
def fl(n:Nat)(a v:af):ah:=
 match a with
 |.ref a off=>bif v.fh&&Nat.beq v.cells.length n then iu E s k a off v.cells else .fail
 |_=>.fail
def lk(m:Option Nat)(y:af)(n:Nat)(a v:af):ah:=
 fl E s (fun u t=>bif nW (e3 s m y) (e3 t m y) then k u t else .fail) n a v
def kd(d:IntKind)(v:af):ah:=
 match v with
 |.int _ n=>E.F.v1 (.int d (d.wrap n)) fun v=>k v s
 |_=>.fail
def ml(v:af):ah:=
 match v with
 |.str fc=>k (.str fc) s
 |_=>.fail
def hj(v:af):ah:=
 match v with
 |.str fc=>E.F.v1 (.bG 1 (fc.map fun b=>.int .u8 (b:Nat)) .any) fun v=>k v s
 |_=>.fail
def gD(v:af):ah:=
 match v with
 |.str _=>.fail
 |v=>
  match dL s v with
  |some (_,es)=>qC E s k ((h5 es).map .str)
  |none=>.fail
def nf(c a b:af):ah:=
 match c with
 |.bool t=>E.F.nR (bif t then a else b) fun v=>k v s
 |_=>.fail
def i6(v:af):ah:=
 match isNil v with
 |some false=>E.F.nR v fun v=>k v s
 |_=>.fail
def mS(v:af):ah:=
 match v with
 |.cZ (.l i) off len cap sz=>
  match s.own[i]? with
  |some (.cells cs)=>
   let es:=chunk sz len (cs.drop off)
   bif af.aY es&&Nat.ble (off+len*sz) cs.length&& !Nat.beq sz 0 then
    E.F.v1 (.bG sz es (if len=cap then .exact else .any)) fun v=>E.F.s {s with own:=s.own.set i .gone} fun s=>k v s
   else .fail
  |_=>.fail
 |_=>.fail
def hS(sz:Nat)(es:List af):ah:=
 bif af.aY es&&es.all (fun e=>e.fh&&Nat.beq e.cells.length sz) then E.F.v1 (.bG sz es .exact) fun v=>k v s else .fail
def jO(sz:Nat)(es:List af):ah:=
 bif af.kK s.aa es&&es.all (fun e=>e.fh&&Nat.beq e.cells.length sz) then
  E.F.v1 (.bG sz es (.dB (.l s.own.length))) fun v=>E.F.s (s.new (.tok es.length)) fun s=>k v s
 else .fail
def jP(sz:Nat)(es:List af):ah:=
 bif es.all (fun e=>e.fh&&Nat.beq e.cells.length sz) then
  E.F.l (es.flatMap af.cells) fun cs=>E.F.v1 (.cZ (.l s.own.length) 0 es.length es.length sz) fun v=>E.F.s (s.new (.cells cs)) fun s=>k v s
 else .fail
def lb(f:af)(args:List af):ah:=
 match f with
 |.fn f dI=>E.F.l (args++dI) fun args=>eA E s k kp f args
 |_=>.fail
def jQ(f:af)(args:List af):ah:=
 match f with
 |.fn f dI=>E.F.l (args++dI) fun args=>hF E s k f args
 |_=>.fail
def ks(xs:List (Option Nat×af))(f:af)(args:List af):ah:=
 match f with
 |.fn f dI=>E.F.l (args++dI) fun args=>h3 E s k kp xs f args
 |_=>.fail
def lc(f:af→af→Option af)(xs:List af):ah:=
 match xs with
 |x::xs=>qC E s k (uj f x xs)
 |[]=>.fail
def gX(q bytes:Nat)(b:Option Loc)(x y:af):ah:=
 match b with
 |some b=>h7 E s k q bytes b x y
 |none=>.fail
def kR(q bytes:Nat)(b:Option Loc)(x y:af):ah:=
 match x with
 |.bG sz es g=>gX E s k q bytes b (.bG sz es g) y
 |_=>.fail
def mm(q bytes:Nat)(b:Option Loc)(x y:af):ah:=
 match b with
 |some b=>kb E s k q bytes b x y
 |none=>.fail
def iD(z n:Nat)(x:af)(gn bX iJ:Option bC):ah:=
 match x with
 |.ref a off=>
  match dH E.aw ao gn 0,dH E.aw ao bX n,dH E.aw ao iJ n with
  |some l,some h,some m=>bif Nat.ble l h&&Nat.ble h m&&Nat.ble m n then E.F.v1 (.cZ a (if m=l then off else off+l*z) (h-l) (m-l) z) fun v=>k v s else .fail
  |_,_,_=>.fail
 |_=>.fail
def l8(b:Option Loc):ah:=
 match b with
 |some b=>
  match s.hi b (.map []) with
  |some (l,s)=>E.F.v1 (.map l) fun v=>E.F.s s fun s=>k v s
  |none=>.fail
 |none=>.fail
def ll(kJ:wE)(m x v:af):ah:=
 match m with
 |.map a=>
  match s.get a with
  |some (.map es)=>
   bif isKey kJ x&&v.fh&&s.hB a [x,v] then
    match putKey x v es with
    |some es=>
     match s.set a (.map es) with
     |some s=>E.F.s s fun s=>k .dead s
     |none=>.fail
    |none=>.fail
   else .fail
  |_=>.fail
 |_=>.fail
def entriesOf:af→Option (List (af×af))
 |.fj=>some []
 |.map a=>
  match s.get a with
  |some (.map es)=>some es
  |_=>none
 |_=>none
def lm(kJ:wE)(zero:af)(ok:Bool)(m x:af):ah:=
 bif isKey kJ x then
  match entriesOf s m with
  |some es=>
   match findKey x es with
   |some (some v)=>E.F.v1 (bif ok then .ea [v,.bool true] else v) fun v=>k v s
   |some none=>E.F.v1 (bif ok then .ea [zero,.bool false] else zero) fun v=>k v s
   |none=>.fail
  |none=>.fail
 else .fail
def aJ(op:gg):ah:=
 match op with
 |.move x=>E.F.nR (aq E.aw ao x) fun v=>k v s
 |.nb x=>E.F.nR (nV (aq E.aw ao x)) fun v=>k v s
 |.pick c a b=>nf E s k (aq E.aw ao c) (aq E.aw ao a) (aq E.aw ao b)
 |.alloc zero=>E.F.v1 (.ref (.l s.own.length) 0) fun v=>E.F.s (s.new (.cells zero)) fun s=>k v s
 |.e1 x=>bif (aq E.aw ao x).fh then E.F.v1 (.bI ((aq E.aw ao x).ap s.aa).cells) fun v=>k v s else .fail
 |.jX x=>bif (aq E.aw ao x).fh then E.F.l ((aq E.aw ao x).ap s.aa).cells fun cs=>E.F.v1 (.ref (.l s.own.length) 0) fun v=>E.F.s (s.new (.cells cs)) fun s=>k v s else .fail
 |.build zero parts=>qC E s k ((fk E.aw s.aa ao zero parts).map .agg)
 |.buildSlice sz parts=>hS E s k sz (parts.map (aq E.aw ao))
 |.oK x=>mS E s k (aq E.aw ao x)
 |.load n a=>d8 E s k n (aq E.aw ao a)
 |.store n a v=>fl E s k n (aq E.aw ao a) ((aq E.aw ao v).ap s.aa)
 |.la m y n a v=>lk E s k m (aq E.aw ao y) n (aq E.aw ao a) ((aq E.aw ao v).ap s.aa)
 |.nilCheck x=>i6 E s k (aq E.aw ao x)
 |.bin op x y=>qC E s k (an op (aq E.aw ao x) (aq E.aw ao y))
 |.eq neg e x y=>qC E s k ((lB e (aq E.aw ao x) (aq E.aw ao y)).map fun b=>.bool (bif neg then !b else b))
 |.un op x=>qC E s k (kl op (aq E.aw ao x))
 |.lj d x=>kd E s k d (aq E.aw ao x)
 |.nU x=>ml s k (aq E.aw ao x)
 |.gN x=>gD E s k (aq E.aw ao x)
 |.iY x=>hj E s k (aq E.aw ao x)
 |.jI t x=>E.F.v1 (.iface t ((aq E.aw ao x).ap s.aa)) fun v=>k v s
 |.ko f dI=>E.F.v1 (.fn f (dI.map fun x=>(aq E.aw ao x).ap s.aa)) fun v=>k v s
 |.makeSlice zero bytes l c=>nd E s k zero bytes (aq E.aw ao l) (aq E.aw ao c)
 |.kq x gn bX=>jN E ao s k (aq E.aw ao x) gn bX
 |.slice z x gn bX iJ=>jZ E ao s k z (aq E.aw ao x) gn bX iJ
 |.fieldAddr off a=>gO E s k off (aq E.aw ao a)
 |.field off n x=>lP E s k off n (aq E.aw ao x)
 |.iZ sz x i=>kL E s k sz (aq E.aw ao x) (aq E.aw ao i)
 |.e6 sz len x i=>hR E s k sz len (aq E.aw ao x) (aq E.aw ao i)
 |.mP x i=>h8 E s k (aq E.aw ao x) (aq E.aw ao i)
 |.mQ sz len n x i=>kr E s k sz len n (aq E.aw ao x) (aq E.aw ao i)
 |.extract x i=>kc E s k i (aq E.aw ao x)
 |.call f args=>E.F.l (args.map fun x=>(aq E.aw ao x).ap s.aa) fun args=>eA E s k kp f args
 |.eA f args=>lb E s k kp (aq E.aw ao f) (args.map fun x=>(aq E.aw ao x).ap s.aa)
 |.hA f args=>E.F.l (args.map fun x=>(aq E.aw ao x).ap s.aa) fun args=>hF E s k f args
 |.lM f args=>jQ E s k (aq E.aw ao f) (args.map fun x=>(aq E.aw ao x).ap s.aa)
 |.len b x=>pL E s k b (aq E.aw ao x)
 |.append q bytes b x y=>gX E s k q bytes (h6 E.aw ao b) (aq E.aw ao x) (aq E.aw ao y)
 |.copy q d x=>lQ E s k q (aq E.aw ao d) (aq E.aw ao x)
 |.min xs=>lc E s k min2 (xs.map fun x=>(aq E.aw ao x).ap s.aa)
 |.max xs=>lc E s k max2 (xs.map fun x=>(aq E.aw ao x).ap s.aa)
 |.makeMap b=>l8 E s k (h6 E.aw ao b)
 |.mR kJ m x v=>ll E s k kJ (aq E.aw ao m) ((aq E.aw ao x).ap s.aa) ((aq E.aw ao v).ap s.aa)
 |.lookup kJ zero ok m x=>lm E s k kJ zero ok (aq E.aw ao m) ((aq E.aw ao x).ap s.aa)
 |.lA iq f args=>E.F.l (args.map fun x=>(aq E.aw ao x).ap s.aa) fun args=>h3 E s k kp (iq.map fun x=>(x.1,aq E.aw ao x.2)) f args
 |.jY iq f args=>ks E s k kp (iq.map fun x=>(x.1,aq E.aw ao x.2)) (aq E.aw ao f) (args.map fun x=>(aq E.aw ao x).ap s.aa)
 |.ui neg x=>qC E s k (ya neg (aq E.aw ao x))
 |.iS z n x gn bX iJ=>iD E ao s k z n (aq E.aw ao x) gn bX iJ
 |.jK q bytes b x y=>mm E s k q bytes (h6 E.aw ao b) (aq E.aw ao x) (aq E.aw ao y)
 |.gB sz parts=>jO E s k sz (parts.map fun x=>(aq E.aw ao x).ap s.aa)
 |.gC sz parts=>jP E s k sz (parts.map fun x=>(aq E.aw ao x).ap s.aa)
 |.jL q bytes x y=>l7 E s k q bytes (yb s (aq E.aw ao x)) (aq E.aw ao y)
 |.jJ q bytes b x y=>kR E s k q bytes (h6 E.aw ao b) (aq E.aw ao x) (aq E.aw ao y)
 |.no=>.fail
end
def mn(g:Option (Nat×Bool))(ao:eL)(k:Bool→ah):ah:=
 match g with
 |none=>k true
 |some (t,want)=>
  match ao.get t with
  |.bool b=>k (b==want)
  |.ea _=>k false
  |_=>.fail
def fw(E:Env):List cT→eL→ag→(eL→ag→ah)→(af→eL→ag→ah)→ah
 |[],ao,s,fin,_=>fin ao s
 |o::os,ao,s,fin,e=>
  mn o.guard ao fun w=>
   bif w then aJ E ao.get s (fun v s=>i5 ao o.dst v fun ao=>fw E os ao s fin e) (fun v s=>e v ao s) o.op
   else i5 ao o.dst (.ea []) fun ao=>fw E os ao s fin e
def fX(A:Nat→List Nat)(i:Nat):Nat→List Nat→List Nat
 |0,_=>[]
 |k+1,m=>bif m.elem k then(bif Nat.beq k i then fX A i k (A k++m) else k::fX A i k (A k++m)) else fX A i k m
def qF:List af→Option (List Nat)
 |[]=>some []
 |.int .i64 n::l=>if 0≤n then(qF l).map (n.toNat:: ·) else none
 |_::_=>none
def nX:af→Option (List Nat)
 |.agg cs=>
  match (cs[2]? :Option af) with
  |some (.bG 1 es _)=>qF es
  |_=>none
 |_=>none
def sj:List af→Option (List (List Nat))
 |[]=>some []
 |e::es=>(nX e).bind fun a=>(sj es).map (a:: ·)
def zO(es:List af)(i:Int):Option (List af):=
 match sj es with
 |some A=>bif decide (0≤i)&&Nat.blt i.toNat es.length&&Nat.ble es.length 40&&A.all (fun l=>Nat.ble l.length 1000&&l.all (Nat.blt · es.length)) then some ((fX (A.getD · []) i.toNat (i.toNat+1) [i.toNat]).map fun k=>.int .i64 (k:Nat)) else none
 |none=>none
def qG(s:ag)(j:Nat)(dI:List af):Option (List af):=
 match j,dI with
 |0,[.bI [.int .i64 i],.bI [v]]=>(dL s v).bind fun p=>bif Nat.beq p.1 12 then zO p.2 i else none
 |_,_=>none
def fY(s s':ag):af→Bool
 |.bI [.cZ a _ _ _ _]=>match s.get a,s'.get a with
  |some (.cells cs),some (.cells e)=>af.lC cs e
  |_,_=>false
 |_=>true
def g5(step:af→ag→(qb→ag→ah)→ah)(hN:ag)(dI:List af):List af→ag→(qb→ag→ah)→ah
 |[],s,k=>k .norm s
 |x::xs,s,k=>step x s fun e s=>
  match e with
  |.norm=>bif dI.all (fY hN s) then g5 step hN dI xs s k else .fail
  |e=>k e s
def nY(j f:Nat)(g:af)(step:af→ag→(qb→ag→ah)→ah)(s:ag)(k:qb→ag→ah):ah:=
 match g with
 |.fn wF dI=>bif Nat.beq f wF then(match qG s j dI with
  |some xs=>g5 step s dI xs s k
  |none=>.fail) else .fail
 |_=>.fail
def exec(E:Env):ad→mM
 |.skip,ao,s,k=>k .norm ao s
 |.region none ops,ao,s,k=>fw E ops ao s (fun ao s=>k .norm ao s) (fun _ _ _=>.fail)
 |.region (some nc) ops,ao,s,k=>bif nc.all (qE E.aw ao.get) then fw E ops ao s (fun ao s=>k .norm ao s) (fun _ _ _=>.fail) else .fail
 |.seq a b,ao,s,k=>exec E a ao s (ga (exec E b) k)
 |.mask m a,ao,s,k=>eL.jD m (fun ao=>exec E a ao s k) ao
 |.cond c a b,ao,s,k=>
  match aq E.aw ao.get c with
  |.bool t=>bif t then exec E a ao s k else exec E b ao s k
  |_=>.fail
 |.block id c,ao,s,k=>exec E c ao s (ek id k)
 |.loop bS c,ao,s,k=>eL.jD bS (fun ao=>E.loop (exec E c) bS ao s k) ao
 |.exit id,ao,s,k=>k (.exit id) ao s
 |.scope c,ao,s,k=>exec E c ao s k
 |.ret,ao,s,k=>k .ret ao s
 |.range j f g p a b,ao,s,k=>nY j f (aq E.aw ao.get g) (fun x s lN=>i5 ao (some p) x fun ep=>exec E a ep s (C0 (exec E b) fun e _ s=>lN e s)) s fun e s=>k e ao s
def gr(s:ag)(i off len cap sz:Nat):Option af:=
 match s.own[i]? with
 |some (.cells cs)=>let es:=chunk sz len (cs.drop off);if af.aY es&&Nat.ble (off+len*sz) cs.length&& !Nat.beq sz 0 then some (.bG sz es (if len=cap then .exact else .any)) else none
 |_=>none
def gp(s:ag):af→Option af
 |.cZ (.l i) off len cap sz=>gr s i off len cap sz
 |.cZ (.g d i) off len cap sz=>if d=s.aa then gr s i off len cap sz else if d<s.aa then some (.cZ (.g d i) off len cap sz) else none
 |.ref (.g d i) off=>if d<s.aa then some (.ref (.g d i) off) else none
 |.bG sz es (.dB (.l _))=>if af.aY es then some (.bG sz es .any) else none
 |.bG sz es (.dB (.g d i))=>if d<s.aa then some (.bG sz es (.dB (.g d i))) else if af.aY es then some (.bG sz es .any) else none
 |.map (.g d i)=>if d<s.aa then some (.map (.g d i)) else none
 |.fn f dI=>if af.aY dI then some (.fn f dI) else if Nat.blt 0 s.aa&&af.kK (s.aa-1) dI then some (.fn f dI) else none
 |v=>if v.bd then some v else none
def fs{α β:Type}(f:α→Option β):List α→Option (List β)
 |[]=>some []
 |x::xs=>(f x).bind fun y=>(fs f xs).map fun e=>y::e
def nt(s:ag):af→Option af
 |.agg cs=>(fs (gp s) cs).map .agg
 |v=>gp s v
def jR(s:ag)(sz:Nat)(es:List af):Option af:=if af.aY es then some (.bG sz es .any) else(fs (nt s) es).bind fun es=>if af.aY es then some (.bG sz es .any) else none
def ef(s:ag):af→Option af
 |.bG sz es (.dB (.l _))=>jR s sz es
 |.bG sz es (.dB (.g d i))=>if d<s.aa then some (.bG sz es (.dB (.g d i))) else jR s sz es
 |v=>gp s v
def freeze(s:ag):af→Option af
 |.agg cs=>(fs (ef s) cs).map .agg
 |v=>ef s v
def qH(ao:eL)(s:ag):sI→Option af
 |.t n=>some (ao.get n)
 |.cell a n=>
  match ao.get a with
  |.ref a off=>
   match s.get a,n with
   |some (.cells cs),none=>cs[off]?
   |some (.cells cs),some n=>if Nat.ble (off+n) cs.length then some (.agg ((cs.drop off).take n)) else none
   |_,_=>none
  |_=>none
def sJ:List af→af
 |[v]=>v
 |vs=>.ea vs
def finish(F:aW)(fn:c0)(ao:eL)(s:ag):ah:=
 match fs (qH ao s) fn.results with
 |some vs=>
  if fn.bS then F.l (vs.map (af.ap s.aa)) fun vs=>.ok (sJ vs) s
  else
   match fs (freeze s) vs with
   |some vs=>
    match s.up with
    |own::up=>F.l vs fun vs=>F.s {own,up,ro:=s.ro} fun s=>.ok (sJ vs) s
    |[]=>.fail
   |none=>.fail
 |none=>.fail
def Kd(F:aW)(fn:c0):f9:=fun x ao s=>
 match x with
 |.norm=>finish F fn ao s
 |.ret=>finish F fn ao s
 |_=>.fail
def b0:List af→Nat→eL→(eL→ah)→ah
 |[],_,ao,k=>k ao
 |v::vs,i,ao,k=>ao.iX 12 i v fun ao=>b0 vs (i+1) ao k
def call(F:aW)(T:Nat→Option c0)(G:Nat→af)(X:Nat→List af→ag→ah):Nat→Nat→List af→ag→ah
 |0,_,_,_=>.fail
 |n+1,f,args,s=>
  match T f with
  |none=>X f args s
  |some fn=>
   bif Nat.beq args.length fn.abg then
    b0 args 0 .e fun ao=>exec {F,aw:=G,call:=call F T G X n,loop:=fun step bS=>dV step bS n} fn.body ao
     (if fn.bS then s else {own:=[],up:=s.own::s.up,ro:=s.ro})
     (Kd F fn)
   else .fail
theorem Loc.iE{a b:Loc}:a.same b=true↔a=b:=by cases a<;> cases b<;> simp [Loc.same]
theorem fi.iE{a b:fi}:a.same b=true↔a=b:=by cases a<;> cases b<;> simp [fi.same,Loc.iE]
mutual
theorem af.iE:∀(a b:af),a.same b=true↔a=b
 |.dead,b=>by cases b<;> simp [af.same]
 |.hP,b=>by cases b<;> simp [af.same]
 |.h2,b=>by cases b<;> simp [af.same]
 |.kk l,b=>by cases b<;> simp [af.same]
 |.fj,b=>by cases b<;> simp [af.same]
 |.hQ,b=>by cases b<;> simp [af.same]
 |.bool a,b=>by cases b<;> simp [af.same]
 |.int k a,b=>by cases b<;> simp [af.same]
 |.str a,b=>by cases b<;> simp [af.same]
 |.bG z a g,b=>by cases b<;> simp [af.same,fi.iE,af.jr a,and_assoc];intro _;exact And.comm
 |.cZ a x y z q,b=>by cases b<;> simp [af.same,Loc.iE,and_assoc]
 |.ref a x,b=>by cases b<;> simp [af.same,Loc.iE]
 |.bI a,b=>by cases b<;> simp [af.same,af.jr a]
 |.fn f a,b=>by cases b<;> simp [af.same,af.jr a]
 |.map a,b=>by cases b<;> simp [af.same,Loc.iE]
 |.iface t v,b=>by cases b<;> simp [af.same,af.iE v]
 |.agg a,b=>by cases b<;> simp [af.same,af.jr a]
 |.ea a,b=>by cases b<;> simp [af.same,af.jr a]
theorem af.jr:∀(a b:List af),af.lC a b=true↔a=b
 |[],b=>by cases b<;> simp [af.lC]
 |x::xs,b=>by cases b<;> simp [af.lC,af.iE x,af.jr xs]
end
theorem xu{a b:Option (List af)}:nW a b=true↔∃l,a=some l∧b=some l:=by cases a<;> cases b<;> simp only[nW,af.jr,bW,bj,reduceCtorEq,false_and,and_false,exists_false,exists_eq_left'];exact eq_comm
def hO(n:Nat)(k:Nat→ah):ah:=Nat.casesOn n (k 0) (fun p=>k (p+1))
def pv(n:Int)(k:Int→ah):ah:=
 match n with
 |.ofNat m=>hO m fun m=>k (.ofNat m)
 |.negSucc m=>hO m fun m=>k (.negSucc m)
def nZ:List Nat→(List Nat→ah)→ah
 |[],k=>k []
 |x::xs,k=>hO x fun x=>nZ xs fun xs=>k (x::xs)
def qI(v:af)(k:af→ah):ah:=
 match v with
 |.dead=>k .dead
 |.bool b=>match b with
  |true=>k (.bool true)
  |false=>k (.bool false)
 |.int i n=>pv n fun n=>k (.int i n)
 |.str s=>k (.str s)
 |.bG sz es g=>k (.bG sz es g)
 |.cZ a off len cap sz=>k (.cZ a off len cap sz)
 |.ref a off=>k (.ref a off)
 |.bI cs=>k (.bI cs)
 |.hP=>k .hP
 |.fn f dI=>k (.fn f dI)
 |.h2=>k .h2
 |.kk l=>k (.kk l)
 |.map a=>k (.map a)
 |.fj=>k .fj
 |.iface t v=>k (.iface t v)
 |.hQ=>k .hQ
 |.agg cs=>k (.agg cs)
 |.ea vs=>k (.ea vs)
def lR:List af→(List af→ah)→ah
 |[],k=>k []
 |x::xs,k=>qI x fun x=>lR xs fun xs=>k (x::xs)
def l9(a:Loc)(k:Loc→ah):ah:=
 match a with
 |.l i=>hO i fun i=>k (.l i)
 |.g d i=>hO d fun d=>hO i fun i=>k (.g d i)
def ul(g:fi)(k:fi→ah):ah:=
 match g with
 |.nil=>k .nil
 |.exact=>k .exact
 |.any=>k .any
 |.dB a=>l9 a fun a=>k (.dB a)
def yc(v:af)(k:af→ah):ah:=
 match v with
 |.dead=>k .dead
 |.bool b=>match b with
  |true=>k (.bool true)
  |false=>k (.bool false)
 |.int i n=>pv n fun n=>k (.int i n)
 |.str s=>nZ s fun s=>k (.str s)
 |.bG sz es g=>lR es fun es=>ul g fun g=>k (.bG sz es g)
 |.cZ a off len cap sz=>l9 a fun a=>hO off fun off=>hO len fun len=>hO cap fun cap=>k (.cZ a off len cap sz)
 |.ref a off=>l9 a fun a=>hO off fun off=>k (.ref a off)
 |.bI cs=>lR cs fun cs=>k (.bI cs)
 |.hP=>k .hP
 |.fn f dI=>lR dI fun dI=>k (.fn f dI)
 |.h2=>k .h2
 |.kk l=>k (.kk l)
 |.map a=>l9 a fun a=>k (.map a)
 |.fj=>k .fj
 |.iface t v=>qI v fun v=>k (.iface t v)
 |.hQ=>k .hQ
 |.agg cs=>lR cs fun cs=>k (.agg cs)
 |.ea vs=>lR vs fun vs=>k (.ea vs)
def sk(o:du)(k:du→ah):ah:=
 match o with
 |.cells cs=>k (.cells cs)
 |.tok n=>hO n fun n=>k (.tok n)
 |.map es=>k (.map es)
 |.gone=>k .gone
def mo:List du→(List du→ah)→ah
 |[],k=>k []
 |x::xs,k=>sk x fun x=>mo xs fun xs=>k (x::xs)
def nu:List (List du)→(List (List du)→ah)→ah
 |[],k=>k []
 |x::xs,k=>mo x fun x=>nu xs fun xs=>k (x::xs)
def um(s:ag)(k:ag→ah):ah:=mo s.own fun own=>nu s.up fun up=>nu s.ro fun ro=>k {own,up,ro}
def aW.full:aW:={nR:=qI,v1:=yc,l:=lR,s:=um}
theorem kt(n:Nat)(k:Nat→ah):hO n k=k n:=by cases n<;> rfl
theorem qJ(n:Int)(k:Int→ah):pv n k=k n:=by cases n<;> simp [pv,kt]
theorem pM:∀(l:List Nat) (k:List Nat→ah),nZ l k=k l
 |[],_=>rfl
 |x::xs,k=>by simp [nZ,kt,pM xs]
theorem qd(v:af)(k:af→ah):qI v k=k v:=by cases v<;> simp only[qI,qJ];split<;> rfl
theorem qe:∀(l:List af) (k:List af→ah),lR l k=k l
 |[],_=>rfl
 |x::xs,k=>by simp [lR,qd,qe xs]
theorem qK(a:Loc)(k:Loc→ah):l9 a k=k a:=by cases a<;> simp [l9,kt]
theorem zP(a:fi)(k:fi→ah):ul a k=k a:=by cases a<;> simp [ul,qK]
theorem C1(v:af)(k:af→ah):yc v k=k v:=by cases v<;> simp only[yc,qJ,pM,qe,qK,zP,kt,qd];split<;> rfl
theorem yd(o:du)(k:du→ah):sk o k=k o:=by cases o<;> simp [sk,kt]
theorem ng:∀(l:List du) (k:List du→ah),mo l k=k l
 |[],_=>rfl
 |x::xs,k=>by simp [mo,yd,ng xs]
theorem qL:∀(l:List (List du)) (k:List (List du)→ah),nu l k=k l
 |[],_=>rfl
 |x::xs,k=>by simp [nu,ng,qL xs]
theorem zQ(s:ag)(k:ag→ah):um s k=k s:=by simp [um,ng,qL]
theorem aW.zR:aW.full=aW.not:=by
 unfold aW.full aW.not;congr<;> funext v k
 ·exact qd v k
 ·exact C1 v k
 ·exact qe v k
 ·exact zQ v k
def tN(f:Nat):List (Nat×c0)→Option c0
 |[]=>none
 |(g,c)::l=>bif Nat.beq f g then some c else tN f l
theorem sK{f:Nat}{c:c0}:∀{l:List (Nat×c0)},tN f l=some c→(f,c)∈l
 |[],h=>by cases h
 |(g,d)::l,h=>by
  simp only[tN] at h;cases e:Nat.beq f g with
  |true=>
   rw[e] at h
   have:=dk e;subst this;obtain rfl:=Option.some.inj h;exact List.mem_cons_self ..
  |false=>rw[e] at h;exact List.mem_cons_of_mem _ (sK h)
end Go.Ab
end
section
namespace Go.Ab
structure bi where
 F:Addr→Option Value
 n:Nat→Nat
 loc:Nat→Nat→Nat
 lD:Nat→Nat→Nat→Option (Addr×Nat×Nat)
def iF(κ:bi)(D:Nat)(sz:Nat):fi→Nat→Addr→Nat→Prop
 |.nil,_,_,_=>False
 |.exact,n,_,cap=>cap=n
 |.any,_,_,_=>True
 |.dB (.g d i),n,a,cap=>d<D∧i<κ.n d∧κ.lD d i n=some (a,cap,sz)
 |.dB (.l _),_,_,_=>False
def uo(g:fi)(es:List af):Prop:=(∀e,e∈es→e.bd=true)∨∃d j,g=.dB (.g d j)∧∀e,e∈es→e.low d=true
inductive dF (κ:bi) (D:Nat):af→Value→Prop
 |dead (x:Value):dF κ D .dead x
 |bool (b:Bool):dF κ D (.bool b) (.bool b)
 |int (k:IntKind) (n:Int):dF κ D (.int k n) (.int k n)
 |str (fc:List Nat) (s:ByteArray) (h:s.data.toList.map UInt8.toNat=fc):dF κ D (.str fc) (.string s)
 |kS (sz:Nat):dF κ D (.bG sz [] .nil) (.slice none 0 0)
 |bG (sz:Nat) (es:List af) (g:fi) (a:Addr) (cap:Nat) (dw:Nat→Value) (cC:iF κ D sz g es.length a cap) (dp:es.length≤cap) (a6:es≠[]→a.spot=none)
   (e4:∀e,e∈es→e.cells.length=sz) (aT:uo g es)
   (h9:∀j,j<(es.flatMap af.cells).length→κ.F (a.add j)=some (dw j))
   (bO:∀(j:Nat) (c:af),(es.flatMap af.cells)[j]? =some c→dF κ D c (dw j)):dF κ D (.bG sz es g) (.slice (some a) es.length cap)
 |cZ (d i off len cap lS sz:Nat) (cS:d<D) (bX:i<κ.n d) (bK:len≤lS) (a3:lS=cap∨(cap=0∧0<len∧off=0∧κ.lD d i len=some (⟨κ.loc d i,0,none⟩,lS,sz))):dF κ D (.cZ (.g d i) off len cap sz) (.slice (some ⟨κ.loc d i,off,none⟩) len lS)
 |ref (d i off:Nat) (cS:d<D) (bX:i<κ.n d):dF κ D (.ref (.g d i) off) (.pointer (some ⟨κ.loc d i,off,none⟩))
 |bI (cs:List af) (a:Addr) (dw:Nat→Value) (a6:a.spot=none) (h9:∀j,j<cs.length→κ.F (a.add j)=some (dw j))
   (bO:∀(j:Nat) (c:af),cs[j]? =some c→dF κ D c (dw j)):dF κ D (.bI cs) (.pointer (some a))
 |hP:dF κ D .hP (.pointer none)
 |fn (f:Nat) (cs:List af) (xs:List Value) (bK:xs.length=cs.length) (bO:∀(j:Nat) (c:af) (x:Value),cs[j]? =some c→xs[j]? =some x→dF κ D c x):dF κ D (.fn f cs) (.func (.func f) #[] xs.toArray)
 |h2:dF κ D .h2 .nilFunc
 |kk (l:Nat):dF κ D (.kk l) (.func (.yield l) #[] #[])
 |fj:dF κ D .fj (.map none)
 |map (d i:Nat) (cS:d<D) (bX:i<κ.n d):dF κ D (.map (.g d i)) (.map (some (κ.loc d i)))
 |iface (t:Nat) (v:af) (x:Value) (h:dF κ D v x):dF κ D (.iface t v) (.iface t x)
 |hQ:dF κ D .hQ .nilIface
 |agg (cs:List af) (xs:List Value) (bK:xs.length=cs.length) (bO:∀(j:Nat) (c:af) (x:Value),cs[j]? =some c→xs[j]? =some x→dF κ D c x):dF κ D (.agg cs) (.agg xs.toArray)
 |ea (cs:List af) (xs:List Value) (bK:xs.length=cs.length) (bO:∀(j:Nat) (c:af) (x:Value),cs[j]? =some c→xs[j]? =some x→dF κ D c x):dF κ D (.ea cs) (.tuple xs.toArray)
def er(κ:bi)(D:Nat)(cs:List af)(xs:List Value):Prop:=xs.length=cs.length∧∀(j:Nat) (c:af) (x:Value),cs[j]? =some c→xs[j]? =some x→dF κ D c x
structure gS (κ κ':bi) (D:Nat):Prop where
 F:∀a v,κ.F a=some v→κ'.F a=some v
 n:∀d,d<D→κ.n d≤κ'.n d
 loc:∀d i,d<D→i<κ.n d→κ'.loc d i=κ.loc d i
 lD:∀d i n x,d<D→i<κ.n d→κ.lD d i n=some x→κ'.lD d i n=some x
theorem gS.refl(κ:bi)(D:Nat):gS κ κ D:=⟨fun _ _ h=>h,fun _ _=>aC _,fun _ _ _ _=>rfl,fun _ _ _ _ _ _ h=>h⟩
theorem gS.trans{κ κ' q:bi}{D:Nat}(h:gS κ κ' D)(k:gS κ' q D):gS κ q D:=
 ⟨fun a v e=>k.F a v (h.F a v e),fun d cS=>Nat.le_trans (h.n d cS) (k.n d cS),
  fun d i cS bX=>(k.loc d i cS (f8 bX (h.n d cS))).trans (h.loc d i cS bX),
  fun d i n x cS bX e=>k.lD d i n x cS (f8 bX (h.n d cS)) (h.lD d i n x cS bX e)⟩
theorem gS.low{κ κ':bi}{D q:Nat}(h:gS κ κ' D)(e:q≤D):gS κ κ' q:=
 ⟨h.F,fun d cS=>h.n d (f8 cS e),fun d i cS=>h.loc d i (f8 cS e),fun d i n x cS=>h.lD d i n x (f8 cS e)⟩
theorem iF.mono{κ κ':bi}{D sz n cap:Nat}{g:fi}{a:Addr}(h:iF κ D sz g n a cap)(k:gS κ κ' D):iF κ' D sz g n a cap:=by unfold iF at *;split at h<;> simp_all;obtain⟨au,az,b3⟩:=h;exact⟨f8 az (k.n _ au),k.lD _ _ _ _ au az b3⟩
theorem dF.mono{κ κ':bi}{D:Nat}{v:af}{x:Value}(h:dF κ D v x)(k:gS κ κ' D):dF κ' D v x:=by
 induction h with
 |dead x=>exact .dead x
 |bool b=>exact .bool b
 |int k n=>exact .int k n
 |str fc s h=>exact .str fc s h
 |kS sz=>exact .kS sz
 |bG sz es g a cap dw cC dp a6 e4 aT h9 bO e=>exact .bG sz es g a cap dw (cC.mono k) dp a6 e4 aT (fun j df=>k.F _ _ (h9 j df)) e
 |cZ d i off len cap lS sz cS bX bK a3=>rw[←k.loc d i cS bX];exact .cZ d i off len cap lS sz cS (f8 bX (k.n d cS)) bK (a3.imp id fun⟨au,az,b3,dJ⟩=>⟨au,az,b3,by rw[k.loc d i cS bX];exact k.lD d i len _ cS bX dJ⟩)
 |ref d i off cS bX=>rw[←k.loc d i cS bX];exact .ref d i off cS (f8 bX (k.n d cS))
 |bI cs a dw a6 h9 bO e=>exact .bI cs a dw a6 (fun j df=>k.F _ _ (h9 j df)) e
 |hP=>exact .hP
 |fn f cs xs bK bO e=>exact .fn f cs xs bK e
 |h2=>exact .h2
 |kk l=>exact .kk l
 |fj=>exact .fj
 |map d i cS bX=>rw[←k.loc d i cS bX];exact .map d i cS (f8 bX (k.n d cS))
 |iface t v x h e=>exact .iface t v x e
 |hQ=>exact .hQ
 |agg cs xs bK bO e=>exact .agg cs xs bK e
 |ea cs xs bK bO e=>exact .ea cs xs bK e
theorem dF.up{κ:bi}{D r:Nat}{v:af}{x:Value}(h:dF κ D v x)(q:D≤r):dF κ r v x:=by
 induction h with
 |dead x=>exact .dead x
 |bool b=>exact .bool b
 |int k n=>exact .int k n
 |str fc s h=>exact .str fc s h
 |kS sz=>exact .kS sz
 |bG sz es g a cap dw cC dp a6 e4 aT h9 bO e=>refine .bG sz es g a cap dw ?_ dp a6 e4 aT h9 e;unfold iF at *;split at cC<;> simp_all;exact f8 cC.1 q
 |cZ d i off len cap lS sz cS bX bK a3=>exact .cZ d i off len cap lS sz (f8 cS q) bX bK a3
 |ref d i off cS bX=>exact .ref d i off (f8 cS q) bX
 |bI cs a dw a6 h9 bO e=>exact .bI cs a dw a6 h9 e
 |hP=>exact .hP
 |fn f cs xs bK bO e=>exact .fn f cs xs bK e
 |h2=>exact .h2
 |kk l=>exact .kk l
 |fj=>exact .fj
 |map d i cS bX=>exact .map d i (f8 cS q) bX
 |iface t v x h e=>exact .iface t v x e
 |hQ=>exact .hQ
 |agg cs xs bK bO e=>exact .agg cs xs bK e
 |ea cs xs bK bO e=>exact .ea cs xs bK e
theorem iK{cs:List af}(h:af.aY cs=true){j:Nat}{c:af}(a3:cs[j]? =some c):c.bd=true:=by
 induction cs generalizing j with
 |nil=>simp at a3
 |cons v vs e=>
  simp only[af.aY,bn] at h;cases j with
  |zero=>simp at a3;exact a3 ▸ h.1
  |succ j=>exact e h.2 (by simpa using a3)
theorem ej{cs:List af}:af.aY cs=true↔∀c,c∈cs→c.bd=true:=by
 induction cs with
 |nil=>simp [af.aY]
 |cons v vs e=>simp [af.aY,e]
theorem ia{e:af}(h:e.bd=true){c:af}(a3:c∈e.cells):c.bd=true:=by
 unfold af.cells at a3;split at a3
 ·exact ej.1 (by simpa [af.bd] using h) c a3
 ·simp at a3;exact a3 ▸ h
theorem dF.bd{κ:bi}{D:Nat}{v:af}{x:Value}(h:dF κ D v x)(aT:v.bd=true){κ':bi}(u:Nat)(h9:∀a v,κ.F a=some v→κ'.F a=some v):dF κ' u v x:=by
 induction h with
 |dead x=>exact .dead x
 |bool b=>exact .bool b
 |int k n=>exact .int k n
 |str fc s h=>exact .str fc s h
 |kS sz=>exact .kS sz
 |bG sz es g a cap dw cC dp a6 e4 io r bO q=>
  refine .bG sz es g a cap dw ?_ dp a6 e4 io (fun j df=>h9 _ _ (r j df)) (fun j c a3=>q j c a3 ?_)
  ·cases g<;> simp_all [af.bd,iF]
  ·obtain⟨e,he,y⟩:=List.mem_flatMap.1 (List.mem_of_getElem? a3);rcases io with io|⟨d,j,rfl,_⟩
   ·exact ia (io e he) y
   ·simp [af.bd] at aT
 |cZ d i off len cap lS sz cS bX bK a3=>simp [af.bd] at aT
 |ref d i off cS bX=>simp [af.bd] at aT
 |bI cs a dw a6 r bO q=>exact .bI cs a dw a6 (fun j df=>h9 _ _ (r j df)) (fun j c a3=>q j c a3 (iK (by simpa [af.bd] using aT) a3))
 |hP=>exact .hP
 |fn f cs xs bK bO q=>exact .fn f cs xs bK (fun j c x a3 a8=>q j c x a3 a8 (iK (by simpa [af.bd] using aT) a3))
 |h2=>exact .h2
 |kk l=>exact .kk l
 |fj=>exact .fj
 |map d i cS bX=>simp [af.bd] at aT
 |iface t v x h q=>exact .iface t v x (q (by simpa [af.bd] using aT))
 |hQ=>exact .hQ
 |agg cs xs bK bO q=>exact .agg cs xs bK (fun j c x a3 a8=>q j c x a3 a8 (iK (by simpa [af.bd] using aT) a3))
 |ea cs xs bK bO q=>exact .ea cs xs bK (fun j c x a3 a8=>q j c x a3 a8 (iK (by simpa [af.bd] using aT) a3))
theorem js{v:af}(h:v.bd=true)(d:Nat):v.ap d=v:=by cases v<;> simp_all [af.bd,af.ap];rename_i g;cases g<;> simp_all [af.bd,fi.ap]
theorem nv{d:Nat}{cs:List af}(h:af.kK d cs=true){j:Nat}{c:af}(a3:cs[j]? =some c):c.low d=true:=by
 induction cs generalizing j with
 |nil=>simp at a3
 |cons v vs e=>
  simp only[af.kK,bn] at h;cases j with
  |zero=>simp at a3;exact a3 ▸ h.1
  |succ j=>exact e h.2 (by simpa using a3)
theorem Loc.ke{d fL:Nat}(h:d≤fL){a:Loc}(q:a.low d=true):a.low fL=true:=by
 cases a with
 |l i=>cases q
 |g e i=>exact eQ (Nat.le_trans (d0 q) h)
mutual
theorem af.ke{d fL:Nat}(h:d≤fL):∀(v:af),v.low d=true→v.low fL=true
 |.dead,_|.bool _,_|.int _ _,_|.str _,_|.hP,_|.h2,_|.kk _,_|.fj,_|.hQ,_=>rfl
 |.bG sz es g,bO=>by
  cases g with
  |dB a=>exact Loc.ke h bO
  |nil=>rfl
  |exact=>rfl
  |any=>rfl
 |.cZ a _ _ _ _,bO=>Loc.ke h bO
 |.ref a _,bO=>Loc.ke h bO
 |.map a,bO=>Loc.ke h bO
 |.bI cs,bO=>af.mq h cs bO
 |.fn _ cs,bO=>af.mq h cs bO
 |.agg cs,bO=>af.mq h cs bO
 |.ea cs,bO=>af.mq h cs bO
 |.iface _ v,bO=>af.ke h v bO
theorem af.mq{d fL:Nat}(h:d≤fL):∀(vs:List af),af.kK d vs=true→af.kK fL vs=true
 |[],_=>rfl
 |v::vs,bO=>by simp only[af.kK,bn] at bO ⊢;exact⟨af.ke h v bO.1,af.mq h vs bO.2⟩
end
mutual
theorem af.lT(d:Nat):∀(v:af),v.bd=true→v.low d=true
 |.dead,_|.bool _,_|.int _ _,_|.str _,_|.hP,_|.h2,_|.kk _,_|.fj,_|.hQ,_=>rfl
 |.bG sz es g,bO=>by
  cases g with
  |dB a=>simp [af.bd] at bO
  |nil=>rfl
  |exact=>rfl
  |any=>rfl
 |.cZ a _ _ _ _,bO=>by simp [af.bd] at bO
 |.ref a _,bO=>by simp [af.bd] at bO
 |.map a,bO=>by simp [af.bd] at bO
 |.bI cs,bO=>af.iL d cs bO
 |.fn _ cs,bO=>af.iL d cs bO
 |.agg cs,bO=>af.iL d cs bO
 |.ea cs,bO=>af.iL d cs bO
 |.iface _ v,bO=>af.lT d v bO
theorem af.iL(d:Nat):∀(vs:List af),af.aY vs=true→af.kK d vs=true
 |[],_=>rfl
 |v::vs,bO=>by simp only[af.aY,bn] at bO;simp only[af.kK,bn];exact⟨af.lT d v bO.1,af.iL d vs bO.2⟩
end
theorem kT{d:Nat}{cs:List af}:af.kK d cs=true↔∀c,c∈cs→c.low d=true:=by
 induction cs with
 |nil=>simp [af.kK]
 |cons v vs e=>simp [af.kK,e]
theorem uq{d:Nat}{e:af}(h:e.low d=true){c:af}(a3:c∈e.cells):c.low d=true:=by
 unfold af.cells at a3;split at a3
 ·exact kT.1 (by simpa [af.low] using h) c a3
 ·simp at a3;exact a3 ▸ h
theorem dF.lower{κ:bi}{D d:Nat}{v:af}{x:Value}(h:dF κ D v x)(bK:v.low d=true):dF κ (d+1) v x:=by
 induction h with
 |dead x=>exact .dead x
 |bool b=>exact .bool b
 |int k n=>exact .int k n
 |str fc s h=>exact .str fc s h
 |kS sz=>exact .kS sz
 |bG sz es g a cap dw cC dp a6 e4 io u bO q=>
  refine .bG sz es g a cap dw ?_ dp a6 e4 io u (fun j c a3=>?_)
  ·cases g with
   |dB l=>
    cases l with
    |l i=>simp [af.low,Loc.low] at bK
    |g e i=>exact⟨Nat.lt_succ_of_le (d0 (by simpa [af.low,Loc.low] using bK)),cC.2⟩
   |nil=>exact cC
   |exact=>exact cC
   |any=>exact cC
  ·obtain⟨e,he,y⟩:=List.mem_flatMap.1 (List.mem_of_getElem? a3);rcases io with io|⟨fL,hI,rfl,io⟩
   ·exact(bO j c a3).bd (ia (io e he) y) _ (fun _ _ h=>h)
   ·exact q j c a3 (af.ke (d0 (by simpa [af.low,Loc.low] using bK)) c (uq (io e he) y))
 |cZ e i off len cap lS sz cS bX r a3=>exact .cZ e i off len cap lS sz (Nat.lt_succ_of_le (d0 (by simpa [af.low,Loc.low] using bK))) bX r a3
 |ref e i off cS bX=>exact .ref e i off (Nat.lt_succ_of_le (d0 (by simpa [af.low,Loc.low] using bK))) bX
 |bI cs a dw a6 u bO q=>exact .bI cs a dw a6 u (fun j c a3=>q j c a3 (nv (by simpa [af.low] using bK) a3))
 |hP=>exact .hP
 |fn f cs xs r bO q=>exact .fn f cs xs r (fun j c x a3 a8=>q j c x a3 a8 (nv (by simpa [af.low] using bK) a3))
 |h2=>exact .h2
 |kk l=>exact .kk l
 |fj=>exact .fj
 |map e i cS bX=>exact .map e i (Nat.lt_succ_of_le (d0 (by simpa [af.low,Loc.low] using bK))) bX
 |iface t v x h q=>exact .iface t v x (q (by simpa [af.low] using bK))
 |hQ=>exact .hQ
 |agg cs xs r bO q=>exact .agg cs xs r (fun j c x a3 a8=>q j c x a3 a8 (nv (by simpa [af.low] using bK) a3))
 |ea cs xs r bO q=>exact .ea cs xs r (fun j c x a3 a8=>q j c x a3 a8 (nv (by simpa [af.low] using bK) a3))
def Wh(i7:Nat×Nat)(n:Nat):Prop:=∀j,j<n→¬(i7.1≤j∧j<i7.2)
def mr(κ:bi)(D:Nat)(es:List (af×af))(fm:List MapEntry):Prop:=
 fm.length=es.length∧∀(j:Nat) (p:af×af) (e:MapEntry),es[j]? =some p→fm[j]? =some e→dF κ D p.1 e.key∧dF κ D p.2 e.val
theorem mr.mono{κ κ':bi}{D:Nat}{es:List (af×af)}{fm:List MapEntry}(h:mr κ D es fm)(k:gS κ κ' D):mr κ' D es fm:=
 ⟨h.1,fun j p e fC he=>⟨(h.2 j p e fC he).1.mono k,(h.2 j p e fC he).2.mono k⟩⟩
def zL(κ:bi)(d i:Nat)(w:World):du→Prop
 |.cells cs=>(∃C e i7,w.heap[κ.loc d i]? =some (.cells C e i7)∧Wh i7 C.size∧er κ (d+1) cs (C.toList.take cs.length)∧∀m b cap sz,κ.lD d i m=some (b,cap,sz)→cap*sz≤C.size)∧∀o,κ.F ⟨κ.loc d i,o,none⟩=none
 |.tok n=>∃b cap sz,κ.lD d i n=some (⟨b,0,none⟩,cap,sz)∧n≤cap∧(∃C e i7,w.heap[b]? =some (.cells C e i7)∧C.size=cap*sz∧Wh i7 C.size)∧(∀o,n*sz≤o→κ.F ⟨b,o,none⟩=none)∧∀m,n<m→κ.lD d i m=none
 |.gone=>True
 |.map es=>∃fm clock,w.heap[κ.loc d i]? =some (.map fm clock)∧mr κ (d+1) es fm.toList
def bh(κ:bi)(d i:Nat):du→Option Nat
 |.cells _|.map _=>some (κ.loc d i)
 |.tok n=>(κ.lD d i n).map (·.1.block)
 |.gone=>none
def ag.ao(s:ag)(d:Nat):Option (List du):=if d=s.aa then some s.own else if d<s.aa then(s.up++s.ro)[s.aa-1-d]? else none
theorem ag.ms(s:ag)(d i:Nat):s.get (.g d i)=(s.ao d).bind (·[i]?):=by
 unfold ag.get ag.ao;by_cases h:d=s.aa
 ·simp [h]
 ·by_cases e:d<s.aa<;> simp [h,e]
theorem ag.hT(s:ag)(a:Loc):s.get (a.ap s.aa)=s.get a:=by
 cases a with
 |l i=>simp [Loc.ap,ag.get]
 |g d i=>rfl
structure c3 (κ:bi) (s:ag) (w:World):Prop where
 iG:∀a v,κ.F a=some v→a.spot=none∧w.cell? a=some v
 len:∀d l,s.ao d=some l→l.length=κ.n d
 obj:∀d i o,s.get (.g d i)=some o→zL κ d i w o
 inj:∀d i o fL hI o' b,s.get (.g d i)=some o→s.get (.g fL hI)=some o'→bh κ d i o=some b→bh κ fL hI o'=some b→d=fL∧i=hI
def Live(κ:bi)(s:ag)(b:Nat):Prop:=∃d i o,s.get (.g d i)=some o∧bh κ d i o=some b
structure fx (κ:bi) (s:ag) (w:World) (κ':bi) (s':ag) (w':World):Prop where
 k:gS κ κ' (s.aa+1)
 aa:s'.aa=s.aa
 size:w.heap.size≤w'.heap.size
 os:w'.os=w.os
 tape:w'.tape=w.tape
 output:w'.output=w.output
 kU:∀b,b<w.heap.size→¬Live κ s b→w'.heap[b]? =w.heap[b]?
 live:∀b,b<w.heap.size→Live κ' s' b→Live κ s b
 oN:∀a,κ'.F a≠none→κ.F a≠none∨w.heap.size≤a.block∨Live κ s a.block
theorem fx.refl(κ:bi)(s:ag)(w:World):fx κ s w κ s w:=
 ⟨.refl _ _,rfl,aC _,rfl,rfl,rfl,fun _ _ _=>rfl,fun _ _ h=>h,fun _ h=>.inl h⟩
theorem fx.trans{κ q r:bi}{s u y:ag}{w A B:World}(h:fx κ s w q u A)(k:fx q u A r y B):fx κ s w r y B:=by
 refine⟨h.k.trans (h.aa ▸ k.k),k.aa.trans h.aa,Nat.le_trans h.size k.size,k.os.trans h.os,k.tape.trans h.tape,k.output.trans h.output,fun b e bK=>?_,fun b e bK=>?_,fun a F=>?_⟩
 ·rw[k.kU b (f8 e h.size) (fun H=>bK (h.live b e H)),h.kU b e bK]
 ·exact h.live b e (k.live b (f8 e h.size) bK)
 ·rcases k.oN a F with au|au|au
  ·exact h.oN a au
  ·exact .inr (.inl (Nat.le_trans h.size au))
  ·by_cases e:a.block<w.heap.size
   ·exact .inr (.inr (h.live _ e au))
   ·exact .inr (.inl (by omega))
def wB(κ:bi)(s:ag)(ao:Nat→af)(a:Act):Prop:=∀t,dF κ (s.aa+1) ((ao t).ap s.aa) (a.tmps.getD t undef)
theorem wB.ext{κ κ':bi}{s s':ag}{w w':World}{ao:Nat→af}{a:Act}(h:wB κ s ao a)(e:fx κ s w κ' s' w'):wB κ' s' ao a:=by
 intro t
 have:=(h t).mono e.k;rw[e.aa];exact this
theorem fZ{a:Addr}(h:a.spot=none)(j:Nat):a.add j=⟨a.block,a.off+j,none⟩:=by
 unfold Addr.add;split
 ·subst_vars;cases a;simp_all
 ·cases a;simp_all
theorem add_add{a:Addr}(i j:Nat):(a.add i).add j=a.add (i+j):=by unfold Addr.add;by_cases bX:i=0<;> by_cases df:j=0<;> simp_all<;> omega
theorem mu{a:Addr}(h:a.spot=none)(j:Nat):(a.add j).spot=none:=by rw[fZ h]
theorem fM{α:Type}(vs:List α):∀(cs:List α) (o:Nat),(dS cs o vs).length=cs.length:=by
 induction vs with
 |nil=>intro cs o;rfl
 |cons v vs e=>intro cs o;simp [dS,e]
theorem gP{α:Type}(vs:List α):∀(cs:List α) (o:Nat),o+vs.length≤cs.length→∀j,(dS cs o vs)[j]? =if o≤j∧j<o+vs.length then vs[j-o]? else cs[j]?:=by
 induction vs with
 |nil=>intro cs o _ j;simp [dS];omega
 |cons v vs e=>
  intro cs o h j;simp only[bP] at h;simp only[dS];rw[e (cs.set o v) (o+1) (by simp;omega)];by_cases df:j=o
  ·subst df;rw[if_neg (by omega),if_pos (by simp)];simp only[Nat.sub_self,List.getElem?_cons_zero];rw[List.getElem?_set_self (by omega)]
  ·by_cases au:o+1≤j∧j<o+1+vs.length
   ·rw[if_pos au,if_pos (by simp;omega)];obtain⟨m,rfl⟩:∃m,j=o+1+m:=⟨j-(o+1),by omega⟩;simp only[show o+1+m-(o+1)=m by omega,show o+1+m-o=m+1 by omega,List.getElem?_cons_succ]
   ·rw[if_neg au,if_neg (by simp;omega)];rw[ns (by omega)]
theorem mv(vs:List Value):∀(w:World) (b o:Nat) (C:Array Value) (e:TypeId) (i7:Nat×Nat),w.heap[b]? =some (.cells C e i7)→o+vs.length≤C.size→
  ∀h,(w.setCells b o vs).heap[h]? =if h=b then some (.cells (dS C.toList o vs).toArray e i7) else w.heap[h]?:=by
 induction vs with
 |nil=>intro w b o C e i7 q _ h;simp only[World.setCells,dS];split<;> simp_all
 |cons v vs r=>
  intro w b o C e i7 q u h;simp only[bP] at u;have au:(w.setCell ⟨b,o,none⟩ v).heap[b]? =some (.cells (C.setIfInBounds o v) e i7):=by simp [World.setCell,Array.getElem?_modify,q]
  rw[World.setCells,r _ b (o+1) _ e i7 au (by simp;omega)];split
  ·simp [dS,Array.toList_setIfInBounds]
  ·rename_i fe;simp [World.setCell,Array.getElem?_modify,Ne.symm fe]
theorem mw(vs:List Value):∀(w:World) (b o:Nat),(w.setCells b o vs).heap.size=w.heap.size:=by
 induction vs with
 |nil=>intro w b o;rfl
 |cons v vs e=>intro w b o;simp [World.setCells,e]
theorem mx(vs:List Value):∀(w:World) (b o:Nat),(w.setCells b o vs).os=w.os∧(w.setCells b o vs).tape=w.tape∧(w.setCells b o vs).output=w.output:=by
 induction vs with
 |nil=>intro w b o;exact⟨rfl,rfl,rfl⟩
 |cons v vs e=>intro w b o;simp only[World.setCells];exact e _ b (o+1)
theorem fN{w:World}{b o:Nat}{C:Array Value}{e:TypeId}{i7:Nat×Nat}(h:w.heap[b]? =some (.cells C e i7)):w.cell? ⟨b,o,none⟩=C[o]?:=by simp [World.cell?,h]
theorem gE{w w':World}{a:Addr}(h:w'.heap[a.block]? =w.heap[a.block]?):w'.cell? a=w.cell? a:=by simp [World.cell?,h]
theorem oO{w:World}{a:Addr}{v:Value}(h:w.cell? a=some v):a.block<w.heap.size:=by
 unfold World.cell? at h;split at h
 ·rename_i e;exact(Array.getElem?_eq_some_iff.1 e).1
 ·cases h
theorem er.get{κ:bi}{D:Nat}{cs:List af}{xs:List Value}(h:er κ D cs xs){j:Nat}{c:af}(a3:cs[j]? =some c):∃x,xs[j]? =some x∧dF κ D c x:=by
 have df:j<xs.length:=by rw[h.1];exact(ey.1 a3).1
 exact⟨xs[j],eP df,h.2 j c _ a3 (eP df)⟩
theorem er.mono{κ κ':bi}{D:Nat}{cs:List af}{xs:List Value}(h:er κ D cs xs)(k:gS κ κ' D):er κ' D cs xs:=
 ⟨h.1,fun j c x a3 a8=>(h.2 j c x a3 a8).mono k⟩
theorem er.up{κ:bi}{D e:Nat}{cs:List af}{xs:List Value}(h:er κ D cs xs)(k:D≤e):er κ e cs xs:=
 ⟨h.1,fun j c x a3 a8=>(h.2 j c x a3 a8).up k⟩
theorem er.nil(κ:bi)(D:Nat):er κ D [] []:=⟨rfl,fun j c x a3=>by simp at a3⟩
theorem er.cons{κ:bi}{D:Nat}{c:af}{x:Value}{cs:List af}{xs:List Value}(h:dF κ D c x)(a6:er κ D cs xs):er κ D (c::cs) (x::xs):=by
 refine⟨by simp [a6.1],fun j nS kH a3 a8=>?_⟩;cases j with
 |zero=>simp at a3 a8;exact a3 ▸ a8 ▸ h
 |succ j=>exact a6.2 j nS kH (by simpa using a3) (by simpa using a8)
theorem er.append{κ:bi}{D:Nat}{cs ib:List af}{xs e:List Value}(h:er κ D cs xs)(k:er κ D ib e):er κ D (cs++ib) (xs++e):=by
 refine⟨by simp [h.1,k.1],fun j c x a3 a8=>?_⟩;by_cases df:j<cs.length
 ·rw[hn df] at a3;rw[hn (by rw[h.1];exact df)] at a8;exact h.2 j c x a3 a8
 ·rw[j5 (by omega)] at a3;rw[j5 (by rw[h.1];omega),h.1] at a8;exact k.2 _ c x a3 a8
theorem er.tO{κ:bi}{D:Nat}{c:af}{cs:List af}{xs:List Value}(h:er κ D (c::cs) xs):∃x e,xs=x::e∧dF κ D c x∧er κ D cs e:=by
 cases xs with
 |nil=>have:=h.1;simp at this
 |cons x e=>exact⟨x,e,rfl,h.2 0 c x rfl rfl,by simpa using h.1,fun j nS kH a3 a8=>h.2 (j+1) nS kH (by simpa using a3) (by simpa using a8)⟩
theorem er.drop{κ:bi}{D:Nat}{cs:List af}{xs:List Value}(h:er κ D cs xs)(n:Nat):er κ D (cs.drop n) (xs.drop n):=
 ⟨by simp [h.1],fun j c x a3 a8=>h.2 (n+j) c x (by simpa using a3) (by simpa using a8)⟩
theorem er.take{κ:bi}{D:Nat}{cs:List af}{xs:List Value}(h:er κ D cs xs)(n:Nat):er κ D (cs.take n) (xs.take n):=by refine⟨by simp [h.1],fun j c x a3 a8=>?_⟩;simp only[List.getElem?_take] at a3 a8;split at a3<;> simp_all;exact h.2 j c x a3 a8
theorem er.dS{κ:bi}{D:Nat}{cs vs:List af}{xs e:List Value}(h:er κ D cs xs)(k:er κ D vs e){o:Nat}(q:o+vs.length≤cs.length):er κ D (dS cs o vs) (Ab.dS xs o e):=by
 refine⟨by simp [fM,h.1],fun j c x a3 a8=>?_⟩;rw[gP _ _ _ q] at a3;rw[gP _ _ _ (by rw[k.1,h.1];exact q),k.1] at a8;split at a3
 ·rw[if_pos (by assumption)] at a8;exact k.2 _ _ _ a3 a8
 ·rw[if_neg (by assumption)] at a8;exact h.2 _ _ _ a3 a8
theorem er.bd{κ:bi}{D:Nat}{cs:List af}{xs:List Value}(h:er κ D cs xs)(aT:af.aY cs=true){κ':bi}(e:Nat)(h9:∀a v,κ.F a=some v→κ'.F a=some v):er κ' e cs xs:=
 ⟨h.1,fun j c x a3 a8=>(h.2 j c x a3 a8).bd (iK aT a3) e h9⟩
theorem zL.block{κ:bi}{d i:Nat}{w:World}{o:du}{b:Nat}(h:zL κ d i w o)(q:bh κ d i o=some b):∃r,w.heap[b]? =some r:=by
 cases o with
 |cells cs=>simp only[bh,bj] at q;subst q;obtain⟨⟨C,e,i7,au,_⟩,_⟩:=h;exact⟨_,au⟩
 |tok n=>obtain⟨u,cap,sz,au,_,⟨C,e,i7,az,_⟩,_⟩:=h;simp only[bh,au,ew,bj] at q;subst q;exact⟨_,az⟩
 |map es=>simp only[bh,bj] at q;subst q;obtain⟨fm,clock,au,_⟩:=h;exact⟨_,au⟩
 |gone=>simp [bh] at q
theorem c3.jS{κ:bi}{s:ag}{w:World}(a6:c3 κ s w){b:Nat}(h:Live κ s b):b<w.heap.size:=by obtain⟨d,i,o,e,q⟩:=h;obtain⟨u,r⟩:=(a6.obj d i o e).block q;exact(Array.getElem?_eq_some_iff.1 r).1
theorem zL.bS{κ κ':bi}{d i:Nat}{w w':World}{o:du}(h:zL κ d i w o)(bX:i<κ.n d)(dl:gS κ κ' (d+1))(eh:∀m,κ'.lD d i m=κ.lD d i m)(r:∀b,bh κ d i o=some b→w'.heap[b]? =w.heap[b]?∧∀x,κ'.F ⟨b,x,none⟩=κ.F ⟨b,x,none⟩):
  zL κ' d i w' o∧bh κ' d i o=bh κ d i o:=by
 cases o with
 |cells cs=>obtain⟨⟨C,e,i7,au,az,b3,u⟩,dJ⟩:=h;have bK:=dl.loc d i (Nat.lt_succ_self d) bX;obtain⟨dU,q⟩:=r _ rfl;refine⟨⟨⟨C,e,i7,by rw[bK,dU,au],az,b3.mono dl,fun m b cap sz hm=>u m b cap sz (by rw[←eh];exact hm)⟩,fun o=>by rw[bK,q,dJ]⟩,by simp [bh,bK]⟩
 |tok n=>obtain⟨b,cap,sz,au,eZ,⟨C,e,i7,az,b3,dJ⟩,u,y⟩:=h;have bK:=dl.lD d i n _ (Nat.lt_succ_self d) bX au;obtain⟨dU,q⟩:=r b (by simp [bh,au]);exact⟨⟨b,cap,sz,bK,eZ,⟨C,e,i7,by rw[dU,az],b3,dJ⟩,fun o A=>by rw[q,u o A],fun m hm=>by rw[eh,y m hm]⟩,by simp [bh,au,bK]⟩
 |map es=>obtain⟨fm,clock,au,az⟩:=h;have bK:=dl.loc d i (Nat.lt_succ_self d) bX;obtain⟨dU,q⟩:=r _ rfl;exact⟨⟨fm,clock,by rw[bK,dU,au],az.mono dl⟩,by simp [bh,bK]⟩
 |gone=>exact⟨trivial,rfl⟩
theorem c3.nw{κ:bi}{s:ag}{w:World}(a6:c3 κ s w){d i:Nat}{o:du}(h:s.get (.g d i)=some o):i<κ.n d:=by
 rw[ag.ms] at h;cases bK:s.ao d with
 |none=>simp [bK] at h
 |some l=>rw[bK] at h;rw[←a6.len d l bK];exact(ey.1 h).1
theorem ag.gu{s:ag}{d i:Nat}{o:du}(h:s.get (.g d i)=some o):d≤s.aa:=by
 rcases Nat.lt_trichotomy d s.aa with au|au|au
 ·omega
 ·omega
 ·have az:d≠s.aa:=by omega
  have b3:¬d<s.aa:=by omega
  simp [ag.get,az,b3] at h
theorem c3.FC{κ:bi}{s:ag}{w:World}(a6:c3 κ s w){d i:Nat}{o:du}(h:s.get (.g d i)=some o):d<s.aa+1∧i<κ.n d:=⟨by have:=ag.gu h;omega,a6.nw h⟩
theorem c3.world{κ κ':bi}{s:ag}{w w':World}(a6:c3 κ s w)(dl:gS κ κ' (s.aa+1))(dp:κ'.n=κ.n)(eh:κ'.lD=κ.lD)(h9:∀a v,κ'.F a=some v→a.spot=none∧w'.cell? a=some v)
  (r:∀b,Live κ s b→w'.heap[b]? =w.heap[b]?∧∀x,κ'.F ⟨b,x,none⟩=κ.F ⟨b,x,none⟩):c3 κ' s w':=by
 have key:∀d i o,s.get (.g d i)=some o→zL κ' d i w' o∧bh κ' d i o=bh κ d i o:=fun d i o h=>(a6.obj d i o h).bS (a6.nw h) (dl.low (by have:=ag.gu h;omega)) (fun m=>by rw[eh]) (fun b u=>r b ⟨d,i,o,h,u⟩)
 refine⟨h9,fun d l h=>by rw[dp];exact a6.len d l h,fun d i o h=>(key d i o h).1,fun d i o fL hI o' b h q e hZ=>?_⟩;rw[(key d i o h).2] at e;rw[(key fL hI o' q).2] at hZ;exact a6.inj d i o fL hI o' b h q e hZ
def bi.freeze(κ:bi)(b gn:Nat)(C:Array Value):bi:=
 {κ with F:=fun a=>if a.block=b∧a.spot=none∧gn≤a.off∧a.off<C.size then C[a.off]? else κ.F a}
theorem n0{κ:bi}{b gn j:Nat}{C:Array Value}(h:gn≤j)(df:j<C.size):(κ.freeze b gn C).F ⟨b,j,none⟩=some C[j]:=by simp [bi.freeze,h,df]
theorem gS.freeze{κ:bi}{b gn:Nat}{C:Array Value}(e:∀j,gn≤j→κ.F ⟨b,j,none⟩=none)(D:Nat):gS κ (κ.freeze b gn C) D:=by
 refine⟨fun a v h=>?_,fun _ _=>aC _,fun _ _ _ _=>rfl,fun _ _ _ _ _ _ h=>h⟩;simp only[bi.freeze];split
 ·rename_i a3;have au:=e a.off a3.2.2.1
  have:a=⟨b,a.off,none⟩:=by cases a;simp_all
  rw[this,au] at h;cases h
 ·exact h
theorem c3.qf{κ:bi}{s:ag}{w:World}(a6:c3 κ s w){a:Addr}(h:w.heap.size≤a.block):κ.F a=none:=by
 cases e:κ.F a with
 |none=>rfl
 |some v=>have:=oO (a6.iG a v e).2;omega
theorem c3.qM{κ:bi}{s:ag}{w w':World}(a6:c3 κ s w)(C:Array Value)(e:TypeId)(i7:Nat×Nat)(hw:w'.heap=w.heap.push (.cells C e i7))(r:w'.os=w.os)(eh:w'.tape=w.tape)(hu:w'.output=w.output):
  c3 (κ.freeze w.heap.size 0 C) s w'∧fx κ s w (κ.freeze w.heap.size 0 C) s w':=by
 have hold:∀b,b<w.heap.size→w'.heap[b]? =w.heap[b]?:=fun b q=>by rw[hw,Array.getElem?_push];simp [Nat.ne_of_lt q]
 have u:w'.heap[w.heap.size]? =some (.cells C e i7):=by rw[hw];simp
 have dl:∀D,gS κ (κ.freeze w.heap.size 0 C) D:=fun D=>gS.freeze (fun j _=>a6.qf (aC _)) D
 refine⟨a6.world (dl _) rfl rfl (fun a v h=>?_) (fun b q=>⟨hold b (a6.jS q),fun x=>?_⟩),⟨dl _,rfl,by rw[hw];simp,r,eh,hu,fun b q _=>hold b q,fun b _ h=>h,fun a h=>?_⟩⟩
 ·simp only[bi.freeze] at h;split at h
  ·rename_i a3;refine⟨a3.2.1,?_⟩;have y:a=⟨w.heap.size,a.off,none⟩:=by cases a;simp_all
   rw[y,fN u];exact h
  ·obtain⟨au,az⟩:=a6.iG a v h;exact⟨au,by rw[gE (hold _ (oO az))];exact az⟩
 ·have:=a6.jS q;simp [bi.freeze,Nat.ne_of_lt this]
 ·simp only[bi.freeze] at h;split at h
  ·rename_i a3;exact .inr (.inl (by omega))
  ·exact .inl h
theorem c3.same{κ:bi}{s:ag}{w w':World}(a6:c3 κ s w)(hw:w'.heap=w.heap)(e:w'.os=w.os)(eh:w'.tape=w.tape)(hu:w'.output=w.output):c3 κ s w'∧fx κ s w κ s w':=by refine⟨a6.world (.refl _ _) rfl rfl (fun a v h=>?_) (fun b _=>⟨by rw[hw],fun _=>rfl⟩),⟨.refl _ _,rfl,by rw[hw];exact aC _,e,eh,hu,fun b _ _=>by rw[hw],fun _ _ h=>h,fun _ h=>.inl h⟩⟩;obtain⟨au,az⟩:=a6.iG a v h;exact⟨au,by rw[gE (w:=w) (by rw[hw])];exact az⟩
theorem ag.C2(s:ag)(o:du):(s.new o).aa=s.aa:=rfl
theorem ag.PA(s:ag)(o:du)(d:Nat):(s.new o).ao d=if d=s.aa then some (s.own++[o]) else s.ao d:=by
 unfold ag.ao;simp only[ag.C2];by_cases cS:d=s.aa
 ·simp [cS,ag.new]
 ·simp only[cS,↓reduceIte];rfl
structure iv (s s':ag) (d i:Nat) (o:du):Prop where
 aa:s'.aa=s.aa
 le:d≤s.aa
 ao:∀fL,s'.ao fL=if fL=d then(s.ao fL).map (· ++ [o]) else s.ao fL
 here:∃l,s.ao d=some l∧l.length=i
theorem iv.new(s:ag)(o:du):iv s (s.new o) s.aa s.own.length o:=by
 refine⟨rfl,aC _,fun fL=>?_,s.own,by simp [ag.ao],rfl⟩;rw[ag.PA];split
 ·rename_i h;subst h;simp [ag.ao]
 ·rfl
theorem iv.get{s s':ag}{d i:Nat}{o:du}(h:iv s s' d i o)(fL hI:Nat):s'.get (.g fL hI)=if fL=d∧hI=i then some o else s.get (.g fL hI):=by
 rw[ag.ms,ag.ms,h.ao];obtain⟨l,au,az⟩:=h.here;by_cases cS:fL=d
 ·subst cS;simp only[↓reduceIte,au,ew,f6,true_and];by_cases bX:hI=i
  ·subst bX;simp [az]
  ·rw[if_neg bX];by_cases e:hI<l.length
   ·rw[hn e]
   ·rw[List.getElem?_eq_none (by simp;omega),List.getElem?_eq_none (by omega)]
 ·simp [cS]
theorem iv.by{s s':ag}{a l:Loc}{o:du}(h:s.hi a o=some (l,s')):∃d i,l.ap s.aa=.g d i∧iv s s' d i o:=by
 cases a with
 |l j=>simp only[ag.hi,bj,e0] at h;obtain⟨rfl,rfl⟩:=h;exact⟨_,_,rfl,iv.new s o⟩
 |g d j=>
  simp only[ag.hi] at h;split at h
  ·simp only[bj,e0] at h;obtain⟨rfl,rfl⟩:=h;exact⟨_,_,rfl,iv.new s o⟩
  ·rename_i fe;split at h
   ·rename_i a3;cases bK:s.up[s.aa-1-d]? with
    |none=>rw[bK] at h;cases h
    |some sl=>
     rw[bK] at h;simp only[bj,e0] at h;obtain⟨rfl,rfl⟩:=h;have hlen:s.aa=s.up.length+s.ro.length:=rfl;have q:s.aa-1-d<s.up.length:=by omega
     have y:s.ao d=some sl:=by simp only[ag.ao,fe,↓reduceIte,a3.1];rw[hn q,bK]
     have u:({s with up:=s.up.modify (s.aa-1-d) (· ++ [o])}:ag).aa=s.aa:=by simp [ag.aa]
     refine⟨d,sl.length,rfl,u,by omega,fun fL=>?_,sl,y,rfl⟩;unfold ag.ao;rw[u];by_cases au:fL=s.aa
     ·have:¬s.aa=d:=fun e=>fe e.symm
      simp [au,this]
     ·by_cases b3:fL<s.aa
      ·simp only[au,↓reduceIte,b3];by_cases dJ:fL=d
       ·subst dJ;simp only[↓reduceIte];rw[hn (by simpa using q),hn q,List.getElem?_modify];simp
       ·simp only[dJ,↓reduceIte];by_cases r:s.aa-1-fL<s.up.length
        ·rw[hn (by simpa using r),hn r,List.getElem?_modify];have gh:¬s.aa-1-d=s.aa-1-fL:=by omega
         simp [gh]
        ·rw[j5 (by simpa using r),j5 (by omega)];simp
      ·have:¬fL=d:=by omega
       simp [au,b3,this]
   ·cases h
theorem c3.newObj{κ κ':bi}{s:ag}{w w':World}(a6:c3 κ s w)(o:du)(dl:gS κ κ' (s.aa+1)){s':ag}{A J:Nat}(u:iv s s' A J o)(dp:∀d,κ'.n d=if d=A then κ.n d+1 else κ.n d)(N:∀d i m,i<κ.n d→κ'.lD d i m=κ.lD d i m)
  (h9:κ'.F=κ.F∨∃gn C,(κ'.F=(κ.freeze w.heap.size gn C).F)∧∃K e i7,w'.heap[w.heap.size]? =some (.cells K e i7)∧∀(j:Nat) (x:Value),C[j]? =some x→K[j]? =some x)(hold:∀b,b<w.heap.size→w'.heap[b]? =w.heap[b]?)(e4:w.heap.size≤w'.heap.size)(O:w'.os=w.os)(eh:w'.tape=w.tape)(hu:w'.output=w.output)
  (U:zL κ' A J w' o)(r:∀b,bh κ' A J o=some b→w.heap.size≤b):c3 κ' s' w'∧fx κ s w κ' s' w':=by
 have V:∀b x,b<w.heap.size→κ'.F ⟨b,x,none⟩=κ.F ⟨b,x,none⟩:=by
  intro b x r;rcases h9 with h9|⟨gn,C,h9,_⟩
  ·rw[h9]
  ·rw[h9];simp [bi.freeze,Nat.ne_of_lt r]
 have key:∀d i o,s.get (.g d i)=some o→zL κ' d i w' o∧bh κ' d i o=bh κ d i o:=fun d i o h=>(a6.obj d i o h).bS (a6.nw h) (dl.low (by have:=ag.gu h;omega)) (fun m=>N d i m (a6.nw h)) (fun b M=>by have B:=a6.jS ⟨d,i,o,h,M⟩;exact⟨hold b B,fun x=>V b x B⟩)
 refine⟨⟨fun a v h=>?_,fun d l h=>?_,fun d i o' h=>?_,fun d i H fL hI I b h q e hZ=>?_⟩,⟨dl,u.aa,e4,O,eh,hu,fun b r _=>hold b r,fun b M bK=>?_,fun a y=>?_⟩⟩
 ·rcases h9 with h9|⟨gn,C,h9,K,e,i7,jT,Y⟩
  ·rw[h9] at h;obtain⟨au,az⟩:=a6.iG a v h;exact⟨au,by rw[gE (hold _ (oO az))];exact az⟩
  ·rw[h9] at h;simp only[bi.freeze] at h;split at h
   ·rename_i a3;refine⟨a3.2.1,?_⟩;have y:a=⟨w.heap.size,a.off,none⟩:=by cases a;simp_all
    rw[y,fN jT];exact Y _ _ h
   ·obtain⟨au,az⟩:=a6.iG a v h;exact⟨au,by rw[gE (hold _ (oO az))];exact az⟩
 ·rw[u.ao] at h;rw[dp];split at h
  ·rename_i cS;cases bB:s.ao d with
   |none=>rw[bB] at h;cases h
   |some l'=>rw[bB] at h;simp only[ew,bj] at h;rw[←h,if_pos cS,←a6.len d l' bB];simp
  ·rename_i cS;rw[if_neg cS];exact a6.len d l h
 ·rw[u.get] at h;split at h
  ·rename_i a3;obtain⟨rfl,rfl⟩:=a3;simp only[bj] at h;exact h ▸ U
  ·exact(key d i o' h).1
 ·rw[u.get] at h q;split at h
  ·rename_i a3;obtain⟨rfl,rfl⟩:=a3;simp only[bj] at h;subst h;split at q
   ·rename_i kV;exact⟨kV.1.symm,kV.2.symm⟩
   ·rw[(key fL hI I q).2] at hZ
    have:=a6.jS ⟨fL,hI,I,q,hZ⟩
    have:=r b e;omega
  ·split at q
   ·rename_i kV;obtain⟨rfl,rfl⟩:=kV;simp only[bj] at q;subst q;rw[(key d i H h).2] at e
    have:=a6.jS ⟨d,i,H,h,e⟩
    have:=r b hZ;omega
   ·rw[(key d i H h).2] at e;rw[(key fL hI I q).2] at hZ;exact a6.inj d i H fL hI I b h q e hZ
 ·obtain⟨d,i,o',cC,L⟩:=bK;rw[u.get] at cC;split at cC
  ·rename_i a3;obtain⟨rfl,rfl⟩:=a3;simp only[bj] at cC;subst cC
   have:=r b L;omega
  ·rw[(key d i o' cC).2] at L;exact⟨d,i,o',cC,L⟩
 ·by_cases B:a.block<w.heap.size
  ·left
   rcases h9 with h9|⟨gn,C,h9,_⟩
   ·rwa [h9] at y
   ·rw[h9] at y;simpa [bi.freeze,Nat.ne_of_lt B] using y
  ·exact .inr (.inl (by omega))
theorem c3.oP{κ:bi}{s:ag}{w w':World}(a6:c3 κ s w)(cs:List af)(C:Array Value)(e:TypeId)(a3:er κ (s.aa+1) cs C.toList)(hw:w'.heap=w.heap.push (.cells C e (0,0)))(r:w'.os=w.os)(eh:w'.tape=w.tape)(hu:w'.output=w.output):
  ∃κ',c3 κ' (s.new (.cells cs)) w'∧fx κ s w κ' (s.new (.cells cs)) w'∧κ'.loc s.aa s.own.length=w.heap.size∧s.own.length<κ'.n s.aa:=by
 have u:s.own.length=κ.n s.aa:=a6.len s.aa s.own (by simp [ag.ao])
 let κ':bi:={κ with n:=fun d=>if d=s.aa then κ.n d+1 else κ.n d,loc:=fun d i=>if d=s.aa∧i=s.own.length then w.heap.size else κ.loc d i,lD:=fun d i m=>if d=s.aa∧i=s.own.length then none else κ.lD d i m}
 have fe:∀d i,i<κ.n d→¬(d=s.aa∧i=s.own.length):=by
  rintro d i bX ⟨rfl,rfl⟩
  omega
 have dl:gS κ κ' (s.aa+1):=by
  refine⟨fun _ _ h=>h,fun d _=>?_,fun d i _ bX=>?_,fun d i n x _ bX h=>?_⟩
  ·simp only[κ'];split<;> omega
  ·simp only[κ'];rw[if_neg (fe d i bX)]
  ·simp only[κ'];rw[if_neg (fe d i bX)];exact h
 have y:w'.heap[w.heap.size]? =some (.cells C e (0,0)):=by rw[hw];simp
 refine⟨κ',?_⟩
 have:=a6.newObj (κ':=κ') (w':=w') (.cells cs) dl (iv.new s _) (fun d=>rfl) (fun d i m bX=>if_neg (fe d i bX)) (.inl rfl) (fun b q=>by rw[hw,Array.getElem?_push];simp [Nat.ne_of_lt q]) (by rw[hw];simp) r eh hu
  ⟨⟨C,e,(0,0),by simp [κ',y],fun j _=>by simp,by rw[show C.toList.take cs.length=C.toList from iP (by rw[a3.1];exact aC _)];exact a3.mono dl,fun m b cap sz h=>by simp [κ'] at h⟩,fun o=>a6.qf (by simp [κ'])⟩ (fun b q=>by simp [bh,κ'] at q;omega)
 exact⟨this.1,this.2,by simp [κ'],by simp [κ',u]⟩
theorem ag.ln(s:ag)(a:Loc)(o:du):s.set (a.ap s.aa) o=s.set a o:=by
 cases a with
 |l i=>simp [Loc.ap,ag.set]
 |g d i=>rfl
theorem sL(l:List (List du))(n i:Nat)(o:du)(m:Nat):(l.modify n (·.set i o))[m]? =if m=n then(l[m]?).map (·.set i o) else l[m]?:=by
 rw[List.getElem?_modify];by_cases h:m=n
 ·simp [h]
 ·simp [h,Ne.symm h]
theorem ag.ur{s s':ag}{d i:Nat}{o:du}(h:s.set (.g d i) o=some s'):s'.aa=s.aa∧∀fL,s'.ao fL=if fL=d then(s.ao fL).map (·.set i o) else s.ao fL:=by
 by_cases cS:d=s.aa
 ·simp only[ag.set,cS,↓reduceIte,bj] at h;subst h;refine⟨rfl,fun fL=>?_⟩;by_cases au:fL=s.aa
  ·simp [ag.ao,ag.aa,au,cS]
  ·have y:¬fL=s.up.length+s.ro.length:=au;simp only[ag.ao,ag.aa,y,cS,↓reduceIte];rfl
 ·by_cases az:d<s.aa∧s.ro.length≤d
  ·simp only[ag.set,cS,↓reduceIte,az,and_self,bj] at h;subst h;have r:({s with up:=s.up.modify (s.aa-1-d) (·.set i o)}:ag).aa=s.aa:=by simp [ag.aa]
   refine⟨r,fun fL=>?_⟩;unfold ag.ao;rw[r];by_cases au:fL=s.aa
   ·have:¬s.aa=d:=fun e=>cS e.symm
    simp [au,this]
   ·by_cases b3:fL<s.aa
    ·have hlen:s.aa=s.up.length+s.ro.length:=rfl;have u:s.aa-1-d<s.up.length:=by omega
     simp only[au,↓reduceIte,b3];by_cases dJ:fL=d
     ·subst dJ;simp only[↓reduceIte];rw[hn (by simpa using u),hn u,sL];simp
     ·simp only[dJ,↓reduceIte];by_cases q:s.aa-1-fL<s.up.length
      ·rw[hn (by simpa using q),hn q,sL,if_neg (by omega)]
      ·rw[j5 (by simpa using q),j5 (by omega)];simp
    ·by_cases dJ:fL=d
     ·exact absurd (dJ ▸ az.1) b3
     ·simp [au,b3,dJ]
  ·have b3:¬(d<s.aa∧s.ro.length≤d):=az;simp [ag.set,cS,b3] at h
theorem ag.us{s s':ag}{d i:Nat}{o r:du}(h:s.set (.g d i) o=some s')(cC:s.get (.g d i)=some r)(fL hI:Nat):s'.get (.g fL hI)=if fL=d∧hI=i then some o else s.get (.g fL hI):=by
 rw[ag.ms,(ag.ur h).2 fL,ag.ms];by_cases cS:fL=d
 ·subst cS;rw[ag.ms] at cC;cases bB:s.ao fL with
  |none=>simp [bB] at cC
  |some l=>
   rw[bB] at cC;simp only[f6] at cC;have bX:i<l.length:=(ey.1 cC).1;simp only[↓reduceIte,ew,f6,true_and];by_cases q:hI=i
   ·subst q;simp [bX]
   ·rw[if_neg q,ns (fun e=>q e.symm)]
 ·simp [cS]
theorem c3.setObj{κ κ':bi}{s s':ag}{w w':World}(a6:c3 κ s w){d i:Nat}{o o':du}(cC:s.get (.g d i)=some o)(N:s.set (.g d i) o'=some s')(dl:gS κ κ' (s.aa+1))(dp:κ'.n=κ.n)
  (Y:∀fL hI m,¬(fL=d∧hI=i)→κ'.lD fL hI m=κ.lD fL hI m)(h9:∀a v,κ'.F a=some v→a.spot=none∧w'.cell? a=some v)
  (hold:∀b,b<w.heap.size→bh κ d i o≠some b→w'.heap[b]? =w.heap[b]?∧∀x,κ'.F ⟨b,x,none⟩=κ.F ⟨b,x,none⟩)
  (e4:w.heap.size≤w'.heap.size)(Z:w'.os=w.os)(eh:w'.tape=w.tape)(hu:w'.output=w.output)
  (ab:zL κ' d i w' o')(A:∀b,bh κ' d i o'=some b→bh κ d i o=some b∨w.heap.size≤b):c3 κ' s' w'∧fx κ s w κ' s' w':=by
 have J:=ag.us N cC;obtain⟨ac,bZ⟩:=ag.ur N;have key:∀q r u,¬(q=d∧r=i)→s.get (.g q r)=some u→zL κ' q r w' u∧bh κ' q r u=bh κ q r u:=fun q r u fe h=>(a6.obj q r u h).bS (a6.nw h) (dl.low (by have:=ag.gu h;omega)) (fun m=>Y q r m fe) (fun b K=>by have L:=a6.jS ⟨q,r,u,h,K⟩;exact hold b L (fun e=>fe (a6.inj q r u d i o b h cC K e)))
 refine⟨⟨h9,fun q l h=>?_,fun q r u h=>?_,fun q r u B H I b h y e hZ=>?_⟩,⟨dl,ac,e4,Z,eh,hu,fun b A bK=>(hold b A (fun e=>bK ⟨d,i,o,cC,e⟩)).1,fun b K bK=>?_,fun a O=>?_⟩⟩
 ·rw[bZ] at h;rw[dp];split at h
  ·cases bB:s.ao q with
   |none=>simp [bB] at h
   |some l'=>rw[bB] at h;simp only[ew,bj] at h;rw[←h];simpa using a6.len q l' bB
  ·exact a6.len q l h
 ·rw[J] at h;split at h
  ·rename_i a3;obtain⟨rfl,rfl⟩:=a3;simp only[bj] at h;exact h ▸ ab
  ·rename_i a3;exact(key q r u a3 h).1
 ·rw[J] at h y;split at h
  ·rename_i a3;obtain⟨rfl,rfl⟩:=a3;simp only[bj] at h;subst h;split at y
   ·rename_i kV;exact⟨kV.1.symm,kV.2.symm⟩
   ·rename_i kV;rw[(key B H I kV y).2] at hZ;rcases A b e with au|au
    ·obtain⟨az,b3⟩:=a6.inj B H I _ _ o b y cC hZ au;exact absurd ⟨az,b3⟩ kV
    ·have:=a6.jS ⟨B,H,I,y,hZ⟩;omega
  ·rename_i a3;rw[(key q r u a3 h).2] at e;split at y
   ·rename_i kV;obtain⟨rfl,rfl⟩:=kV;simp only[bj] at y;subst y;rcases A b hZ with au|au
    ·obtain⟨az,b3⟩:=a6.inj q r u _ _ o b h cC e au;exact absurd ⟨az,b3⟩ a3
    ·have:=a6.jS ⟨q,r,u,h,e⟩;omega
   ·rename_i kV;rw[(key B H I kV y).2] at hZ;exact a6.inj q r u B H I b h y e hZ
 ·obtain⟨q,r,u,h,M⟩:=bK;rw[J] at h;split at h
  ·rename_i a3;obtain⟨rfl,rfl⟩:=a3;simp only[bj] at h;subst h;rcases A b M with au|au
   ·exact⟨_,_,o,cC,au⟩
   ·omega
  ·rename_i a3;rw[(key q r u a3 h).2] at M;exact⟨q,r,u,h,M⟩
 ·by_cases L:a.block<w.heap.size
  ·by_cases U:bh κ d i o=some a.block
   ·exact .inr (.inr ⟨d,i,o,cC,U⟩)
   ·left
    cases a8:κ'.F a with
    |none=>exact absurd a8 O
    |some v=>
     have ad:=(h9 a v a8).1;have au:=(hold a.block L U).2 a.off;have V:a=⟨a.block,a.off,none⟩:=by cases a;simp_all
     rw[V,←au,←V];exact O
  ·exact .inr (.inl (by omega))
theorem qN{α:Type}:∀(l:List α) (off:Nat) (xs:List α) (n:Nat),off+xs.length≤n→(dS l off xs).take n=dS (l.take n) off xs
 |l,off,[],n,_=>rfl
 |l,off,x::xs,n,h=>by simp only[dS];rw[qN _ _ xs n (by simp at h;omega)];congr 1;rw[List.take_set]
theorem c3.store{κ:bi}{s s':ag}{w:World}(a6:c3 κ s w){d i off:Nat}{cs vs:List af}{xs:List Value}(cC:s.get (.g d i)=some (.cells cs))(u:s.set (.g d i) (.cells (dS cs off vs))=some s')
  (bO:er κ (d+1) vs xs)(y:off+vs.length≤cs.length):c3 κ s' (w.setCells (κ.loc d i) off xs)∧fx κ s w κ s' (w.setCells (κ.loc d i) off xs):=by
 obtain⟨⟨C,e,i7,au,az,b3,A⟩,dJ⟩:=a6.obj d i _ cC;have I:xs.length=vs.length:=bO.1;have J:cs.length≤C.size:=by have:=b3.1;simp at this;omega
 have q:=mv xs w (κ.loc d i) off C e i7 au (by omega);obtain⟨pE,qO,C3⟩:=mx xs w (κ.loc d i) off;refine a6.setObj cC u (.refl _ _) rfl (fun _ _ _ _=>rfl) (fun a v h=>?_) (fun b _ r=>⟨?_,fun _=>rfl⟩) (by rw[mw];exact aC _) pE qO C3 ⟨⟨(dS C.toList off xs).toArray,e,i7,by rw[q];simp,by simpa [fM] using az,by simpa [fM,qN C.toList off xs cs.length (by omega)] using b3.dS bO y,fun m b cap sz hm=>by simpa [fM] using A m b cap sz hm⟩,dJ⟩ (fun b r=>.inl r)
 ·obtain⟨B,F⟩:=a6.iG a v h;refine⟨B,?_⟩;rw[gE (w:=w) ?_]
  ·exact F
  ·rw[q,if_neg];intro dU;have H:a=⟨κ.loc d i,a.off,none⟩:=by cases a;simp_all
   rw[H,dJ] at h;cases h
 ·rw[q,if_neg (fun dU=>r (by simp [bh,dU]))]
theorem c3.uu{κ:bi}{s s':ag}{w:World}(a6:c3 κ s w){d i:Nat}{cs:List af}(cC:s.get (.g d i)=some (.cells cs))(r:s.set (.g d i) .gone=some s'):
  ∃C e i7,w.heap[κ.loc d i]? =some (.cells C e i7)∧er κ (d+1) cs (C.toList.take cs.length)∧c3 (κ.freeze (κ.loc d i) 0 C) s' w∧fx κ s w (κ.freeze (κ.loc d i) 0 C) s' w:=by
 obtain⟨⟨C,e,i7,au,az,b3,_⟩,dJ⟩:=a6.obj d i _ cC;refine⟨C,e,i7,au,b3,?_⟩;refine a6.setObj cC r (gS.freeze (fun j _=>dJ j) _) rfl (fun _ _ _ _=>rfl) (fun a v h=>?_) (fun b _ q=>⟨rfl,fun x=>?_⟩) (aC _) rfl rfl rfl trivial (fun b q=>by simp [bh] at q)
 ·simp only[bi.freeze] at h;split at h
  ·rename_i a3;refine⟨a3.2.1,?_⟩;have u:a=⟨κ.loc d i,a.off,none⟩:=by cases a;simp_all
   rw[u,fN au];exact h
  ·exact a6.iG a v h
 ·simp only[bh,ne_eq,bj] at q;simp [bi.freeze,Ne.symm q]
theorem c3.PB{κ:bi}{s s':ag}{w w':World}(a6:c3 κ s w){q r:Nat}(y:iv s s' q r (.map []))(hw:w'.heap=w.heap.push (.map #[] 0))(A:w'.os=w.os)(eh:w'.tape=w.tape)(hu:w'.output=w.output):
  ∃κ',c3 κ' s' w'∧fx κ s w κ' s' w'∧κ'.loc q r=w.heap.size∧r<κ'.n q:=by
 have B:r=κ.n q:=by obtain⟨l,au,az⟩:=y.here;rw[←az];exact a6.len q l au
 let κ':bi:={κ with n:=fun d=>if d=q then κ.n d+1 else κ.n d,loc:=fun d i=>if d=q∧i=r then w.heap.size else κ.loc d i}
 have dl:gS κ κ' (s.aa+1):=by
  refine⟨fun _ _ h=>h,fun d _=>?_,fun d i _ bX=>?_,fun _ _ _ _ _ _ h=>h⟩
  ·simp only[κ'];split<;> omega
  ·simp only[κ'];rw[if_neg]
   rintro ⟨rfl,rfl⟩
   omega
 have F:w'.heap[w.heap.size]? =some (.map #[] 0):=by rw[hw];simp
 refine⟨κ',?_⟩
 have:=a6.newObj (κ':=κ') (w':=w') (.map []) dl y (fun d=>rfl) (fun _ _ _ _=>rfl) (.inl rfl) (fun b u=>by rw[hw,Array.getElem?_push];simp [Nat.ne_of_lt u]) (by rw[hw];simp) A eh hu
  ⟨#[],0,by simp [κ',F],rfl,fun j p e fC=>by simp at fC⟩ (fun b u=>by simp [bh,κ'] at u;omega)
 exact⟨this.1,this.2,by simp [κ'],by simp [κ',B]⟩
theorem c3.FD{κ:bi}{s s':ag}{w:World}(a6:c3 κ s w){d i:Nat}{es y:List (af×af)}{fm:Array MapEntry}{clock:Nat}(cC:s.get (.g d i)=some (.map es))(A:s.set (.g d i) (.map y)=some s')(hm:mr κ (d+1) y fm.toList):
  c3 κ s' {w with heap:=w.heap.setIfInBounds (κ.loc d i) (.map fm clock)}∧fx κ s w κ s' {w with heap:=w.heap.setIfInBounds (κ.loc d i) (.map fm clock)}:=by
 obtain⟨H,I,au,az⟩:=a6.obj d i _ cC;have B:κ.loc d i<w.heap.size:=(Array.getElem?_eq_some_iff.1 au).1;have r:∀b,(w.heap.setIfInBounds (κ.loc d i) (.map fm clock))[b]? =if b=κ.loc d i then some (.map fm clock) else w.heap[b]?:=by
  intro b;rw[Array.getElem?_setIfInBounds];by_cases q:κ.loc d i=b
  ·subst q;simp [B]
  ·have:¬b=κ.loc d i:=fun e=>q e.symm
   simp [q,this]
 refine a6.setObj (w':={w with heap:=w.heap.setIfInBounds (κ.loc d i) (.map fm clock)}) cC A (.refl _ _) rfl (fun _ _ _ _=>rfl) (fun a v h=>?_) (fun b _ q=>⟨?_,fun _=>rfl⟩) (by simp) rfl rfl rfl ⟨fm,clock,by simp [r],hm⟩ (fun b q=>.inl q)
 ·obtain⟨F,u⟩:=a6.iG a v h;refine⟨F,?_⟩;rw[gE (w:=w) ?_]
  ·exact u
  ·show(w.heap.setIfInBounds _ _)[_]? =_;rw[r,if_neg];intro dU
   have:w.cell? a=none:=by simp [World.cell?,dU,au]
   rw[this] at u;cases u
 ·show(w.heap.setIfInBounds _ _)[_]? =_;rw[r,if_neg (fun dU=>q (by simp [bh,dU]))]
theorem c3.FE{κ:bi}{s:ag}{w w':World}(a6:c3 κ s w){s':ag}{q r:Nat}(C:Array Value)(e:TypeId)(n sz cap:Nat)(y:iv s s' q r (.tok n))(jT:C.size=cap*sz)(dp:n≤cap)(hw:w'.heap=w.heap.push (.cells C e (0,0)))(H:w'.os=w.os)(eh:w'.tape=w.tape)(hu:w'.output=w.output):
  ∃κ',c3 κ' s' w'∧fx κ s w κ' s' w'∧r<κ'.n q∧κ'.lD q r n=some (⟨w.heap.size,0,none⟩,cap,sz)∧∀j,j<n*sz→κ'.F ⟨w.heap.size,j,none⟩=C[j]?:=by
 have I:r=κ.n q:=by obtain⟨l,au,az⟩:=y.here;rw[←az];exact a6.len q l au
 have hle:n*sz≤C.size:=by rw[jT];exact fV _ dp
 have A:((C.toList.take (n*sz)).toArray).size=n*sz:=by simp;omega
 let κ':bi:={(κ.freeze w.heap.size 0 (C.toList.take (n*sz)).toArray) with n:=fun d=>if d=q then κ.n d+1 else κ.n d,lD:=fun d i m=>if d=q∧i=r then(if m=n then some (⟨w.heap.size,0,none⟩,cap,sz) else none) else κ.lD d i m}
 have dl:gS κ κ' (s.aa+1):=by
  refine⟨fun a v h=>?_,fun d _=>?_,fun _ _ _ _=>rfl,fun d i m x _ bX h=>?_⟩
  ·exact(gS.freeze (fun j _=>a6.qf (aC _)) (s.aa+1)).F a v h
  ·simp only[κ'];split<;> omega
  ·simp only[κ'];rw[if_neg]
   ·exact h
   ·rintro ⟨rfl,rfl⟩;omega
 have B:w'.heap[w.heap.size]? =some (.cells C e (0,0)):=by rw[hw];simp
 have J:∀j,j<n*sz→κ'.F ⟨w.heap.size,j,none⟩=C[j]?:=by intro j df;simp only[κ',bi.freeze];rw[if_pos (⟨trivial,trivial,Nat.zero_le _,by rw[A];exact df⟩:True∧True∧0≤j∧j<((C.toList.take (n*sz)).toArray).size)];simp [df]
 have hold:∀b,b<w.heap.size→w'.heap[b]? =w.heap[b]?:=fun b u=>by rw[hw,Array.getElem?_push];simp [Nat.ne_of_lt u]
 refine⟨κ',?_⟩;have main:=a6.newObj (κ':=κ') (w':=w') (.tok n) dl y (fun d=>rfl) (fun d i m bX=>?_) ?h9 hold (by rw[hw];simp) H eh hu
  ⟨w.heap.size,cap,sz,by simp [κ'],dp,⟨C,e,(0,0),B,jT,fun j _=>by simp⟩,fun o au=>?_,fun m hm=>?_⟩ (fun b u=>?_)
 case h9=>exact .inr ⟨0,(C.toList.take (n*sz)).toArray,rfl,C,e,(0,0),B,fun j x a8=>by
  rw[List.getElem?_toArray,List.getElem?_take] at a8;split at a8
  ·simpa using a8
  ·cases a8⟩
 ·exact⟨main.1,main.2,by simp [κ',I],by simp [κ'],J⟩
 ·simp only[κ'];rw[if_neg]
  rintro ⟨rfl,rfl⟩
  omega
 ·simp only[κ',bi.freeze];rw[if_neg (by intro h;have:=h.2.2.2;rw[A] at this;omega)];exact a6.qf (aC _)
 ·simp only[κ'];rw[if_pos (by simp),if_neg (by omega)]
 ·simp [bh,κ'] at u;omega
theorem c3.Ke{κ:bi}{s s':ag}{w:World}(a6:c3 κ s w){d i n m b cap sz:Nat}(cC:s.get (.g d i)=some (.tok n))(B:κ.lD d i n=some (⟨b,0,none⟩,cap,sz))(O:s.set (.g d i) (.tok m)=some s')
  (U:n<m)(hm:m≤cap)(xs:List Value)(a8:xs.length=(m-n)*sz):
  ∃κ',c3 κ' s' (w.setCells b (n*sz) xs)∧fx κ s w κ' s' (w.setCells b (n*sz) xs)∧κ'.lD d i m=some (⟨b,0,none⟩,cap,sz)∧∀j x,xs[j]? =some x→κ'.F ⟨b,n*sz+j,none⟩=some x:=by
 obtain⟨I,Z,ab,au,eZ,⟨C,e,i7,az,b3,dJ⟩,J,K⟩:=a6.obj d i _ cC;rw[B] at au;simp only[bj,e0,Addr.mk.injEq,and_true] at au;obtain⟨rfl,rfl,rfl⟩:=au;obtain⟨ac,ad⟩:=a6.FC cC;have hmul:n*sz+(m-n)*sz=m*sz:=by rw[←e9];congr 1;omega
 have hle:m*sz≤C.size:=by rw[b3];exact fV _ hm
 have u:=mv xs w b (n*sz) C e i7 az (by omega);obtain⟨pE,qO,C3⟩:=mx xs w b (n*sz)
 let E:Array Value:=((dS C.toList (n*sz) xs).take (m*sz)).toArray
 have bq:E.size=m*sz:=by simp [E,fM];omega
 have L:∀j,n*sz≤j→j<m*sz→E[j]? =xs[j-n*sz]?:=by intro j df uv;simp only[E,List.getElem?_toArray,List.getElem?_take,uv,↓reduceIte];rw[gP _ _ _ (by simp;omega),if_pos ⟨df,by omega⟩]
 let κ':bi:={(κ.freeze b (n*sz) E) with lD:=fun fL hI jt=>if fL=d∧hI=i∧jt=m then some (⟨b,0,none⟩,cap,sz) else κ.lD fL hI jt}
 have dl:gS κ κ' (s.aa+1):=by
  refine⟨fun a v h=>(gS.freeze (fun j df=>J j df) (s.aa+1)).F a v h,fun _ _=>aC _,fun _ _ _ _=>rfl,fun fL hI jt x _ _ h=>?_⟩;simp only[κ'];split
  ·rename_i a3;obtain⟨rfl,rfl,rfl⟩:=a3;rw[K _ U] at h;cases h
  ·exact h
 have h9:∀a v,κ'.F a=some v→a.spot=none∧(w.setCells b (n*sz) xs).cell? a=some v:=by
  intro a v h;simp only[κ',bi.freeze] at h;split at h
  ·rename_i a3;obtain⟨ae,V,M,N⟩:=a3;rw[bq] at N;refine⟨V,?_⟩;have y:a=⟨b,a.off,none⟩:=by cases a;simp_all
   rw[y,fN (by rw[u,if_pos rfl])];rw[L _ M N] at h;rw[List.getElem?_toArray,gP _ _ _ (by simp;omega),if_pos ⟨M,by omega⟩];exact h
  ·obtain⟨H,r⟩:=a6.iG a v h;refine⟨H,?_⟩;by_cases Y:a.block=b
   ·have y:a=⟨b,a.off,none⟩:=by cases a;simp_all
    have af:a.off<n*sz:=by
     rcases Nat.lt_or_ge a.off (n*sz) with q|q
     ·exact q
     ·rw[y,J _ q] at h;cases h
    rw[y,fN az] at r;rw[y,fN (by rw[u,if_pos rfl]),List.getElem?_toArray,gP _ _ _ (by simp;omega),if_neg (by omega)];simpa using r
   ·rw[gE (w:=w) (by rw[u,if_neg Y])];exact r
 refine⟨κ',?_⟩;have main:=a6.setObj (κ':=κ') (w':=w.setCells b (n*sz) xs) cC O dl rfl (fun fL hI jt fe=>?_) h9 (fun I _ A=>⟨?_,fun x=>?_⟩) (by rw[mw];exact aC _) pE qO C3
  ⟨b,cap,sz,by simp [κ'],hm,⟨(dS C.toList (n*sz) xs).toArray,e,i7,by rw[u];simp,by simp [fM,b3],by simpa [fM] using dJ⟩,fun o ah=>?_,fun jt ai=>?_⟩ (fun I A=>?_)
 ·refine⟨main.1,main.2,by simp [κ'],fun j x df=>?_⟩;have aj:j<xs.length:=(ey.1 df).1;have H:n*sz≤n*sz+j:=Nat.le_add_right _ _;have r:n*sz+j<m*sz:=by omega
  simp only[κ',bi.freeze];rw[if_pos (⟨trivial,trivial,H,by rw[bq];exact r⟩:True∧True∧n*sz≤n*sz+j∧n*sz+j<E.size),L _ H r,Nat.add_sub_cancel_left,df]
 ·simp only[κ'];rw[if_neg]
  rintro ⟨rfl,rfl,_⟩
  exact fe ⟨rfl,rfl⟩
 ·rw[u,if_neg]
  rintro rfl
  exact A (by simp [bh,B])
 ·have:I≠b:=by rintro rfl;exact A (by simp [bh,B])
  simp [κ',bi.freeze,this]
 ·simp only[κ',bi.freeze];rw[if_neg]
  ·exact J o (by omega)
  ·rintro ⟨_,_,_,q⟩
   rw[bq] at q;omega
 ·simp only[κ'];rw[if_neg (by omega)];exact K jt (by omega)
 ·left
  simp [bh,κ'] at A;simp [bh,B,A]
theorem c3.Kf{κ:bi}{s s':ag}{w w':World}(a6:c3 κ s w){d i n m:Nat}(cC:s.get (.g d i)=some (.tok n))(I:s.set (.g d i) (.tok m)=some s')(J:n<m)
  (C:Array Value)(e:TypeId)(cap sz:Nat)(jT:C.size=cap*sz)(hm:m≤cap)(hw:w'.heap=w.heap.push (.cells C e (0,0)))(K:w'.os=w.os)(eh:w'.tape=w.tape)(hu:w'.output=w.output):
  ∃κ',c3 κ' s' w'∧fx κ s w κ' s' w'∧κ'.lD d i m=some (⟨w.heap.size,0,none⟩,cap,sz)∧∀j,j<m*sz→κ'.F ⟨w.heap.size,j,none⟩=C[j]?:=by
 obtain⟨b,V,Y,au,eZ,⟨Z,hZ,ab,az,b3,dJ⟩,ac,u⟩:=a6.obj d i _ cC;obtain⟨ad,ae⟩:=a6.FC cC;have hle:m*sz≤C.size:=by rw[jT];exact fV _ hm
 have r:((C.toList.take (m*sz)).toArray).size=m*sz:=by simp;omega
 have hold:∀b,b<w.heap.size→w'.heap[b]? =w.heap[b]?:=fun b L=>by rw[hw,Array.getElem?_push];simp [Nat.ne_of_lt L]
 have y:w'.heap[w.heap.size]? =some (.cells C e (0,0)):=by rw[hw];simp
 let κ':bi:={(κ.freeze w.heap.size 0 (C.toList.take (m*sz)).toArray) with lD:=fun fL hI jt=>if fL=d∧hI=i∧jt=m then some (⟨w.heap.size,0,none⟩,cap,sz) else κ.lD fL hI jt}
 have dl:gS κ κ' (s.aa+1):=by
  refine⟨fun a v h=>(gS.freeze (fun j df=>a6.qf (aC _)) (s.aa+1)).F a v h,fun _ _=>aC _,fun _ _ _ _=>rfl,fun fL hI jt x _ _ h=>?_⟩;simp only[κ'];split
  ·rename_i a3;obtain⟨rfl,rfl,rfl⟩:=a3;rw[u _ J] at h;cases h
  ·exact h
 have M:∀j,j<m*sz→κ'.F ⟨w.heap.size,j,none⟩=C[j]?:=by intro j df;simp only[κ',bi.freeze];rw[if_pos (⟨trivial,trivial,Nat.zero_le _,by rw[r];exact df⟩:True∧True∧0≤j∧j<((C.toList.take (m*sz)).toArray).size)];simp [df]
 refine⟨κ',?_⟩;have main:=a6.setObj (κ':=κ') (w':=w') cC I dl rfl (fun fL hI jt fe=>?_) (fun a v h=>?_) (fun A q _=>⟨hold A q,fun x=>?_⟩) (by rw[hw];simp) K eh hu
  ⟨w.heap.size,cap,sz,by simp [κ'],hm,⟨C,e,(0,0),y,jT,fun j _=>by simp⟩,fun o af=>?_,fun jt ah=>?_⟩ (fun A q=>?_)
 ·exact⟨main.1,main.2,by simp [κ'],M⟩
 ·simp only[κ'];rw[if_neg]
  rintro ⟨rfl,rfl,_⟩
  exact fe ⟨rfl,rfl⟩
 ·simp only[κ',bi.freeze] at h;split at h
  ·rename_i a3;obtain⟨ai,N,aj,B⟩:=a3;rw[r] at B;refine⟨N,?_⟩;have O:a=⟨w.heap.size,a.off,none⟩:=by cases a;simp_all
   rw[O,fN y];rw[List.getElem?_toArray,List.getElem?_take] at h;simpa [B] using h
  ·obtain⟨U,H⟩:=a6.iG a v h;exact⟨U,by rw[gE (hold _ (oO H))];exact H⟩
 ·simp [κ',bi.freeze,Nat.ne_of_lt q]
 ·simp only[κ',bi.freeze];rw[if_neg (by intro h;have:=h.2.2.2;rw[r] at this;omega)];exact a6.qf (aC _)
 ·simp only[κ'];rw[if_neg (by omega)];exact u jt (by omega)
 ·right
  simp [bh,κ'] at q;omega
def ag.push(s:ag):ag:={own:=[],up:=s.own::s.up,ro:=s.ro}
theorem ag.i9(s:ag):s.push.aa=s.aa+1:=by simp [ag.push,ag.aa];omega
theorem ag.qP(s:ag)(d:Nat):s.push.ao d=if d=s.aa+1 then some [] else s.ao d:=by
 unfold ag.ao;rw[ag.i9];by_cases au:d=s.aa+1
 ·simp [au,ag.push]
 ·simp only[au,↓reduceIte];by_cases az:d=s.aa
  ·simp [az,ag.push]
  ·by_cases b3:d<s.aa
   ·have dJ:d<s.aa+1:=by omega
    simp only[az,b3,dJ,↓reduceIte,ag.push];rw[show s.aa+1-1-d=(s.aa-1-d)+1 by omega,List.cons_append,List.getElem?_cons_succ]
   ·have dJ:¬d<s.aa+1:=by omega
    simp [az,b3,dJ]
theorem ag.nx(s:ag)(d i:Nat):s.push.get (.g d i)=s.get (.g d i):=by
 rw[ag.ms,ag.ms,ag.qP];by_cases h:d=s.aa+1
 ·subst h;have au:s.ao (s.aa+1)=none:=by
   have q:¬s.aa+1<s.aa:=by omega
   simp [ag.ao,q]
  simp [au]
 ·simp [h]
theorem c3.push{κ:bi}{s:ag}{w:World}(a6:c3 κ s w):∃κ',c3 κ' s.push w∧gS κ κ' (s.aa+1)∧κ'.F=κ.F∧∀d i o,s.get (.g d i)=some o→bh κ' d i o=bh κ d i o:=by
 refine⟨{κ with n:=fun d=>if d=s.aa+1 then 0 else κ.n d},?_⟩;have dl:gS κ {κ with n:=fun d=>if d=s.aa+1 then 0 else κ.n d} (s.aa+1):=by refine⟨fun _ _ h=>h,fun d cS=>?_,fun _ _ _ _=>rfl,fun _ _ _ _ _ _ h=>h⟩;simp only;rw[if_neg (by omega)];exact aC _
 have key:∀d i o,s.get (.g d i)=some o→zL {κ with n:=fun d=>if d=s.aa+1 then 0 else κ.n d} d i w o∧bh {κ with n:=fun d=>if d=s.aa+1 then 0 else κ.n d} d i o=bh κ d i o:=fun d i o h=>(a6.obj d i o h).bS (a6.nw h) (dl.low (by have:=ag.gu h;omega)) (fun m=>rfl) (fun b _=>⟨rfl,fun _=>rfl⟩)
 refine⟨⟨a6.iG,fun d l h=>?_,fun d i o h=>?_,fun d i o fL hI o' b h q e hZ=>?_⟩,dl,rfl,fun d i o h=>(key d i o h).2⟩
 ·rw[ag.qP] at h;split at h
  ·rename_i cS;simp only[bj] at h;simp [←h,cS]
  ·rename_i cS;simp only[cS,↓reduceIte];exact a6.len d l h
 ·rw[ag.nx] at h;exact(key d i o h).1
 ·rw[ag.nx] at h q;rw[(key d i o h).2] at e;rw[(key fL hI o' q).2] at hZ;exact a6.inj d i o fL hI o' b h q e hZ
theorem ag.uw{s:ag}{own:List du}{up:List (List du)}(h:s.up=own::up):({own,up,ro:=s.ro}:ag).push= {s with own:=[]}:=by simp [ag.push,h]
theorem ag.qQ{s:ag}{own:List du}{up:List (List du)}(h:s.up=own::up){d i:Nat}{o:du}(cC:({own,up,ro:=s.ro}:ag).get (.g d i)=some o):s.get (.g d i)=some o:=by
 have cS:=ag.gu cC;rw[←ag.nx,ag.uw h] at cC;have q:s.aa=({own,up,ro:=s.ro}:ag).aa+1:=by simp [ag.aa,h];omega
 have fe:d≠s.aa:=by omega
 unfold ag.get at cC ⊢;have e:({s with own:=[]}:ag).aa=s.aa:=rfl;rw[e] at cC;simp only[fe,↓reduceIte] at cC ⊢;exact cC
theorem c3.pop{κ:bi}{s:ag}{w:World}(a6:c3 κ s w){own:List du}{up:List (List du)}(h:s.up=own::up):c3 κ {own,up,ro:=s.ro} w:=by
 refine⟨a6.iG,fun d l cS=>?_,fun d i o cC=>a6.obj d i o (ag.qQ h cC),fun d i o fL hI o' b cC r=>a6.inj d i o fL hI o' b (ag.qQ h cC) (ag.qQ h r)⟩;have A:s.aa=({own,up,ro:=s.ro}:ag).aa+1:=by simp [ag.aa,h];omega
 have B:d≤({own,up,ro:=s.ro}:ag).aa:=by
  rcases Nat.lt_or_ge ({own,up,ro:=s.ro}:ag).aa d with q|q
  ·have u:d≠({own,up,ro:=s.ro}:ag).aa:=by omega
   have y:¬d<({own,up,ro:=s.ro}:ag).aa:=by omega
   simp [ag.ao,u,y] at cS
  ·exact q
 have q:({own,up,ro:=s.ro}:ag).push.ao d=some l:=by rw[ag.qP,if_neg (by omega)];exact cS
 rw[ag.uw h] at q;refine a6.len d l ?_;unfold ag.ao at q ⊢;have e:({s with own:=[]}:ag).aa=s.aa:=rfl;rw[e] at q;have fe:d≠s.aa:=by omega
 simp only[fe,↓reduceIte] at q ⊢;exact q
theorem c3.empty{κ:bi}{s:ag}{w:World}(a6:c3 κ s w):c3 {κ with n:=fun _=>0} {own:=[],up:=[],ro:=[]} w:=by
 have e:∀d i,({own:=[],up:=[],ro:=[]}:ag).get (.g d i)=none:=by intro d i;simp [ag.get]
 refine⟨a6.iG,fun d l h=>?_,fun d i o h=>?_,fun d i o fL hI o' b h=>?_⟩
 ·unfold ag.ao at h;simp at h;simp [h]
 ·rw[e] at h;cases h
 ·rw[e] at h;cases h
def ux:List af→fi→Value→Bool
 |[],.nil,.slice none 0 0=>true
 |_,_,_=>false
theorem uy{es:List af}{g:fi}{x:Value}(h:ux es g x=true):es=[]∧g=.nil∧x=.slice none 0 0:=by
 unfold ux at h;split at h
 ·exact⟨rfl,rfl,rfl⟩
 ·cases h
def ye:Value→Bool
 |.pointer none=>true
 |_=>false
theorem wG{x:Value}(h:ye x=true):x=.pointer none:=by
 unfold ye at h;split at h
 ·rfl
 ·cases h
def yf:Value→Bool
 |.map none=>true
 |_=>false
theorem wH{x:Value}(h:yf x=true):x=.map none:=by
 unfold yf at h;split at h
 ·rfl
 ·cases h
mutual
def hk:af→Value→Bool
 |.bool a,.bool b=>a==b
 |.int k a,.int lN b=>decide (k=lN)&&a==b
 |.str fc,.string s=>fc==s.data.toList.map UInt8.toNat
 |.bG _ es g,x=>ux es g x
 |.hP,x=>ye x
 |.h2,.nilFunc=>true
 |.fj,x=>yf x
 |.hQ,.nilIface=>true
 |.agg cs,.agg xs=>mT cs xs.toList
 |.ea [],.tuple xs=>xs.size==0
 |_,_=>false
def mT:List af→List Value→Bool
 |[],[]=>true
 |c::cs,x::xs=>hk c x&&mT cs xs
 |_,_=>false
end
mutual
theorem n1:∀(v:af) (x:Value),hk v x=true→(∀κ D,dF κ D v x)∧v.bd=true
 |.bool a,x,h=>by cases x<;> simp [hk] at h;subst h;exact⟨fun _ _=>.bool a,rfl⟩
 |.int k a,x,h=>by cases x<;> simp [hk] at h;obtain⟨rfl,rfl⟩:=h;exact⟨fun _ _=>.int k a,rfl⟩
 |.str fc,x,h=>by cases x<;> simp [hk] at h;exact⟨fun _ _=>.str fc _ h.symm,rfl⟩
 |.bG sz es g,x,h=>by simp only[hk] at h;obtain⟨rfl,rfl,rfl⟩:=uy h;exact⟨fun _ _=>.kS sz,rfl⟩
 |.hP,x,h=>by simp only[hk] at h;rw[wG h];exact⟨fun _ _=>.hP,rfl⟩
 |.h2,x,h=>by cases x<;> simp [hk] at h;exact⟨fun _ _=>.h2,rfl⟩
 |.fj,x,h=>by simp only[hk] at h;rw[wH h];exact⟨fun _ _=>.fj,rfl⟩
 |.hQ,x,h=>by cases x<;> simp [hk] at h;exact⟨fun _ _=>.hQ,rfl⟩
 |.agg cs,x,h=>by cases x<;> simp [hk] at h;rename_i xs;obtain⟨au,az⟩:=nh cs xs.toList h;exact⟨fun κ D=>by simpa using dF.agg cs xs.toList (au κ D).1 (au κ D).2,by simpa [af.bd] using az⟩
 |.ea cs,x,h=>by
  cases cs with
  |nil=>cases x<;> simp [hk] at h;rename_i xs;subst h;exact⟨fun κ D=>.ea [] [] rfl (fun j c x a3=>by simp at a3),rfl⟩
  |cons c cs=>cases x<;> simp [hk] at h
 |.dead,x,h=>by cases x<;> simp [hk] at h
 |.cZ ..,x,h=>by cases x<;> simp [hk] at h
 |.ref ..,x,h=>by cases x<;> simp [hk] at h
 |.bI ..,x,h=>by cases x<;> simp [hk] at h
 |.fn ..,x,h=>by cases x<;> simp [hk] at h
 |.map ..,x,h=>by cases x<;> simp [hk] at h
 |.iface ..,x,h=>by cases x<;> simp [hk] at h
theorem nh:∀(cs:List af) (xs:List Value),mT cs xs=true→(∀κ D,er κ D cs xs)∧af.aY cs=true
 |[],[],_=>⟨fun κ D=>.nil κ D,rfl⟩
 |[],x::xs,h=>by simp [mT] at h
 |c::cs,[],h=>by simp [mT] at h
 |c::cs,x::xs,h=>by simp only[mT,bn] at h;obtain⟨au,az⟩:=n1 c x h.1;obtain⟨b3,dJ⟩:=nh cs xs h.2;exact⟨fun κ D=>.cons (au κ D) (b3 κ D),by simp [af.aY,az,dJ]⟩
end
def cH:bC→Operand→Bool
 |.t n,.tmp m=>n==m
 |.c v,.const x=>hk v x
 |.c (.fn f []),.func g=>f==g
 |.g n,.global m=>n==m
 |.at n _ _,.tmp m=>n==m
 |_,_=>false
def dC:List bC→List Operand→Bool
 |[],[]=>true
 |x::xs,y::e=>cH x y&&dC xs e
 |_,_=>false
def fy:Option bC→Option Operand→Bool
 |none,none=>true
 |some x,some y=>cH x y
 |_,_=>false
def km(κ:bi)(G:Nat→af):Prop:=∀n,dF κ 0 (G n) (.pointer (some ⟨n,0,none⟩))∧(G n).bd=true
theorem km.mono{κ κ':bi}{G:Nat→af}(h:km κ G){D:Nat}(k:gS κ κ' D):km κ' G:=fun n=>⟨(h n).1.mono (k.low (Nat.zero_le D)),(h n).2⟩
theorem bp{κ:bi}{s:ag}{ao:Nat→af}{a:Act}{G:Nat→af}(bB:wB κ s ao a)(dX:km κ G){x:bC}{y:Operand}(h:cH x y=true):dF κ (s.aa+1) ((aq G ao x).ap s.aa) (a.eval y):=by
 cases x with
 |t n=>cases y<;> simp [cH] at h;subst h;exact bB n
 |c v=>
  cases y with
  |const x=>
   have q:hk v x=true:=by cases v<;> simpa [cH] using h
   obtain⟨au,az⟩:=n1 v x q;simp only[aq,js az,Act.eval];exact au _ _
  |func g=>
   cases v<;> simp [cH] at h;rename_i f dI;cases dI with
   |nil=>simp [cH] at h;subst h;exact .fn f [] [] rfl (fun j c x a3=>by simp at a3)
   |cons c cs=>simp [cH] at h
  |tmp m=>cases v<;> simp [cH] at h
  |global m=>cases v<;> simp [cH] at h
 |g n=>cases y<;> simp [cH] at h;subst h;obtain⟨au,az⟩:=dX n;simp only[aq,js az,Act.eval];exact au.up (Nat.zero_le _)
 | «at» n b off=>
  cases y<;> simp [cH] at h;subst h;simp only[aq];rcases FB (ao n) (ao b) off with e|⟨e,_⟩
  ·rw[e];exact .dead _
  ·rw[e];exact bB n
 |Py b off=>cases y<;> simp [cH] at h
section
variable{κ:bi}{D:Nat}{x:Value}
theorem dF.eB{k:IntKind}{n:Int}(h:dF κ D (.int k n) x):x=.int k n:=by cases h;rfl
theorem dF.gY{b:Bool}(h:dF κ D (.bool b) x):x=.bool b:=by cases h;rfl
theorem dF.ic{fc:List Nat}(h:dF κ D (.str fc) x):∃s,x=.string s∧s.data.toList.map UInt8.toNat=fc:=by cases h;exact⟨_,rfl,by assumption⟩
theorem dF.my{cs:List af}(h:dF κ D (.agg cs) x):∃xs:List Value,x=.agg xs.toArray∧er κ D cs xs:=by cases h;exact⟨_,rfl,by assumption,by assumption⟩
theorem dF.uz{cs:List af}(h:dF κ D (.ea cs) x):∃xs:List Value,x=.tuple xs.toArray∧er κ D cs xs:=by cases h;exact⟨_,rfl,by assumption,by assumption⟩
theorem dF.tP{f:Nat}{cs:List af}(h:dF κ D (.fn f cs) x):∃xs:List Value,x=.func (.func f) #[] xs.toArray∧er κ D cs xs:=by cases h;exact⟨_,rfl,by assumption,by assumption⟩
theorem dF.sm{cs:List af}(h:dF κ D (.bI cs) x):∃(a:Addr) (dw:Nat→Value),x=.pointer (some a)∧a.spot=none∧(∀j,j<cs.length→κ.F (a.add j)=some (dw j))∧∀(j:Nat) (c:af),cs[j]? =some c→dF κ D c (dw j):=by cases h;exact⟨_,_,rfl,by assumption,by assumption,by assumption⟩
theorem dF.mz{d i off:Nat}(h:dF κ D (.ref (.g d i) off) x):x=.pointer (some ⟨κ.loc d i,off,none⟩)∧d<D∧i<κ.n d:=by cases h;exact⟨rfl,by assumption,by assumption⟩
theorem dF.jU{d i off len cap sz:Nat}(h:dF κ D (.cZ (.g d i) off len cap sz) x):∃lS,x=.slice (some ⟨κ.loc d i,off,none⟩) len lS∧d<D∧i<κ.n d∧len≤lS∧(lS=cap∨(cap=0∧0<len∧off=0∧κ.lD d i len=some (⟨κ.loc d i,0,none⟩,lS,sz))):=by cases h;exact⟨_,rfl,by assumption,by assumption,by assumption,by assumption⟩
theorem dF.IL{d i off len cap sz:Nat}(h:dF κ D (.cZ (.g d i) off len cap sz) x)(bK:len≤cap):x=.slice (some ⟨κ.loc d i,off,none⟩) len cap∧d<D∧i<κ.n d:=by
 obtain⟨lS,rfl,au,az,b3,dJ⟩:=h.jU;rcases dJ with rfl |⟨e,q,_⟩
 ·exact⟨rfl,au,az⟩
 ·omega
theorem dF.C4{t:Nat}{v:af}(h:dF κ D (.iface t v) x):∃y,x=.iface t y∧dF κ D v y:=by cases h;exact⟨_,rfl,by assumption⟩
end
theorem dF.cells{κ:bi}{D:Nat}{v:af}{x:Value}(h:dF κ D v x)(bO:v.fh=true):er κ D v.cells x.cells.toList:=by
 cases h<;> simp [af.fh] at bO<;> simp only[af.cells,Value.cells]
 case agg cs xs bK e=>exact⟨by simpa using bK,by simpa using e⟩
 all_goals
  refine .cons ?_ (.nil _ _)
  first
   |exact .bool _|exact .int _ _|exact .str _ _ (by assumption)|exact .kS _
   |exact .bG _ _ _ _ _ _ (by assumption) (by assumption) (by assumption) (by assumption) (by assumption) (by assumption) (by assumption)
   |exact .cZ _ _ _ _ _ _ _ (by assumption) (by assumption) (by assumption) (by assumption)|exact .ref _ _ _ (by assumption) (by assumption)
   |exact .bI _ _ _ (by assumption) (by assumption) (by assumption)|exact .hP|exact .fn _ _ _ (by assumption) (by assumption)
   |exact .h2|exact .kk _|exact .fj|exact .map _ _ (by assumption) (by assumption)|exact .iface _ _ _ (by assumption)|exact .hQ
theorem uA(v:af)(d:Nat):(v.ap d).fh=v.fh:=by cases v<;> rfl
theorem dF.Kg{κ:bi}{D:Nat}{v:af}{x:Value}(h:dF κ D v x)(bO:v.eO=true):x.oneCell'=true:=by cases h<;> simp [af.eO] at bO<;> rfl
theorem bytes_inj{a b:List UInt8}(h:a.map UInt8.toNat=b.map UInt8.toNat):a=b:=by have:=List.map_inj_right (f:=UInt8.toNat) (l:=a) (l':=b) (fun x y e=>UInt8.toNat_inj.1 e);exact this.1 h
theorem yg(a b:List UInt8):(a.map UInt8.toNat==b.map UInt8.toNat)=(a==b):=by rw[Bool.eq_iff_iff];simp only[beq_iff_eq];exact⟨bytes_inj,fun h=>by rw[h]⟩
theorem oQ:∀(a b:List UInt8),jM (a.map UInt8.toNat) (b.map UInt8.toNat)=Op.bytesLess a b
 |_,[]=>by simp [jM,Op.bytesLess]
 |[],_::_=>by simp [jM,Op.bytesLess]
 |a::x,b::y=>by
  simp only[fK,jM,Op.bytesLess,oQ x y];have au:Nat.blt a.toNat b.toNat=decide (a<b):=by rw[Bool.eq_iff_iff];simp [Nat.blt_eq,UInt8.lt_iff_toNat_lt]
  have az:Nat.beq a.toNat b.toNat=(a==b):=by rw[Bool.eq_iff_iff];simp [Nat.beq_eq,UInt8.toNat_inj]
  rw[au,az]
def dQ(P:Program)(o:Op)(ty:TypeId)(ρ:Operand→Value)(κ:bi)(s:ag)(w:World)(v:af)(s':ag):Prop:=
 ∃x κ' w',((∀dst pos after guard,(execOp ρ ⟨dst,o,ty,pos,after,guard⟩).run P w=.ok (.value x) w')∨((∀dst pos after guard,(execOp ρ ⟨dst,o,ty,pos,after,guard⟩).run P w=.ok .skip w')∧x=undef))∧
  fx κ s w κ' s' w'∧c3 κ' s' w'∧dF κ' (s.aa+1) (v.ap s.aa) x
theorem bF{P:Program}{o:Op}{ty:TypeId}{ρ:Operand→Value}{κ:bi}{s:ag}{w:World}{v:af}(a6:c3 κ s w)(x:Value)
  (h:∀dst pos after guard,(execOp ρ ⟨dst,o,ty,pos,after,guard⟩).run P w=.ok (.value x) w)(a8:dF κ (s.aa+1) (v.ap s.aa) x):dQ P o ty ρ κ s w v s:=
 ⟨x,κ,w,.inl h,.refl _ _ _,a6,a8⟩
section
variable{P:Program}{ty:TypeId}{ρ:Operand→Value}{κ:bi}{s:ag}{w:World}(a6:c3 κ s w)
include a6
theorem sM{v:af}{x:Operand}(h:dF κ (s.aa+1) (v.ap s.aa) (ρ x)):dQ P (.move x) ty ρ κ s w v s:=
 bF a6 _ (fun _ _ _ _=>by simp [execOp]) h
theorem pN{v:af}{x:Operand}(h:dF κ (s.aa+1) (v.ap s.aa) (ρ x)):dQ P (.assign x) ty ρ κ s w v s:=
 bF a6 _ (fun _ _ _ _=>by simp [execOp]) h
theorem zS{t:Bool}{a b:af}{c x y:Operand}(a3:ρ c=.bool t)(au:dF κ (s.aa+1) (a.ap s.aa) (ρ x))(az:dF κ (s.aa+1) (b.ap s.aa) (ρ y)):
  dQ P (.pick c x y) ty ρ κ s w (bif t then a else b) s:=by
 refine bF a6 (if t then ρ x else ρ y) (fun _ _ _ _=>by simp [execOp,a3,asBool]) ?_;cases t<;> assumption
theorem uB{op:BinOp}{k:IntKind}{m n:Int}{t yt:TypeId}{x y:Operand}{v:af}(a8:ρ x=.int k m)(eT:ρ y=.int k n)(h:gm op k m n=some v):dQ P (.binOp op t x y yt) ty ρ κ s w v s:=by
 have key:∃z,(binOp op t (.int k m) (.int k n)).run P w=.ok z w∧dF κ (s.aa+1) (v.ap s.aa) z:=by
  cases op<;> simp only[gm,bj,reduceCtorEq] at h
  case quo=>
   by_cases dp:n=0
   ·simp [dp] at h
   ·simp only[dp,↓reduceIte,bj] at h;subst h;exact⟨_,by simp only[binOp,Op.intDiv,dp,ne_eq,not_true_eq_false,↓reduceIte];rfl,.int k _⟩
  case rem=>
   by_cases dp:n=0
   ·simp [dp] at h
   ·simp only[dp,↓reduceIte,bj] at h;subst h;exact⟨_,by simp only[binOp,Op.intDiv,dp,ne_eq,not_true_eq_false,↓reduceIte];rfl,.int k _⟩
  case add=>subst h;exact⟨_,by simp only[binOp,Op.intArith,ne_eq,not_true_eq_false,↓reduceIte];rfl,.int k _⟩
  case sub=>subst h;exact⟨_,by simp only[binOp,Op.intArith,ne_eq,not_true_eq_false,↓reduceIte];rfl,.int k _⟩
  case mul=>subst h;exact⟨_,by simp only[binOp,Op.intArith,ne_eq,not_true_eq_false,↓reduceIte];rfl,.int k _⟩
  case and=>subst h;exact⟨_,by simp only[binOp,Op.intBits,ne_eq,not_true_eq_false,↓reduceIte];rfl,.int k _⟩
  case or=>subst h;exact⟨_,by simp only[binOp,Op.intBits,ne_eq,not_true_eq_false,↓reduceIte];rfl,.int k _⟩
  case xor=>subst h;exact⟨_,by simp only[binOp,Op.intBits,ne_eq,not_true_eq_false,↓reduceIte];rfl,.int k _⟩
  case andNot=>subst h;exact⟨_,by simp only[binOp,Op.intBits,ne_eq,not_true_eq_false,↓reduceIte];rfl,.int k _⟩
  all_goals (subst h;exact⟨_,by simp only[binOp,Op.intCmp,ne_eq,not_true_eq_false,↓reduceIte];rfl,.bool _⟩)
 obtain⟨z,hC,bO⟩:=key;refine bF a6 z (fun _ _ _ _=>?_) bO;have cC:(eqGuard op t x y (.int k m) (.int k n)).run P w=.ok () w:=by unfold eqGuard;split<;> rfl
 simp [execOp,a8,eT,cC,hC]
theorem qR{op:BinOp}{k lN:IntKind}{m n:Int}{t yt:TypeId}{x y:Operand}{v:af}(a8:ρ x=.int k m)(eT:ρ y=.int lN n)(e:op=.shl∨op=.shr)(h:lO op k m n=some v):dQ P (.binOp op t x y yt) ty ρ κ s w v s:=by
 unfold lO at h;split at h
 ·cases h
 ·rename_i dp;rcases e with rfl |rfl <;> simp only[bj] at h<;> subst h<;> exact bF a6 _ (fun _ _ _ _=>by simp only[execOp,a8,eT,eqGuard,binOp,Op.shift,dp];rfl) (.int k _)
theorem wI{k:IntKind}{n:Int}{t:TypeId}{x:Operand}(a8:ρ x=.int k n):dQ P (.unOp .neg t x) ty ρ κ s w (.int k (k.wrap (0-n))) s:=
 bF a6 _ (fun _ _ _ _=>by simp only[execOp,a8,Op.unary,Op.intArith];rfl) (.int k _)
theorem wJ{k:IntKind}{n:Int}{t:TypeId}{x:Operand}(a8:ρ x=.int k n):dQ P (.unOp .xor t x) ty ρ κ s w (.int k (k.wrap (BitVec.ofInt k.bits (if k.signed then -1 else k.max) ^^^ BitVec.ofInt k.bits n).toNat)) s:=
 bF a6 _ (fun _ _ _ _=>by simp only[execOp,a8,Op.unary,Op.intBits];rfl) (.int k _)
theorem wK{b:Bool}{t:TypeId}{x:Operand}(a8:ρ x=.bool b):dQ P (.unOp .not t x) ty ρ κ s w (.bool (!b)) s:=
 bF a6 _ (fun _ _ _ _=>by simp [execOp,a8,Op.unary]) (.bool _)
theorem uC{op:BinOp}{as fc:List Nat}{t yt:TypeId}{x y:Operand}{v:af}(a8:dF κ (s.aa+1) (.str as) (ρ x))(eT:dF κ (s.aa+1) (.str fc) (ρ y))(h:x9 op as fc=some v):dQ P (.binOp op t x y yt) ty ρ κ s w v s:=by
 obtain⟨a,a8,e⟩:=a8.ic;obtain⟨b,eT,q⟩:=eT.ic;have r:(a.toList==b.toList)=(as==fc):=by rw[Go.ByteArray.toList_eq,Go.ByteArray.toList_eq,←e,←q,yg]
 have u:Op.bytesLess a.toList b.toList=jM as fc:=by rw[Go.ByteArray.toList_eq,Go.ByteArray.toList_eq,←e,←q,oQ]
 have key:∃z,(binOp op t (.string a) (.string b)).run P w=.ok z w∧dF κ (s.aa+1) (v.ap s.aa) z:=by
  cases op<;> simp only[x9,bj,reduceCtorEq] at h
  case add=>
   split at h
   ·rename_i hle;simp only[bj] at h;subst h;have bK:=d0 hle;have A:a.size=as.length:=by have:=congrArg List.length e;rw[eG,Array.length_toList] at this;exact this
    have B:b.size=fc.length:=by have:=congrArg List.length q;rw[eG,Array.length_toList] at this;exact this
    refine⟨.string (a++b),?_,.str _ _ ?_⟩
    ·have:¬(((a.size+b.size:Nat):Int)>IntKind.i64.max):=by rw[A,B];show¬_>(9223372036854775807:Int);omega
     simp only[binOp,Op.stringOp,this,↓reduceIte];rfl
    ·rw[←e,←q,←List.map_append];simp
   ·cases h
  all_goals (subst h;refine⟨_,by simp only[binOp,Op.stringOp,r,u];rfl,?_⟩;exact .bool _)
 obtain⟨z,hC,bO⟩:=key;refine bF a6 z (fun _ _ _ _=>?_) bO;have cC:(eqGuard op t x y (.string a) (.string b)).run P w=.ok () w:=by unfold eqGuard;split<;> rfl
 simp [execOp,a8,eT,cC,hC]
theorem uD{k lN:IntKind}{n:Int}{src dst:TypeId}{x:Operand}{d:TypeDesc}(e:P.underlying src=some d)(h:P.underlying dst=some (.int k))(a8:ρ x=.int lN n):dQ P (.convert src dst x) ty ρ κ s w (.int k (k.wrap n)) s:=
 bF a6 _ (fun _ _ _ _=>by simp [execOp,convert,run_underlying e,run_underlying h,a8,Conv.intToInt]) (.int k _)
theorem wL{fc:List Nat}{src dst:TypeId}{x:Operand}{d:TypeDesc}(e:P.underlying src=some d)(h:P.underlying dst=some .string)(a8:dF κ (s.aa+1) (.str fc) (ρ x)):dQ P (.convert src dst x) ty ρ κ s w (.str fc) s:=by obtain⟨a,q,r⟩:=a8.ic;exact bF a6 _ (fun _ _ _ _=>by simp [execOp,convert,run_underlying e,run_underlying h,q]) (.str _ _ r)
theorem uE{v:af}{t:TypeId}{x:Operand}{d:TypeDesc}(eh:P.underlying t=some d)(cS:(d matches .interface _)=false)(a8:dF κ (s.aa+1) (v.ap s.aa) (ρ x)):dQ P (.makeInterface t x) ty ρ κ s w (.iface t (v.ap s.aa)) s:=
 bF a6 (.iface t (ρ x)) (fun _ _ _ _=>by simp only[execOp,Instr.makeInterface,map_eq_pure_bind,Sem.run_bind,run_underlying eh,Result.andThen_ok];cases d<;> simp at cS ⊢) (.iface t _ _ a8)
theorem uF{vs:List af}{i:Nat}{x:Operand}{v:af}(a8:dF κ (s.aa+1) (.ea vs) (ρ x))(bO:vs[i]? =some v)(fC:v.ap s.aa=v):dQ P (.extract x i) ty ρ κ s w v s:=by obtain⟨xs,q,bK,h⟩:=a8.uz;have bX:=(ey.1 bO).1;have e:xs[i]? =some xs[i]:=eP (by omega);exact bF a6 xs[i] (fun _ _ _ _=>by simp [execOp,Instr.extract,q,e]) (by rw[fC];exact h i v _ bO e)
end
def zT:TypeDesc→Bool
 |.struct _|.array _ _=>true
 |_=>false
def kW(P:Program)(t:TypeId):Option Bool:=(P.underlying t).map zT
def ff(P:Program)(t:TypeId):Option Nat:=(P.info? t).map (·.size)
theorem ja{P:Program}{t:TypeId}{b:Bool}(h:kW P t=some b)(w:World):(isAgg t).run P w=.ok b w:=by
 unfold kW at h;cases cS:P.underlying t with
 |none=>simp [cS] at h
 |some d=>simp only[cS,ew,bj] at h;subst h;simp only[isAgg,Sem.run_bind,run_underlying cS,Result.andThen_ok];cases d<;> rfl
theorem eC{P:Program}{t:TypeId}{n:Nat}(h:ff P t=some n)(w:World):(sizeOf t).run P w=.ok n w:=by
 unfold ff at h;cases cS:P.info? t with
 |none=>simp [cS] at h
 |some i=>simp only[cS,ew,bj] at h;subst h;simp [sizeOf,typeInfo,cS]
section
variable{P:Program}{ty:TypeId}{ρ:Operand→Value}{κ:bi}{s:ag}{w:World}(a6:c3 κ s w)
include a6
def Reads(κ:bi)(D:Nat)(w:World)(a:Addr)(cs:List af):Prop:=∃dw:Nat→Value,(∀j,j<cs.length→w.cell? (a.add j)=some (dw j))∧∀(j:Nat) (c:af),cs[j]? =some c→dF κ D c (dw j)
omit a6 in
theorem Reads.drop{D:Nat}{a:Addr}{cs:List af}(h:Reads κ D w a cs)(n:Nat):Reads κ D w (a.add n) (cs.drop n):=by obtain⟨dw,au,az⟩:=h;refine⟨fun j=>dw (n+j),fun j df=>?_,fun j c a3=>az _ c (by simpa using a3)⟩;rw[add_add];exact au _ (by simp at df;omega)
theorem zU{D:Nat}{cs:List af}{x:Value}(h:dF κ D (.bI cs) x):∃a,x=.pointer (some a)∧a.spot=none∧Reads κ D w a cs:=by obtain⟨a,dw,rfl,au,az,b3⟩:=h.sm;exact⟨a,rfl,au,dw,fun j df=>(a6.iG _ _ (az j df)).2,b3⟩
theorem n2{d i:Nat}{cs:List af}(h:s.get (.g d i)=some (.cells cs))(off:Nat):Reads κ (d+1) w ⟨κ.loc d i,off,none⟩ (cs.drop off):=by
 obtain⟨⟨C,e,i7,au,az,b3,_⟩,dJ⟩:=a6.obj d i _ h;have bK:cs.length≤C.size:=by have:=b3.1;simp at this;omega
 refine⟨fun j=>C.getD (off+j) undef,fun j df=>?_,fun j c a3=>?_⟩
 ·rw[fZ rfl,fN au];simp at df;simp [Array.getD,show off+j<C.size by omega]
 ·obtain⟨x,a8,bO⟩:=b3.get (show cs[off+j]? =some c by simpa using a3);have q:off+j<cs.length:=(ey.1 (show cs[off+j]? =some c by simpa using a3)).1
  have:C.getD (off+j) undef=x:=by
   rw[List.getElem?_take,if_pos q] at a8;have r:C[off+j]? =some x:=by simpa using a8
   simp [Array.getD_eq_getD_getElem?,r]
  simpa [this] using bO
omit a6 in
theorem sn{D e:Nat}{a:Addr}{cs:List af}(h:Reads κ D w a cs)(q:D≤e):Reads κ e w a cs:=by obtain⟨v,au,az⟩:=h;exact⟨v,au,fun j c a3=>(az j c a3).up q⟩
omit a6 in
theorem sN{D:Nat}{a:Addr}{cs:List af}(h:Reads κ D w a cs){n:Nat}(dp:n≤cs.length):∃xs:List Value,(loadCells a n).run P w=.ok xs.toArray w∧er κ D (cs.take n) xs:=by
 obtain⟨dw,au,az⟩:=h;refine⟨(List.range n).map dw,run_loadCells w a n dw (fun j df=>au j (by omega)),by simp;omega,fun j c x a3 a8=>?_⟩;simp only[hy,List.getElem?_range] at a8;rw[List.getElem?_take] at a3;by_cases df:j<n
 ·simp only[df,↓reduceIte] at a3;have e:(List.range n)[j]? =some j:=by simp [df]
  rw[e] at a8;simp only[ew,bj] at a8;exact a8 ▸ az j c a3
 ·simp [df] at a3
omit a6 in
theorem so{D:Nat}{a:Addr}{cs:List af}(h:Reads κ D w a cs){n:Nat}(dp:n≤cs.length){t:TypeId}(au:kW P t=some true)(az:ff P t=some n):∃x,(loadVar t a).run P w=.ok x w∧dF κ D (.agg (cs.take n)) x:=by obtain⟨xs,e,bO⟩:=sN (P:=P) h dp;refine⟨.agg xs.toArray,by simp [loadVar,ja au,eC az,e],.agg _ xs bO.1 bO.2⟩
omit a6 in
theorem sp{D:Nat}{a:Addr}{c:af}{cs:List af}(h:Reads κ D w a (c::cs)){t:TypeId}(au:kW P t=some false):∃x,(loadVar t a).run P w=.ok x w∧dF κ D c x:=by obtain⟨dw,e,bO⟩:=h;have oG:=e 0 (by simp);simp only[Addr.add,↓reduceIte] at oG;exact⟨dw 0,by simp [loadVar,ja au,oG],bO 0 c rfl⟩
def j0(P:Program)(t:TypeId):Option Nat→Bool
 |none=>kW P t==some false
 |some n=>kW P t==some true&&ff P t==some n
omit a6 in
theorem sq{D:Nat}{a:Addr}{cs:List af}(h:Reads κ D w a cs){n:Option Nat}{t:TypeId}(dp:j0 P t n=true){E:Env}(bq:E.F=.not){k:af→ag→ah}{r:ah}(aT:eV E s k n cs=r)(bB:r≠.fail):
  ∃v x,k v s=r∧(loadVar t a).run P w=.ok x w∧dF κ D v x:=by
 cases n with
 |none=>
  cases cs with
  |nil=>simp [eV] at aT;exact absurd aT.symm bB
  |cons c cs=>simp only[eV,bq,aW.not] at aT;obtain⟨x,a8,bO⟩:=sp (P:=P) h (by simpa [j0] using dp);exact⟨c,x,aT,a8,bO⟩
 |some n=>
  simp only[j0,bn,beq_iff_eq] at dp;simp only[eV,bq,aW.not] at aT;by_cases bK:n≤cs.length
  ·rw[eQ bK,b2] at aT;obtain⟨x,a8,bO⟩:=so (P:=P) h bK dp.1 dp.2;exact⟨_,x,aT,a8,bO⟩
  ·have:Nat.ble n cs.length=false:=by
    cases e:Nat.ble n cs.length with
    |false=>rfl
    |true=>exact absurd (d0 e) bK
   rw[this,cond_false] at aT;exact absurd aT.symm bB
omit a6 in
theorem iF.ap{D sz n cap:Nat}{g:fi}{a:Addr}(h:iF κ D sz g n a cap)(d:Nat):g.ap d=g:=by
 cases g with
 |dB a=>cases a with
  |l i=>simp [iF] at h
  |g d i=>rfl
 |_=>rfl
omit a6 in
theorem tQ{D:Nat}{v:af}{x:Value}(h:dF κ D v x)(d:Nat):v.ap d=v:=by
 cases h<;> try rfl
 simp only[af.ap];rw[iF.ap (by assumption)]
theorem zV{E:Env}(bq:E.F=.not){k:af→ag→ah}{r:ah}(bB:r≠.fail){n:Option Nat}{t:TypeId}{x:Operand}{v:af}(dp:j0 P t n=true)(a8:dF κ (s.aa+1) (v.ap s.aa) (ρ x))
  (aT:d8 E s k n v=r):∃fG,k fG s=r∧dQ P (.load t x) ty ρ κ s w fG s:=by
 cases v<;> simp only[af.ap] at a8<;> simp only[d8] at aT<;> try exact absurd aT.symm bB
 case bI cs=>obtain⟨a,e,_,h⟩:=zU a6 a8;obtain⟨fG,y,au,az,b3⟩:=sq h dp bq aT bB;exact⟨fG,au,bF a6 y (fun _ _ _ _=>by simp [execOp,Instr.loadAt,e,Instr.sureAddr,az]) (by rw[tQ b3];exact b3)⟩
 case ref a off=>
  rw[←ag.hT] at aT;cases q:a.ap s.aa with
  |l i=>cases a<;> simp [Loc.ap] at q
  |g d i=>
   rw[q] at aT a8;obtain⟨e,cS,_⟩:=a8.mz;cases cC:s.get (.g d i) with
   |none=>rw[cC] at aT;exact absurd aT.symm bB
   |some o=>
    rw[cC] at aT;cases o<;> try exact absurd aT.symm bB
    rename_i cs;have h:=sn (n2 a6 cC off) (show d+1≤s.aa+1 by omega);obtain⟨fG,y,au,az,b3⟩:=sq h dp bq aT bB;exact⟨fG,au,bF a6 y (fun _ _ _ _=>by simp [execOp,Instr.loadAt,e,Instr.sureAddr,az]) (by rw[tQ b3];exact b3)⟩
end
theorem jb{v:af}{n:Nat}(h:e2 v=some n):∃k,v=.int k n:=by cases v<;> simp [e2] at h;rename_i k m;exact⟨k,by rw[←h.2,Int.toNat_of_nonneg h.1]⟩
theorem C5{n m:Nat}{r:ah}{x:ah}(h:(bif Nat.ble n m then x else .fail)=r)(bB:r≠.fail):n≤m∧x=r:=by
 cases e:Nat.ble n m with
 |true=>rw[e] at h;exact⟨d0 e,h⟩
 |false=>rw[e] at h;exact absurd h.symm bB
theorem cY{b:Bool}{r:ah}{x:ah}(h:(bif b then x else .fail)=r)(bB:r≠.fail):b=true∧x=r:=by
 cases b with
 |true=>exact⟨rfl,h⟩
 |false=>exact absurd h.symm bB
section
variable{P:Program}{ty:TypeId}{ρ:Operand→Value}{κ:bi}{s:ag}{w:World}(a6:c3 κ s w)
include a6
theorem sr{E:Env}(bq:E.F=.not){k:af→ag→ah}{r:ah}(bB:r≠.fail){t:TypeId}{x:Operand}{v:af}{i off:Nat}{jH:Array Field}{f:Field}(eh:P.underlying t=some (.struct jH))(q:jH[i]? =some f)(u:f.offset=off)
  {n:Nat}(hC:ff P f.type=some n)(dp:n≠0)(a8:dF κ (s.aa+1) (v.ap s.aa) (ρ x))(aT:gO E s k off v=r):∃fG,k fG s=r∧dQ P (.fieldAddr t x i) ty ρ κ s w fG s:=by
 have run:∀(a:Addr),ρ x=.pointer (some a)→∀dst pos after guard,(execOp ρ ⟨dst,.fieldAddr t x i,ty,pos,after,guard⟩).run P w=.ok (.value (.pointer (some (a.add off)))) w:=by intro a h dst pos after guard;simp [execOp,Instr.fieldAt,run_underlying eh,q,h,Instr.sureAddr,fieldPlace,eC hC,dp,u]
 cases v<;> simp only[af.ap] at a8<;> simp only[gO,bq,aW.not] at aT<;> try exact absurd aT.symm bB
 case bI cs=>obtain⟨a,dw,e,au,az,b3⟩:=a8.sm;refine⟨_,aT,bF a6 _ (run a e) ?_⟩;refine .bI _ _ (fun j=>dw (off+j)) (mu au _) (fun j df=>?_) (fun j c a3=>b3 _ c (by simpa using a3));rw[add_add];exact az _ (by simp at df;omega)
 case ref a o=>
  refine⟨_,aT,?_⟩;cases h:a.ap s.aa with
  |l i=>cases a<;> simp [Loc.ap] at h
  |g d j=>rw[h] at a8;obtain⟨e,cS,df⟩:=a8.mz;refine bF a6 _ (run _ e) ?_;simp only[af.ap,h,fZ (show(⟨κ.loc d j,o,none⟩:Addr).spot=none from rfl)];exact .ref d j _ cS df
omit a6 in
theorem xv{cs:List af}{xs:List Value}{D off:Nat}(h:er κ D cs xs){t:TypeId}{n:Option Nat}(dp:j0 P t n=true){E:Env}(bq:E.F=.not){k:af→ag→ah}{r:ah}(aT:eV E s k n (cs.drop off)=r)(bB:r≠.fail):
  ∃v x,k v s=r∧(part t xs.toArray off).run P w=.ok x w∧dF κ D v x:=by
 have cS:=h.drop off;cases n with
 |none=>
  cases a3:cs.drop off with
  |nil=>rw[a3] at aT;simp [eV] at aT;exact absurd aT.symm bB
  |cons c q=>
   rw[a3] at aT;simp only[eV,bq,aW.not] at aT;rw[a3] at cS;obtain⟨x,u,f0,bO,_⟩:=cS.tO;refine⟨c,x,aT,?_,bO⟩;have e:xs[off]? =some x:=by have:=congrArg (fun l:List Value=>l[0]?) f0;simpa using this
   simp [part,ja (show kW P t=some false by simpa [j0] using dp),e]
 |some n=>
  simp only[j0,bn,beq_iff_eq] at dp;simp only[eV,bq,aW.not] at aT;obtain⟨bK,dl⟩:=C5 aT bB;refine⟨_,.agg ((xs.drop off).take n).toArray,dl,?_,.agg _ _ (cS.take n).1 (cS.take n).2⟩
  have:xs.toArray.extract off (off+n)=((xs.drop off).take n).toArray:=by rw[List.extract_toArray];congr 1;simp [List.extract_eq_take_drop]
  simp [part,ja dp.1,eC dp.2,this]
theorem yh{E:Env}(bq:E.F=.not){k:af→ag→ah}{r:ah}(bB:r≠.fail){t:TypeId}{x:Operand}{v:af}{i off:Nat}{n:Option Nat}{jH:Array Field}{f:Field}(eh:P.underlying t=some (.struct jH))(q:jH[i]? =some f)(u:f.offset=off)
  (dp:j0 P f.type n=true)(a8:dF κ (s.aa+1) (v.ap s.aa) (ρ x))(aT:lP E s k off n v=r):∃fG,k fG s=r∧dQ P (.field t x i) ty ρ κ s w fG s:=by
 cases v<;> simp only[af.ap] at a8<;> simp only[lP] at aT<;> try exact absurd aT.symm bB
 obtain⟨xs,e,h⟩:=a8.my;obtain⟨fG,y,au,az,b3⟩:=xv (w:=w) h dp bq aT bB;exact⟨fG,au,bF a6 y (fun _ _ _ _=>by simp [execOp,Instr.field,run_underlying eh,q,e,asAgg,u,az]) (by rw[tQ b3];exact b3)⟩
theorem wM{E:Env}(bq:E.F=.not){k:af→ag→ah}{r:ah}(bB:r≠.fail){t e:TypeId}{x y:Operand}{v i:af}{sz len:Nat}{n:Option Nat}(eh:P.underlying t=some (.array len e))(hC:ff P e=some sz)
  (dp:j0 P e n=true)(a8:dF κ (s.aa+1) (v.ap s.aa) (ρ x))(bX:dF κ (s.aa+1) (i.ap s.aa) (ρ y))(aT:kr E s k sz len n v i=r):∃fG,k fG s=r∧dQ P (.index t x y) ty ρ κ s w fG s:=by
 cases v<;> simp only[af.ap] at a8<;> simp only[kr] at aT<;> try exact absurd aT.symm bB
 rename_i cs;obtain⟨xs,ex,h⟩:=a8.my;cases q:e2 i with
 |none=>rw[q] at aT;exact absurd aT.symm bB
 |some m=>
  rw[q] at aT;obtain⟨eu,rfl⟩:=jb q;have u:=bX.eB;obtain⟨A,aT⟩:=cY aT bB;have hm:m<len:=by simpa [Nat.blt_eq] using A
  obtain⟨fG,z,au,az,b3⟩:=xv (w:=w) h dp bq aT bB;refine⟨fG,au,bF a6 z (fun _ _ _ _=>?_) (by rw[tQ b3];exact b3)⟩;simp [execOp,Instr.index,run_underlying eh,ex,u,asIntOf,hm,eC hC,az]
theorem wN{E:Env}(bq:E.F=.not){k:af→ag→ah}{r:ah}(bB:r≠.fail){t:TypeId}{x y:Operand}{v i:af}(eh:P.underlying t=some .string)
  (a8:dF κ (s.aa+1) (v.ap s.aa) (ρ x))(bX:dF κ (s.aa+1) (i.ap s.aa) (ρ y))(aT:h8 E s k v i=r):∃fG,k fG s=r∧dQ P (.index t x y) ty ρ κ s w fG s:=by
 cases v<;> simp only[af.ap] at a8<;> simp only[h8] at aT<;> try exact absurd aT.symm bB
 rename_i fc;obtain⟨a,ex,h⟩:=a8.ic;cases q:e2 i with
 |none=>rw[q] at aT;exact absurd aT.symm bB
 |some m=>
  rw[q] at aT;obtain⟨eu,rfl⟩:=jb q;have A:=bX.eB;cases e:fc[m]? with
  |none=>simp only[e] at aT;exact absurd aT.symm bB
  |some b=>
   simp only[e,bq,aW.not] at aT;refine⟨_,aT,bF a6 (.int .u8 b) (fun _ _ _ _=>?_) (.int _ _)⟩;rw[←h,hy] at e;cases a3:a.data.toList[m]? with
   |none=>simp [a3] at e
   |some c=>
    simp only[a3,ew,bj] at e;subst e;have u:=(ey.1 a3).1;have B:a[m]? =some c:=by
     have e4:m<a.size:=by rw[Array.length_toList] at u;exact u
     rw[getElem?_pos a m e4];have az:=(ey.1 a3).2;rw[ByteArray.getElem_eq_getElem_data];simpa using az
    have key:(Instr.index t (.string a) (.int eu m)).run P w=.ok (.int .u8 c.toNat) w:=by simp only[Instr.index,Sem.run_bind,asIntOf,Sem.run_pure,Result.andThen_ok,run_underlying eh,Int.natCast_nonneg,↓reduceIte,Int.toNat_natCast,B]
    simp only[execOp,ex,A,Sem.run_bind,key,Result.andThen_ok,Sem.run_pure]
omit a6 in
theorem hG{D:Nat}{v:af}{x:Value}(h:dF κ D v x):(∀sz es g,v=.bG sz es g→∃a c,x=.slice a es.length c)∧∀a off len cap sz,v=.cZ a off len cap sz→∃p c,x=.slice p len c:=by cases h<;> refine⟨fun sz es g e=>?_,fun a off len cap sz e=>?_⟩<;> cases e<;> exact⟨_,_,rfl⟩
theorem uG{E:Env}(bq:E.F=.not){k:af→ag→ah}{r:ah}(bB:r≠.fail){b:Bool}{t:TypeId}{d:TypeDesc}{x:Operand}{v:af}(eh:P.underlying t=some d)(cS:(b=true∧d=.string)∨(b=false∧∃e,d=.slice e))
  (a8:dF κ (s.aa+1) (v.ap s.aa) (ρ x))(aT:pL E s k b v=r):∃fG,k fG s=r∧dQ P (.call {callee:=.builtin .len,args:= #[x],argTypes:= #[t]}) ty ρ κ s w fG s:=by
 have q:=hG a8;cases v<;> simp only[af.ap] at a8 q<;> rcases cS with⟨rfl,rfl⟩|⟨rfl,e,rfl⟩<;> simp only[pL,bq,aW.not] at aT<;> try exact absurd aT.symm bB
 case str.inl fc=>
  obtain⟨a,ex,h⟩:=a8.ic;refine⟨_,aT,bF a6 (.int .i64 fc.length) (fun _ _ _ _=>?_) (.int _ _)⟩
  have:a.size=fc.length:=by have:=congrArg List.length h;rw[eG,Array.length_toList] at this;exact this
  simp [execOp,resolve,invoke,builtin,Builtin.len_,run_underlying eh,ex,goInt,this]
 case bG.inr sz es g=>refine⟨_,aT,bF a6 (.int .i64 es.length) (fun _ _ _ _=>?_) (.int _ _)⟩;obtain⟨a,c,ex⟩:=q.1 _ _ _ rfl;simp [execOp,resolve,invoke,builtin,Builtin.len_,run_underlying eh,ex,goInt]
 case cZ.inr a off len cap sz=>refine⟨_,aT,bF a6 (.int .i64 len) (fun _ _ _ _=>?_) (.int _ _)⟩;obtain⟨p,lS,ex⟩:=q.2 _ _ _ _ _ rfl;simp [execOp,resolve,invoke,builtin,Builtin.len_,run_underlying eh,ex,goInt]
end
theorem ny:∀(es:List af) (sz i:Nat) (e:af),(∀e,e∈es→e.cells.length=sz)→es[i]? =some e→∀j,j<sz→(es.flatMap af.cells)[i*sz+j]? =e.cells[j]?
 |[],_,_,_,_,h,_,_=>by simp at h
 |x::es,sz,i,e,bK,h,j,df=>by
  have a8:=bK x (by simp);simp only[List.flatMap_cons];cases i with
  |zero=>simp at h;subst h;rw[hn (by omega)];simp
  |succ i=>rw[j5 (by rw[a8,Nat.succ_mul];omega),a8,show(i+1)*sz+j-sz=i*sz+j by rw[Nat.succ_mul];omega];exact ny es sz i e (fun e he=>bK e (by simp [he])) (by simpa using h) j df
theorem e8:∀(es:List af) (sz:Nat),(∀e,e∈es→e.cells.length=sz)→(es.flatMap af.cells).length=es.length*sz
 |[],sz,_=>by simp
 |x::es,sz,bK=>by simp only[List.flatMap_cons,fJ,bP,bK x (by simp),e8 es sz (fun e he=>bK e (by simp [he])),Nat.succ_mul];omega
theorem dF.hG{κ:bi}{D sz:Nat}{es:List af}{g:fi}{x:Value}(h:dF κ D (.bG sz es g) x):(es=[]∧g=.nil∧x=.slice none 0 0)∨
  ∃(a:Addr) (cap:Nat) (dw:Nat→Value),x=.slice (some a) es.length cap∧iF κ D sz g es.length a cap∧es.length≤cap∧(es≠[]→a.spot=none)∧(∀e,e∈es→e.cells.length=sz)∧uo g es∧
   (∀j,j<(es.flatMap af.cells).length→κ.F (a.add j)=some (dw j))∧∀(j:Nat) (c:af),(es.flatMap af.cells)[j]? =some c→dF κ D c (dw j):=by
 cases h with
 |kS=>exact .inl ⟨rfl,rfl,rfl⟩
 |bG=>exact .inr ⟨_,_,_,rfl,by assumption,by assumption,by assumption,by assumption,by assumption,by assumption,by assumption⟩
section
variable{P:Program}{ty:TypeId}{ρ:Operand→Value}{κ:bi}{s:ag}{w:World}(a6:c3 κ s w)
include a6
theorem yi{E:Env}(bq:E.F=.not){k:af→ag→ah}{r:ah}(bB:r≠.fail){t e:TypeId}{x y:Operand}{v i:af}{sz:Nat}(eh:P.underlying t=some (.slice e))(hC:ff P e=some sz)
  (a8:dF κ (s.aa+1) (v.ap s.aa) (ρ x))(bX:dF κ (s.aa+1) (i.ap s.aa) (ρ y))(aT:kL E s k sz v i=r):∃fG,k fG s=r∧dQ P (.indexAddr t x y) ty ρ κ s w fG s:=by
 unfold kL at aT;cases A:e2 i with
 |none=>rw[A] at aT;exact absurd aT.symm bB
 |some m=>
  rw[A] at aT;obtain⟨eu,rfl⟩:=jb A;have B:=bX.eB;have run:∀(a:Addr) (len cap:Nat),ρ x=.slice (some a) len cap→m<len→∀dst pos after guard,(execOp ρ ⟨dst,.indexAddr t x y,ty,pos,after,guard⟩).run P w=.ok (.value (.pointer (some (a.add (m*sz))))) w:=by intro a len cap q hm dst pos after guard;simp [execOp,Instr.indexAt,run_underlying eh,q,B,asIntOf,hm,eC hC]
  cases v<;> simp only[af.ap] at a8<;> simp only[bq,aW.not] at aT<;> try exact absurd aT.symm bB
  case bG z es g=>
   obtain⟨u,h⟩:=cY aT bB;clear aT;obtain rfl:z=sz:=dk u;cases he:es[m]? with
   |none=>rw[he] at h;exact absurd h.symm bB
   |some el=>
    rw[he] at h;simp only at h;refine⟨_,h,?_⟩;have hm:=(ey.1 he).1;rcases a8.hG with⟨rfl,_,_⟩|⟨a,cap,dw,ex,au,az,b3,dJ,K,H,I⟩
    ·simp at he
    ·refine bF a6 _ (run a _ _ ex hm) ?_;have iQ:=dJ el (List.mem_of_getElem? he);have J:=e8 es z dJ;refine .bI _ _ (fun j=>dw (m*z+j)) (mu (b3 (fun oG=>by simp_all)) _) (fun j df=>?_) (fun j c a3=>?_)
     ·rw[add_add];refine H _ ?_;rw[J]
      have:(m+1)*z≤es.length*z:=fV _ hm;rw[Nat.succ_mul] at this;omega
     ·have df:j<z:=by rw[←iQ];exact(ey.1 a3).1
      exact I _ c (by rw[ny es z m el dJ he j df];exact a3)
  case cZ a off len cap z=>
   obtain⟨u,h⟩:=cY aT bB;clear aT;rw[bn] at u;obtain rfl:z=sz:=dk u.1;have hm:m<len:=by simpa [Nat.blt_eq] using u.2
   refine⟨_,h,?_⟩;cases q:a.ap s.aa with
   |l i=>cases a<;> simp [Loc.ap] at q
   |g d j=>rw[q] at a8;obtain⟨lS,hZ,cS,df,_⟩:=a8.jU;refine bF a6 _ (run _ _ _ hZ hm) ?_;simp only[af.ap,q,fZ (show(⟨κ.loc d j,off,none⟩:Addr).spot=none from rfl)];exact .ref d j _ cS df
theorem wO{E:Env}(bq:E.F=.not){k:af→ag→ah}{r:ah}(bB:r≠.fail){t e:TypeId}{x y:Operand}{v i:af}{sz len:Nat}(eh:P.underlying t=some (.array len e))(hC:ff P e=some sz)
  (a8:dF κ (s.aa+1) (v.ap s.aa) (ρ x))(bX:dF κ (s.aa+1) (i.ap s.aa) (ρ y))(aT:hR E s k sz len v i=r):∃fG,k fG s=r∧dQ P (.indexAddr t x y) ty ρ κ s w fG s:=by
 unfold hR at aT;cases u:e2 i with
 |none=>rw[u] at aT;exact absurd aT.symm bB
 |some m=>
  rw[u] at aT;obtain⟨eu,rfl⟩:=jb u;have A:=bX.eB;obtain⟨B,q⟩:=cY aT bB;clear aT;have hm:m<len:=by simpa [Nat.blt_eq] using B
  have run:∀(a:Addr),ρ x=.pointer (some a)→∀dst pos after guard,(execOp ρ ⟨dst,.indexAddr t x y,ty,pos,after,guard⟩).run P w=.ok (.value (.pointer (some (a.add (m*sz))))) w:=by intro a h dst pos after guard;simp [execOp,Instr.indexAt,run_underlying eh,h,A,asIntOf,hm,eC hC,Instr.sureAddr]
  cases v<;> simp only[af.ap] at a8<;> simp only[bq,aW.not] at q<;> try exact absurd q.symm bB
  case bI cs=>obtain⟨a,dw,hZ,au,az,b3⟩:=a8.sm;refine⟨_,q,bF a6 _ (run a hZ) ?_⟩;refine .bI _ _ (fun j=>dw (m*sz+j)) (mu au _) (fun j df=>?_) (fun j c a3=>b3 _ c (by simpa using a3));rw[add_add];exact az _ (by simp at df;omega)
  case ref a o=>
   refine⟨_,q,?_⟩;cases h:a.ap s.aa with
   |l i=>cases a<;> simp [Loc.ap] at h
   |g d j=>rw[h] at a8;obtain⟨hZ,cS,df⟩:=a8.mz;refine bF a6 _ (run _ hZ) ?_;simp only[af.ap,h,fZ (show(⟨κ.loc d j,o,none⟩:Addr).spot=none from rfl)];exact .ref d j _ cS df
omit a6 in
theorem ss{v:af}{m y:Nat}{x:Value}{D:Nat}(h:e2 v=some m)(a8:dF κ D v x)(hm:m≤y)(code:BoundsCode):(Instr.sliceBound x y code).run P w=.ok m w:=by obtain⟨eu,rfl⟩:=jb h;rw[a8.eB];simp [Instr.sliceBound,asIntOf,hm]
omit a6 in
theorem C6{v:af}{m:Nat}(h:e2 v=some m)(d:Nat):v.ap d=v:=by obtain⟨eu,rfl⟩:=jb h;rfl
omit a6 in
theorem zW{G:Nat→af}{ao:Nat→af}{a:Act}(bZ:wB κ s ao a)(dX:km κ G){o:Option bC}{p:Option Operand}(h:fy o p=true){q m:Nat}(e:dH G ao o q=some m):
  (o=none∧p=none∧m=q)∨∃x y v,o=some x∧p=some y∧e2 v=some m∧dF κ (s.aa+1) v (a.eval y):=by
 cases o with
 |none=>cases p with
  |none=>simp [dH] at e;exact .inl ⟨rfl,rfl,e.symm⟩
  |some y=>simp [fy] at h
 |some x=>cases p with
  |none=>simp [fy] at h
  |some y=>simp only[dH] at e;have bO:=bp bZ dX (show cH x y=true by simpa [fy] using h);rw[C6 e] at bO;exact .inr ⟨x,y,_,rfl,rfl,e,bO⟩
omit a6 in
theorem qg{G:Nat→af}{ao:Nat→af}{a:Act}(bZ:wB κ s ao a)(dX:km κ G){o:Option bC}{p:Option Operand}(h:fy o p=true){e m:Nat}(q:dH G ao o e=some m):
  (o=none∧p=none∧m=e)∨∃x y,o=some x∧p=some y∧∀(Y:Nat) (code:BoundsCode),m≤Y→(Instr.sliceBound (a.eval y) Y code).run P w=.ok m w:=by
 rcases zW bZ dX h q with au|⟨x,y,v,au,az,b3,dJ⟩
 ·exact .inl au
 ·exact .inr ⟨x,y,au,az,fun Y code hm=>ss b3 dJ hm code⟩
omit a6 in
theorem ht{G:Nat→af}{ao:Nat→af}{a:Act}(bZ:wB κ s ao a)(dX:km κ G){gn bX iJ:Option bC}{e q r:Option Operand}(u:fy gn e=true)(y:fy bX q=true)(A:fy iJ r=true)
  {l h m len cap:Nat}(ma:dH G ao gn 0=some l)(B:dH G ao bX len=some h)(F:dH G ao iJ cap=some m)(au:l≤h)(az:h≤m)(b3:m≤cap)(H:iJ.isSome=true→bX.isSome=true)(I:Bool):
  (Instr.sliceBounds I len cap (e.map a.eval) (q.map a.eval) (r.map a.eval)).run P w=.ok (l,h,m) w:=by
 have J:h≤cap:=by omega
 rcases qg (P:=P) (w:=w) bZ dX u ma with⟨rfl,rfl,rfl⟩|⟨K,L,rfl,rfl,M⟩ <;>
 rcases qg (P:=P) (w:=w) bZ dX y B with⟨rfl,rfl,rfl⟩|⟨N,O,rfl,rfl,U⟩ <;>
 rcases qg (P:=P) (w:=w) bZ dX A F with⟨rfl,rfl,rfl⟩|⟨V,Y,rfl,rfl,Z⟩ <;>
 first
  |(simp at H;done)
  |simp (discharger:=omega) [Instr.sliceBounds, *]
end
section
variable{P:Program}{ty:TypeId}{ρ:Operand→Value}{κ:bi}{s:ag}{w:World}(a6:c3 κ s w)
theorem nz(a:ByteArray)(l h:Nat):(a.extract l h).data.toList=(a.data.toList.drop l).take (h-l):=by simp [List.extract_eq_take_drop]
include a6
theorem wP{E:Env}(bq:E.F=.not){k:af→ag→ah}{r:ah}(bB:r≠.fail){ao:Nat→af}{a:Act}(bZ:wB κ s ao a)(dX:km κ E.aw){t:TypeId}{x:bC}{y:Operand}{gn bX:Option bC}{u A:Option Operand}(eh:P.underlying t=some .string)
  (H:cH x y=true)(I:fy gn u=true)(J:fy bX A=true)(aT:jN E ao s k (aq E.aw ao x) gn bX=r):∃fG,k fG s=r∧dQ P (.slice t y u A none) ty a.eval κ s w fG s:=by
 have a8:=bp bZ dX H;generalize bO:aq E.aw ao x=v at a8 aT;cases v<;> simp only[af.ap] at a8<;> simp only[jN] at aT<;> try exact absurd aT.symm bB
 rename_i fc;cases ma:dH E.aw ao gn 0 with
 |none=>simp only[ma] at aT;exact absurd aT.symm bB
 |some l=>
  cases e:dH E.aw ao bX fc.length with
  |none=>simp only[ma,e] at aT;exact absurd aT.symm bB
  |some h=>
   simp only[ma,e,bq,aW.not] at aT;obtain⟨q,K⟩:=cY aT bB;rw[bn] at q;have au:=d0 q.1;have az:=d0 q.2;obtain⟨c,ex,a3⟩:=a8.ic;have e4:c.size=fc.length:=by have:=congrArg List.length a3;rw[eG,Array.length_toList] at this;exact this
   refine⟨_,K,bF a6 (.string (c.extract l h)) (fun _ _ _ _=>?_) (.str _ _ ?_)⟩
   ·have B:=ht (P:=P) (w:=w) bZ dX I J (show fy none none=true from rfl) (len:=c.size) (cap:=c.size) ma (by rw[e4];exact e) (m:=c.size) rfl au (by omega) (aC _) (by simp) false;simp only[Option.map_none] at B;simp [execOp,Instr.sliceAt,Instr.slice,run_underlying eh,ex,B]
   ·rw[nz,List.map_take,List.map_drop,a3]
theorem wQ{E:Env}(bq:E.F=.not){k:af→ag→ah}{r:ah}(bB:r≠.fail){ao:Nat→af}{a:Act}(bZ:wB κ s ao a)(dX:km κ E.aw){t e:TypeId}{sz n:Nat}{x:bC}{y:Operand}{gn bX iJ:Option bC}{u B H:Option Operand}(eh:P.underlying t=some (.array n e))(hC:ff P e=some sz)
  (L:cH x y=true)(M:fy gn u=true)(N:fy bX B=true)(O:fy iJ H=true)(U:iJ.isSome=true→bX.isSome=true)(aT:iD E ao s k sz n (aq E.aw ao x) gn bX iJ=r):∃fG,k fG s=r∧dQ P (.slice t y u B H) ty a.eval κ s w fG s:=by
 have a8:=bp bZ dX L;generalize bO:aq E.aw ao x=v at a8 aT;have run:∀(A:Addr) (l h m:Nat),a.eval y=.pointer (some A)→(Instr.sliceBounds false n n (u.map a.eval) (B.map a.eval) (H.map a.eval)).run P w=.ok (l,h,m) w→∀dst pos after guard,(execOp a.eval ⟨dst,.slice t y u B H,ty,pos,after,guard⟩).run P w=.ok (.value (.slice (some (if m=l then A else A.add (l*sz))) (h-l) (m-l))) w:=by intro A l h m ex q dst pos after guard;simp [execOp,Instr.sliceAt,run_underlying eh,ex,q,eC hC,Instr.sureAddr]
 cases v<;> simp only[af.ap] at a8<;> simp only[iD] at aT<;> try exact absurd aT.symm bB
 rename_i b off;cases ma:dH E.aw ao gn 0 with
 |none=>simp only[ma] at aT;exact absurd aT.symm bB
 |some l=>
  cases I:dH E.aw ao bX n with
  |none=>simp only[ma,I] at aT;exact absurd aT.symm bB
  |some h=>
   cases J:dH E.aw ao iJ n with
   |none=>simp only[ma,I,J] at aT;exact absurd aT.symm bB
   |some m=>
    simp only[ma,I,J,bq,aW.not] at aT;obtain⟨q,V⟩:=cY aT bB;simp only[bn] at q;have au:=d0 q.1.1;have az:=d0 q.1.2;have b3:=d0 q.2;refine⟨_,V,?_⟩;cases K:b.ap s.aa with
    |l i=>cases b<;> simp [Loc.ap] at K
    |g d j=>
     rw[K] at a8;obtain⟨ex,cS,df⟩:=a8.mz;have Y:=ht (P:=P) (w:=w) bZ dX M N O (len:=n) (cap:=n) ma I J au az b3 U false;refine bF a6 _ (run _ _ _ _ ex Y) ?_;simp only[af.ap,K]
     have:(if m=l then(⟨κ.loc d j,off,none⟩:Addr) else(⟨κ.loc d j,off,none⟩:Addr).add (l*sz))=⟨κ.loc d j,if m=l then off else off+l*sz,none⟩:=by
      split
      ·rfl
      ·simp [fZ]
     rw[this];exact .cZ d j _ _ _ _ sz cS df (by omega) (.inl rfl)
omit a6 in
theorem uo.left{g:fi}{es:List af}(h:uo g es)(cC:∀d j,g≠.dB (.g d j)):∀e,e∈es→e.bd=true:=by
 rcases h with h|⟨d,j,e,_⟩
 ·exact h
 ·exact absurd e (cC d j)
omit a6 in
theorem uo.part{g':fi}{es:List af}(h:∀e,e∈es→e.bd=true)(l n:Nat):uo g' ((es.drop l).take n):=.inl fun e he=>h e (List.mem_of_mem_drop (List.mem_of_mem_take he))
theorem yj{E:Env}(bq:E.F=.not){k:af→ag→ah}{r:ah}(bB:r≠.fail){ao:Nat→af}{a:Act}(bZ:wB κ s ao a)(dX:km κ E.aw){t e:TypeId}{sz:Nat}{x:bC}{y:Operand}{gn bX iJ:Option bC}{ab ac M:Option Operand}(eh:P.underlying t=some (.slice e))(hC:ff P e=some sz)
  (ar:cH x y=true)(ad:fy gn ab=true)(ae:fy bX ac=true)(N:fy iJ M=true)(al:iJ.isSome=true→bX.isSome=true)(aT:jZ E ao s k sz (aq E.aw ao x) gn bX iJ=r):∃fG,k fG s=r∧dQ P (.slice t y ab ac M) ty a.eval κ s w fG s:=by
 have a8:=bp bZ dX ar;generalize bO:aq E.aw ao x=v at a8 aT;have run:∀(A:Option Addr) (len cap l h m:Nat),a.eval y=.slice A len cap→(Instr.sliceBounds true len cap (ab.map a.eval) (ac.map a.eval) (M.map a.eval)).run P w=.ok (l,h,m) w→∀dst pos after guard,(execOp a.eval ⟨dst,.slice t y ab ac M,ty,pos,after,guard⟩).run P w=.ok (.value (.slice (if m=l then A else A.map (·.add (l*sz))) (h-l) (m-l))) w:=by intro A len cap l h m ex u dst pos after guard;simp [execOp,Instr.sliceAt,Instr.slice,run_underlying eh,ex,u,eC hC]
 cases v<;> simp only[af.ap] at a8<;> simp only[jZ] at aT<;> try exact absurd aT.symm bB
 case bG z es g=>
  cases ma:dH E.aw ao gn 0 with
  |none=>simp only[ma] at aT;exact absurd aT.symm bB
  |some l=>
   cases B:dH E.aw ao bX es.length with
   |none=>simp only[ma,B] at aT;exact absurd aT.symm bB
   |some h=>
    simp only[ma,B,bq,aW.not] at aT;have part:∀(A:Addr) (cap:Nat) (dw:Nat→Value) (g':fi),(es≠[]→A.spot=none)→(∀e,e∈es→e.cells.length=sz)→uo (g'.ap s.aa) ((es.drop l).take (h-l))→
      (∀j,j<(es.flatMap af.cells).length→κ.F (A.add j)=some (dw j))→(∀(j:Nat) (c:af),(es.flatMap af.cells)[j]? =some c→dF κ (s.aa+1) c (dw j))→l≤h→h≤es.length→∀m,h≤m→
      iF κ (s.aa+1) sz (g'.ap s.aa) (h-l) (if m=l then A else A.add (l*sz)) (m-l)→g'.ap s.aa≠.nil→
      dF κ (s.aa+1) ((af.bG sz ((es.drop l).take (h-l)) g').ap s.aa) (.slice (some (if m=l then A else A.add (l*sz))) (h-l) (m-l)):=by
     intro A cap dw g' O dJ H U V aH as m aI cC I;have hlen:((es.drop l).take (h-l)).length=h-l:=by simp;omega
     simp only[af.ap];have kf:∀e,e∈(es.drop l).take (h-l)→e∈es:=fun e he=>List.mem_of_mem_drop (List.mem_of_mem_take he)
     have av:=e8 es sz dJ;have am:=e8 _ sz (fun e he=>dJ e (kf e he));have ax:∀j,j<(h-l)*sz→((((es.drop l).take (h-l))).flatMap af.cells)[j]? =(es.flatMap af.cells)[l*sz+j]?:=by
      intro j df;have ay:0<sz:=Nat.pos_of_ne_zero (fun eZ=>by rw[eZ] at df;simp at df);have gh:j/sz<h-l:=Nat.div_lt_of_lt_mul (by rw[ez];exact df);have io:j%sz<sz:=Nat.mod_lt _ ay;have uv:j=j/sz*sz+j%sz:=by rw[ez];exact(Nat.div_add_mod j sz).symm
      have hle:l+j/sz<es.length:=by omega
      have dU:((es.drop l).take (h-l))[j/sz]? =some es[l+j/sz]:=by rw[List.getElem?_take,if_pos gh,List.getElem?_drop,eP hle]
      have aA:es[l+j/sz]? =some es[l+j/sz]:=eP hle;have f1:=ny _ sz _ _ (fun e he=>dJ e (kf e he)) dU (j%sz) io;have f2:=ny es sz _ _ dJ aA (j%sz) io;rw[←uv] at f1;rw[f1,←f2];congr 1;rw[e9];omega
     by_cases an:m=l
     ·have eZ:h-l=0:=by omega
      rw[if_pos an] at cC ⊢;have aB:(es.drop l).take (h-l)=[]:=by rw[eZ];simp
      rw[aB];rw[eZ] at cC ⊢;exact .bG sz [] _ A _ dw cC (Nat.zero_le _) (fun h=>absurd rfl h) (fun e he=>by simp at he) (.inl fun e he=>by simp at he) (fun j df=>by simp at df) (fun j c a3=>by simp at a3)
     ·rw[if_neg an] at cC ⊢;have key:dF κ (s.aa+1) (af.bG sz ((es.drop l).take (h-l)) (g'.ap s.aa)) (.slice (some (A.add (l*sz))) ((es.drop l).take (h-l)).length (m-l)):=by
       refine .bG sz _ _ _ _ (fun j=>dw (l*sz+j)) (by rw[hlen];exact cC) (by rw[hlen];omega) (fun fe=>mu (O (fun oG=>fe (by simp [oG]))) _) (fun e he=>dJ e (kf e he)) H (fun j df=>?_) (fun j c a3=>?_)
       ·rw[add_add];refine U _ ?_;rw[am,hlen] at df;rw[av]
        have:h*sz≤es.length*sz:=fV _ as;have aJ:l*sz+(h-l)*sz=h*sz:=by rw[←e9];congr 1;omega
        omega
       ·have df:=(ey.1 a3).1;rw[am,hlen] at df;rw[ax j df] at a3;exact V _ c a3
      rw[hlen] at key;exact key
    cases iJ with
    |none=>
     cases M with
     |some y=>simp [fy] at N
     |none=>
     simp only at aT;obtain⟨u,Y⟩:=cY aT bB;rw[bn,bn,bn] at u;have Z:z=sz:=(dk u.1.1.1).symm;subst Z;have au:=d0 u.1.1.2;have az:=d0 u.1.2;have ai:=u.2;refine⟨_,Y,?_⟩;rcases a8.hG with⟨rfl,cC,ex⟩|⟨A,cap,dw,ex,cC,dp,O,dJ,H,U,V⟩
     ·have I:g=.nil:=by cases g<;> simp_all [fi.ap]
      subst I;simp only[cy,Nat.le_zero_eq] at az;subst az;simp only[Nat.le_zero_eq] at au;subst au;have K:=ht (P:=P) (w:=w) bZ dX ad ae N (len:=0) (cap:=0) ma B (m:=0) rfl (aC _) (aC _) (aC _) (by simp) true;exact bF a6 _ (run _ _ _ _ _ _ ex K) (by simp;exact .kS z)
     ·have K:=ht (P:=P) (w:=w) bZ dX ad ae N (len:=es.length) (cap:=cap) ma B (m:=cap) rfl au (by omega) (aC _) (by simp) true;refine bF a6 _ (run _ _ _ _ _ _ ex K) ?_;have fC:=fun g' aD aj I=>part A cap dw g' O dJ aD U V au az cap (by omega) aj I
      have dU:(if cap=l then some A else Option.map (fun x=>x.add (l*z)) (some A))=some (if cap=l then A else A.add (l*z)):=by split<;> rfl
      rw[dU];cases g with
      |nil=>simp [fi.ap,iF] at cC
      |any=>exact fC .any (.part (H.left (by simp [fi.ap])) l (h-l)) trivial (by simp [fi.ap])
      |exact=>
       simp only[fi.ap,iF] at cC;subst cC;by_cases J:h=es.length
       ·subst J;simp only[↓reduceIte];exact fC .exact (.part (H.left (by simp [fi.ap])) l _) rfl (by simp [fi.ap])
       ·simp only[J,↓reduceIte];exact fC .any (.part (H.left (by simp [fi.ap])) l (h-l)) trivial (by simp [fi.ap])
      |dB b=>
       by_cases J:l=0∧h=es.length
       ·obtain⟨rfl,rfl⟩:=J;simp only[true_and,↓reduceIte];refine fC (.dB b) (by simpa using H) ?_ (by simp [fi.ap]);simp only[Nat.sub_zero,Nat.zero_mul,Addr.add,↓reduceIte];simpa using cC
       ·have qh:∀e,e∈es→e.bd=true:=by
         simp only[pu,Bool.or_eq_true,bn] at ai;rcases ai with⟨aE,aF⟩|q
         ·exact absurd ⟨dk aE,dk aF⟩ J
         ·exact ej.1 q
        simp only[J,↓reduceIte];exact fC .any (.part qh l (h-l)) trivial (by simp [fi.ap])
    |some aG=>
     cases M with
     |none=>simp [fy] at N
     |some aK=>
     cases L:e2 (aq E.aw ao aG) with
     |none=>simp only[L] at aT;cases g<;> simp only at aT<;> exact absurd aT.symm bB
     |some m=>
      simp only[L] at aT;have I:g≠.nil:=by rintro rfl;exact absurd aT.symm bB
      have io:(bif Nat.beq sz z&&Nat.ble l h&&Nat.ble h m&&Nat.ble m es.length&&uk g es then k (.bG z ((es.drop l).take (h-l)) (if h=m then .exact else .any)) s else .fail)=r:=by cases g<;> first|exact absurd rfl I|exact aT
      obtain⟨u,Y⟩:=cY io bB;simp only[bn] at u;have Z:z=sz:=(dk u.1.1.1.1).symm;subst Z;have au:=d0 u.1.1.1.2;have az:=d0 u.1.1.2;have b3:=d0 u.1.2;have ai:=u.2;refine⟨_,Y,?_⟩;rcases a8.hG with⟨rfl,cC,ex⟩|⟨A,cap,dw,ex,cC,dp,O,dJ,H,U,V⟩
      ·exact absurd (by cases g<;> simp_all [fi.ap]) I
      ·have K:=ht (P:=P) (w:=w) bZ dX ad ae N (len:=es.length) (cap:=cap) ma B (m:=m) L au az (by omega) al true;refine bF a6 _ (run _ _ _ _ _ _ ex K) ?_;have qh:∀e,e∈es→e.bd=true:=by
        cases g with
        |dB b=>exact ej.1 ai
        |nil=>exact H.left (by simp [fi.ap])
        |exact=>exact H.left (by simp [fi.ap])
        |any=>exact H.left (by simp [fi.ap])
       have fC:=fun g' aj I=>part A cap dw g' O dJ (.part qh l (h-l)) U V au (by omega) m az aj I
       have dU:(if m=l then some A else Option.map (fun x=>x.add (l*z)) (some A))=some (if m=l then A else A.add (l*z)):=by split<;> rfl
       rw[dU];by_cases J:h=m
       ·subst J;simp only[↓reduceIte];exact fC .exact rfl (by simp [fi.ap])
       ·simp only[J,↓reduceIte];exact fC .any trivial (by simp [fi.ap])
 case cZ b off len cap z=>
  cases ma:dH E.aw ao gn 0 with
  |none=>simp only[ma] at aT;exact absurd aT.symm bB
  |some l=>
   cases B:dH E.aw ao bX len with
   |none=>simp only[ma,B] at aT;exact absurd aT.symm bB
   |some h=>
    cases L:dH E.aw ao iJ cap with
    |none=>simp only[ma,B,L] at aT;exact absurd aT.symm bB
    |some m=>
     simp only[ma,B,L,bq,aW.not] at aT;obtain⟨u,Y⟩:=cY aT bB;simp only[bn] at u;have Z:z=sz:=(dk u.1.1.1.1).symm;subst Z;have au:=d0 u.1.1.1.2;have az:=d0 u.1.1.2;have b3:=d0 u.1.2;have tC:=d0 u.2;refine⟨_,Y,?_⟩;cases ak:b.ap s.aa with
     |l i=>cases b<;> simp [Loc.ap] at ak
     |g d j=>
      rw[ak] at a8;obtain⟨ex,cS,df⟩:=a8.IL tC;have K:=ht (P:=P) (w:=w) bZ dX ad ae N (len:=len) (cap:=cap) ma B L au az b3 al true;refine bF a6 _ (run _ _ _ _ _ _ ex K) ?_;simp only[af.ap,ak]
      have:(if m=l then some (⟨κ.loc d j,off,none⟩:Addr) else Option.map (fun(x:Addr)=>x.add (l*z)) (some ⟨κ.loc d j,off,none⟩))=some ⟨κ.loc d j,if m=l then off else off+l*z,none⟩:=by
       split
       ·rfl
       ·simp [fZ]
      rw[this];exact .cZ d j _ _ _ _ z cS df (by omega) (.inl rfl)
end
theorem yk(l:List Value):∀(n:Nat) (cs:Array Value) (off:Nat),(l.zipIdx n).foldl (fun cs (p:Value×Nat)=>cs.setIfInBounds (off+p.2) p.1) cs=(dS cs.toList (off+n) l).toArray:=by
 induction l with
 |nil=>intro n cs off;simp [dS]
 |cons v l e=>intro n cs off;simp only[List.zipIdx_cons,List.foldl_cons,dS];rw[e (n+1)];congr 1;simp [Array.toList_setIfInBounds,Nat.add_assoc]
theorem pO(C:Array Value)(cs:Array Value)(off:Nat):C.zipIdx.foldl (fun cs (p:Value×Nat)=>cs.setIfInBounds (off+p.2) p.1) cs=(dS cs.toList off C.toList).toArray:=by rw[←Array.foldl_toList,Array.toList_zipIdx,yk];simp
section
variable{P:Program}{ty:TypeId}{ρ:Operand→Value}{κ:bi}{s:ag}{w:World}(a6:c3 κ s w)
def ku(place:Nat→Option (Nat×Nat)):List (Nat×Nat×bC)→List (Nat×Operand)→Bool
 |[],[]=>true
 |(off,sz,x)::ec,(i,y)::e=>(place i==some (off,sz))&&cH x y&&ku place ec e
 |_,_=>false
theorem uH{G:Nat→af}{ao:Nat→af}{a:Act}(bZ:wB κ s ao a)(dX:km κ G)(place:Nat→Option (Nat×Nat)):∀(ec:List (Nat×Nat×bC)) (u:List (Nat×Operand)) (cs r:List af) (xs:List Value),
  ku place ec u=true→er κ (s.aa+1) cs xs→fk G s.aa ao cs ec=some r→∃A,Instr.fill place xs.toArray (u.map fun p=>(p.1,a.eval p.2))=some A.toArray∧er κ (s.aa+1) r A
 |[],[],cs,r,xs,_,h,bB=>by simp only[fk,bj] at bB;exact⟨xs,rfl,bB ▸ h⟩
 |[],_::_,_,_,_,h,_,_=>by simp [ku] at h
 |_::_,[],_,_,_,h,_,_=>by simp [ku] at h
 |(off,sz,x)::ec,(i,y)::u,cs,r,xs,dg,h,bB=>by
  simp only[ku,bn,beq_iff_eq] at dg;simp only[fk] at bB;have a8:=bp bZ dX dg.1.2;generalize (aq G ao x).ap s.aa=v at a8 bB;cases q:(v.fh&&Nat.beq v.cells.length sz&&Nat.ble (off+sz) cs.length) with
  |false=>rw[q] at bB;simp at bB
  |true=>
   rw[q,b2] at bB;simp only[bn] at q;have bO:=a8.cells q.1.1;have au:=dk q.1.2;have az:=d0 q.2;have b3:=h.dS bO (o:=off) (by omega);obtain⟨A,e,B⟩:=uH bZ dX place ec u _ r _ dg.2 b3 bB;refine⟨A,?_,B⟩;have e4:(a.eval y).cells.size=sz:=by rw[←Array.length_toList,bO.1,au]
   have hle:¬(off+(a.eval y).cells.size>xs.toArray.size):=by simp only[List.size_toArray,h.1,e4];omega
   have F:decide (off+(a.eval y).cells.size>xs.toArray.size)=false:=cL hle;have H:=pO (a.eval y).cells xs.toArray off;simp only[fK,Instr.fill,dg.1.1,e4,ne_eq,not_true_eq_false,dy,Bool.false_or];rw[←e4,F];simp only[bW,↓reduceIte];rw[H];exact e
def j1(P:Program)(t:TypeId)(z:List af):Bool:=
 match (P.info? t).bind (·.zero) with
 |some v=>mT z v.cells.toList
 |none=>false
theorem kX{t:TypeId}{z:List af}(h:j1 P t z=true)(w:World):∃v,(zeroValue t).run P w=.ok v w∧(∀κ D,er κ D z v.cells.toList)∧af.aY z=true∧∃i,P.info? t=some i∧i.zero=some v:=by
 unfold j1 at h;cases bX:P.info? t with
 |none=>simp [bX] at h
 |some i=>
  cases hC:i.zero with
  |none=>simp [bX,hC] at h
  |some v=>simp only[bX,f6,hC] at h;obtain⟨au,az⟩:=nh _ _ h;exact⟨v,by simp [zeroValue,typeInfo,bX,hC],au,az,i,rfl,hC⟩
include a6
theorem uI{v:Value}{t:TypeId}{o:Op}{cs:List af}(a3:er κ (s.aa+1) cs v.cells.toList)(h:∀dst pos after guard,(execOp ρ ⟨dst,o,ty,pos,after,guard⟩).run P w=.ok (.value (.pointer (some ⟨w.heap.size,0,none⟩))) (w.alloc (.cells v.cells t))):
  dQ P o ty ρ κ s w (.ref (.l s.own.length) 0) (s.new (.cells cs)):=by
 obtain⟨κ',au,az,b3,dJ⟩:=a6.oP cs v.cells t a3 (w':=w.alloc (.cells v.cells t)) rfl rfl rfl rfl;refine⟨_,κ',_,.inl h,az,au,?_⟩;simp only[af.ap,Loc.ap];rw[←b3];exact .ref _ _ _ (Nat.lt_succ_self _) dJ
theorem yl{t:TypeId}{z:List af}(hC:j1 P t z=true):dQ P (.alloc t) ty ρ κ s w (.ref (.l s.own.length) 0) (s.new (.cells z)):=by obtain⟨v,e,au,_,_⟩:=kX hC w;exact uI a6 (v:=v) (t:=t) (au _ _) (fun _ _ _ _=>by simp [execOp,Instr.alloc,e,newVar,newRow])
theorem wR{t:TypeId}{x:Operand}{v:af}(a8:dF κ (s.aa+1) (v.ap s.aa) (ρ x))(bO:v.fh=true):dQ P (.box t x) ty ρ κ s w (.ref (.l s.own.length) 0) (s.new (.cells (v.ap s.aa).cells)):=
 uI a6 (v:=ρ x) (t:=t) (a8.cells (by rw[uA];exact bO)) (fun _ _ _ _=>by simp [execOp,Instr.box,newVar,newRow])
theorem pP{C:Array Value}{t:TypeId}{o:Op}{cs:List af}(a3:er κ (s.aa+1) cs C.toList)(x:Addr→Value)(v:af)(e:∀κ',gS κ κ' (s.aa+1)→(∀j,j<cs.length→κ'.F ⟨w.heap.size,j,none⟩=C[j]?)→dF κ' (s.aa+1) (v.ap s.aa) (x ⟨w.heap.size,0,none⟩))
  (h:∀dst pos after guard,(execOp ρ ⟨dst,o,ty,pos,after,guard⟩).run P w=.ok (.value (x ⟨w.heap.size,0,none⟩)) (w.alloc (.cells C t))):dQ P o ty ρ κ s w v s:=by
 obtain⟨au,az⟩:=a6.qM (w':=w.alloc (.cells C t)) C t (0,0) rfl rfl rfl rfl;have bK:C.size=cs.length:=by simpa using a3.1
 refine⟨_,_,_,.inl h,az,au,e _ az.k (fun j df=>?_)⟩;rw[n0 (Nat.zero_le _) (by omega),Array.getElem?_eq_getElem (by omega)]
theorem ym{t:TypeId}{x:Operand}{v:af}(a8:dF κ (s.aa+1) (v.ap s.aa) (ρ x))(bO:v.fh=true):dQ P (.box t x) ty ρ κ s w (.bI (v.ap s.aa).cells) s:=by
 have a3:=a8.cells (by rw[uA];exact bO);refine pP a6 (t:=t) a3 (fun a=>.pointer (some a)) _ (fun κ' dl h9=>?_) (fun _ _ _ _=>by simp [execOp,Instr.box,newVar,newRow]);refine .bI _ _ (fun j=>(ρ x).cells.getD j undef) rfl (fun j df=>?_) (fun j c df=>?_)
 ·rw[fZ rfl];simp only[bg];rw[h9 j df]
  have:j<(ρ x).cells.size:=by have:=a3.1;simp at this;omega
  simp [Array.getD,this]
 ·obtain⟨y,eT,e⟩:=a3.get df
  have:(ρ x).cells.getD j undef=y:=by
   have h:(ρ x).cells[j]? =some y:=by simpa using eT
   simp [Array.getD_eq_getD_getElem?,h]
  rw[this];exact e.mono dl
theorem wS{f:Nat}{cs:List bC}{dI:List Operand}{G:Nat→af}{ao:Nat→af}{a:Act}(bZ:wB κ s ao a)(dX:km κ G)(h:dC cs dI=true):
  dQ P (.makeFunc (.func f) #[] dI.toArray) ty a.eval κ s w (.fn f (cs.map fun x=>(aq G ao x).ap s.aa)) s:=by
 have key:∀(cs:List bC) (dI:List Operand),dC cs dI=true→er κ (s.aa+1) (cs.map fun x=>(aq G ao x).ap s.aa) (dI.map a.eval):=by
  intro cs
  induction cs with
  |nil=>intro dI h;cases dI with
   |nil=>exact .nil _ _
   |cons _ _=>simp [dC] at h
  |cons c cs e=>intro dI h;cases dI with
   |nil=>simp [dC] at h
   |cons y q=>simp only[dC,bn] at h;exact .cons (bp bZ dX h.1) (e q h.2)
 have dl:=key cs dI h;exact bF a6 (.func (.func f) #[] (dI.map a.eval).toArray) (fun _ _ _ _=>by simp [execOp,Instr.makeFunc]) (.fn f _ _ dl.1 dl.2)
theorem pF{G:Nat→af}{ao:Nat→af}{a:Act}(bZ:wB κ s ao a)(dX:km κ G){t:TypeId}{z cs:List af}{ec:List (Nat×Nat×bC)}{q:List (Nat×Operand)}{jH:Array Field}(eh:P.underlying t=some (.struct jH))(hC:j1 P t z=true)
  {pl:Array (Nat×Nat)}(r:(jH.toList.mapM fun f=>(ff P f.type).map fun n=>(f.offset,n))=some pl.toList)(dg:ku (pl[·]?) ec q=true)(a3:fk G s.aa ao z ec=some cs):
  dQ P (.build t q.toArray) ty a.eval κ s w (.agg cs) s:=by
 obtain⟨v,e,au,_,_⟩:=kX hC w;have u:∀(jH:List Field) (pl:List (Nat×Nat)),(jH.mapM fun f=>(ff P f.type).map fun n=>(f.offset,n))=some pl→(jH.mapM fun f=>do pure (f.offset,←sizeOf f.type):Sem _).run P w=.ok pl w:=by
  intro jH
  induction jH with
  |nil=>intro pl h;simp at h;subst h;simp
  |cons f jH y=>
   intro pl h;simp only[List.mapM_cons,Option.bind_eq_bind,Option.bind_eq_some_iff,Option.pure_def,bj] at h;obtain⟨p,fC,ec,A,rfl⟩:=h;cases e4:ff P f.type with
   |none=>simp [e4] at fC
   |some n=>
    simp only[e4,ew,bj] at fC;subst fC
    have:=y ec A;simp only[bind_pure_comp] at this;simp [List.mapM_cons,eC e4,this]
 have hm:(jH.mapM fun f=>do pure (f.offset,←sizeOf f.type):Sem _).run P w=.ok pl w:=by
  rw[Array.mapM_eq_mapM_toList]
  have:=u jH.toList pl.toList r;simp only[bind_pure_comp] at this;simp [this]
 obtain⟨B,hZ,bO⟩:=uH bZ dX _ ec q z cs v.cells.toList dg (au _ _) a3;refine bF a6 (.agg B.toArray) (fun _ _ _ _=>?_) (.agg _ _ bO.1 bO.2);simp only[Array.toArray_toList] at hZ;simp only[bind_pure_comp] at hm;simp [execOp,Instr.build,e,run_underlying eh,hm,hZ]
theorem qi{G:Nat→af}{ao:Nat→af}{a:Act}(bZ:wB κ s ao a)(dX:km κ G){t el:TypeId}{len sz:Nat}{z cs:List af}{ec:List (Nat×Nat×bC)}{h:List (Nat×Operand)}(eh:P.underlying t=some (.array len el))(e4:ff P el=some sz)(hC:j1 P t z=true)
  (dg:ku (fun i=>some (i*sz,sz)) ec h=true)(a3:fk G s.aa ao z ec=some cs):
  dQ P (.build t h.toArray) ty a.eval κ s w (.agg cs) s:=by
 obtain⟨v,e,au,_,_⟩:=kX hC w;obtain⟨q,hZ,bO⟩:=uH bZ dX _ ec h z cs v.cells.toList dg (au _ _) a3;refine bF a6 (.agg q.toArray) (fun _ _ _ _=>?_) (.agg _ _ bO.1 bO.2);simp only[Array.toArray_toList] at hZ;simp [execOp,Instr.build,e,run_underlying eh,eC e4,hZ]
omit a6 in
theorem mU{G:Nat→af}{ao:Nat→af}{a:Act}(bZ:wB κ s ao a)(dX:km κ G)(sz:Nat):∀(ec:List bC) (q:List Operand) (i:Nat) (es:List af) (pre:List Value) (rest:List Value),
  dC ec q=true→es=ec.map (fun x=>(aq G ao x).ap s.aa)→(∀e,e∈es→e.fh=true∧e.cells.length=sz)→pre.length=i*sz→rest.length=q.length*sz→
  ∃xs,Instr.fill (fun i=>some (i*sz,sz)) (pre++rest).toArray ((q.zipIdx i).map fun p=>(p.2,a.eval p.1))=some (pre++xs).toArray∧er κ (s.aa+1) (es.flatMap af.cells) xs
 |[],[],i,es,pre,rest,_,he,_,_,aT=>by
  subst he
  have:rest=[]:=by simpa using aT
  subst this;exact⟨[],by simp [Instr.fill],.nil _ _⟩
 |[],_::_,_,_,_,_,h,_,_,_,_=>by simp [dC] at h
 |_::_,[],_,_,_,_,h,_,_,_,_=>by simp [dC] at h
 |x::ec,y::q,i,es,pre,rest,dg,he,r,fC,aT=>by
  simp only[dC,bn] at dg;subst he;have a8:=bp bZ dX dg.1;obtain⟨au,az⟩:=r ((aq G ao x).ap s.aa) (by simp);have bO:=a8.cells au;have e4:(a.eval y).cells.toList.length=sz:=by rw[bO.1,az]
  have qh:rest.length=sz+q.length*sz:=by rw[aT,bP,Nat.succ_mul,Nat.add_comm]
  have B:dS (pre++rest) (i*sz) (a.eval y).cells.toList=(pre++(a.eval y).cells.toList)++rest.drop sz:=by
   apply List.ext_getElem?;intro j;rw[gP _ _ _ (by simp only[fJ];omega),e4];by_cases H:j<i*sz
   ·rw[if_neg (by omega),ly,hn (by omega),hn (by omega)]
   ·by_cases F:j<i*sz+sz
    ·rw[if_pos ⟨by omega,F⟩,ly,j5 (by omega),hn (by omega),fC]
    ·rw[if_neg (by omega),j5 (by omega),j5 (by simp only[fJ];omega),List.getElem?_drop];congr 1;simp only[fJ];omega
  obtain⟨xs,e,f0⟩:=mU bZ dX sz ec q (i+1) _ (pre++(a.eval y).cells.toList) (rest.drop sz) dg.2 rfl (fun e he=>r e (by simp at he ⊢;exact .inr he)) (by simp only[fJ,fC,e4,Nat.succ_mul]) (by simp only[List.length_drop];omega);refine⟨(a.eval y).cells.toList++xs,?_,by simpa using bO.append f0⟩;have u:(a.eval y).cells.size=sz:=by rw[←Array.length_toList];exact e4
  have hle:decide (i*sz+(a.eval y).cells.size>(pre++rest).toArray.size)=false:=cL (by simp only[List.size_toArray,fJ];omega);have A:=pO (a.eval y).cells (pre++rest).toArray (i*sz);rw[B] at A;simp only[List.zipIdx_cons,fK,Instr.fill,u,ne_eq,not_true_eq_false,dy,Bool.false_or];rw[u] at hle;rw[hle];simp only[bW,↓reduceIte];rw[A,e,ly]
omit a6 in
theorem lE{t el:TypeId}{sz n:Nat}{v:Value}{parts:Array (Nat×Value)}{xs:Array Value}(eh:P.underlying t=some (.slice el))(e4:ff P el=some sz)(bO:(zeroValue el).run P w=.ok v w)(gZ:¬(n*sz>2^24))
  (bB:Instr.fill (fun i=>some (i*sz,sz)) ((Array.range (n*sz)).map (v.cells[· % v.cells.size]!)) parts.toList=some xs):(Instr.buildSlice t n parts).run P w=.ok (.slice (some ⟨w.heap.size,0,none⟩) n n) (w.alloc (.cells xs el)):=by
 unfold Instr.buildSlice;simp only[Sem.run_bind,run_underlying eh,Result.andThen_ok,eC e4];rw[if_neg gZ];by_cases eZ:n*sz=0
 ·have oG:(Array.range (n*sz)).map (fun x=>(#[]:Array Value)[x%(#[]:Array Value).size]!)=(Array.range (n*sz)).map (v.cells[· % v.cells.size]!):=by
   rw[eZ];simp
  rw[if_pos eZ];simp only[Sem.run_bind,Sem.run_pure,Result.andThen_ok];rw[oG,bB];simp [newRow]
 ·rw[if_neg eZ];simp only[Sem.run_bind,bO,Result.andThen_ok,Sem.run_pure];rw[bB];simp [newRow]
theorem qS{G:Nat→af}{ao:Nat→af}{a:Act}(bZ:wB κ s ao a)(dX:km κ G){t el:TypeId}{sz:Nat}{z:List af}{ec:List bC}{r:List Operand}(eh:P.underlying t=some (.slice el))(e4:ff P el=some sz)(hC:j1 P el z=true)(F:z.length=sz)
  (gZ:¬(r.length*sz>2^24))(dg:dC ec r=true)(aT:af.aY (ec.map (aq G ao))=true)(bO:∀e,e∈ec.map (aq G ao)→e.fh=true∧e.cells.length=sz):
  dQ P (.buildSlice t r.length (r.zipIdx.map fun p=>(p.2,p.1)).toArray) ty a.eval κ s w (.bG sz (ec.map (aq G ao)) .exact) s:=by
 obtain⟨v,e,au,_,_⟩:=kX hC w;have B:ec.map (fun x=>(aq G ao x).ap s.aa)=ec.map (aq G ao):=by apply List.map_congr_left;intro x a8;exact js (ej.1 aT _ (List.mem_map_of_mem a8)) _
 have N:v.cells.size=sz:=by rw[←Array.length_toList,(au κ 0).1,F]
 have hlen:(ec.map (aq G ao)).length=r.length:=by
  have:∀(ec:List bC) (r:List Operand),dC ec r=true→ec.length=r.length:=by
   intro ec
   induction ec with
   |nil=>intro r h;cases r<;> simp [dC] at h ⊢
   |cons p ec H=>intro r h;cases r with
    |nil=>simp [dC] at h
    |cons q r=>simp only[dC,bn] at h;simp [H r h.2]
  simp [this ec r dg]
 obtain⟨xs,hZ,f0⟩:=mU bZ dX sz ec r 0 (ec.map (aq G ao)) [] ((Array.range (r.length*sz)).map (v.cells[· % v.cells.size]!)).toList dg B.symm bO (by simp) (by simp);have u:∀dst pos after guard,(execOp a.eval ⟨dst,.buildSlice t r.length (r.zipIdx.map fun p=>(p.2,p.1)).toArray,ty,pos,after,guard⟩).run P w=.ok (.value (.slice (some ⟨w.heap.size,0,none⟩) r.length r.length)) (w.alloc (.cells xs.toArray el)):=by
  intro dst pos after guard;simp only[List.nil_append,Array.toArray_toList] at hZ;have I:=lE (parts:=((r.zipIdx.map fun p=>(p.2,p.1)).toArray.map fun p=>(p.1,a.eval p.2))) eh e4 e gZ (xs:=xs.toArray) (by rw[Array.toList_map,List.map_map];exact hZ)
  have a8:∀(o:Oper),o.op=.buildSlice t r.length (r.zipIdx.map fun p=>(p.2,p.1)).toArray→execOp a.eval o=(do pure (.value (←Instr.buildSlice t r.length ((r.zipIdx.map fun p=>(p.2,p.1)).toArray.map fun p=>(p.1,a.eval p.2)))):Sem Next):=by intro o J;unfold execOp;rw[J]
  rw[a8 _ rfl,Sem.run_bind,I];rfl
 have a3:er κ (s.aa+1) ((ec.map (aq G ao)).flatMap af.cells) xs.toArray.toList:=f0;generalize K:Op.buildSlice t r.length (r.zipIdx.map fun p=>(p.2,p.1)).toArray=op at u ⊢;generalize dp:r.length=n at u hlen;generalize O:ec.map (aq G ao)=es at a3 hlen aT bO ⊢;clear K dp hZ f0 B gZ dg;refine pP a6 (t:=el) a3 (fun A=>.slice (some A) n n) (.bG sz es .exact) (fun κ' dl h9=>?_) u;simp only[af.ap,fi.ap];rw[←hlen];refine .bG sz _ .exact _ _ (fun j=>xs.getD j undef) rfl (aC _) (fun _=>rfl) (fun e he=>(bO e he).2) (.inl fun e he=>ej.1 aT e he) (fun j df=>?_) (fun j c df=>?_)
 ·rw[fZ rfl];simp only[bg];rw[h9 j df];have bK:xs.length=(es.flatMap af.cells).length:=a3.1
  have:j<xs.length:=by omega
  simp [List.getD,this]
 ·obtain⟨y,eT,L⟩:=a3.get df
  have:xs.getD j undef=y:=by have M:xs[j]? =some y:=eT;simp [List.getD,M]
  rw[this];exact L.mono dl
end
theorem wT(c:af):(x8 c).cells=[c]:=by cases c<;> rfl
theorem fr(sz:Nat):∀(n:Nat) (cs:List af),(chunk sz n cs).length=n
 |0,_=>rfl
 |n+1,cs=>by simp [chunk,fr sz n]
theorem kv(sz:Nat)(e4:sz≠0):∀(n:Nat) (cs:List af),n*sz≤cs.length→(chunk sz n cs).flatMap af.cells=cs.take (n*sz)∧∀e,e∈chunk sz n cs→e.cells.length=sz
 |0,cs,_=>by simp [chunk]
 |n+1,cs,h=>by
  rw[Nat.succ_mul] at h;obtain⟨au,az⟩:=kv sz e4 n (cs.drop sz) (by simp;omega);have cS:(mj sz cs).cells=cs.take sz:=by
   unfold mj;split
   ·cases cs with
    |nil=>simp at h
    |cons c cs=>rw[wT];simp
   ·rfl
  have bK:(cs.take sz).length=sz:=by simp;omega
  refine⟨?_,?_⟩
  ·simp only[chunk,List.flatMap_cons];rw[cS,au,Nat.succ_mul,Nat.add_comm,←List.take_add]
  ·intro e he;simp only[chunk,List.mem_cons] at he;rcases he with rfl |he
   ·rw[cS,bK]
   ·exact az e he
section
variable{P:Program}{ty:TypeId}{ρ:Operand→Value}{κ:bi}{s:ag}{w:World}(a6:c3 κ s w)
include a6
theorem tD{v:af}{x:Operand}(a8:dF κ (s.aa+1) (v.ap s.aa) (ρ x))(dp:isNil v=some false):dQ P (.nilCheck x) ty ρ κ s w v s:=by
 refine bF a6 (ρ x) (fun dst pos after guard=>?_) a8;generalize eT:ρ x=y at a8;generalize bO:v.ap s.aa=fG at a8;have e:isNil fG=some false:=by
  rw[←bO];cases v with
  |bG sz es g=>cases g<;> first|exact dp|(simp [isNil] at dp)
  |_=>exact dp
 cases a8<;> simp [isNil] at e<;> simp [execOp,eT]
omit a6 in
theorem C7{v:af}(d:Nat):isNil (v.ap d)=isNil v:=by
 cases v with
 |bG sz es g=>cases g<;> rfl
 |_=>rfl
omit a6 in
theorem zX{e:Pz}{v:af}(d:Nat):gW e (v.ap d)=gW e v:=by cases v<;> cases e<;> rfl
def pQ(e:Pz)(d:TypeDesc):Bool:=
 match e,d with
 |.bool,.bool|.slice,.slice _|.ptr,.pointer _|.func,.func .. |.map,.map .. |.iface,.interface _=>true
 |_,_=>false
omit a6 in
theorem sO(t:TypeId)(X Y:Value):Op.equal t X Y=Op.equalIn (9999+1) t X Y:=rfl
inductive g0:TypeDesc→Value→Value→Bool→Prop
 |bool (a b:Bool):g0 .bool (.bool a) (.bool b) (a==b)
 |PC (el:TypeId) (l c:Nat) (B:Option Addr) (l' nS:Nat):g0 (.slice el) (.slice none l c) (.slice B l' nS) B.isNone
 |PD (el:TypeId) (a:Addr) (l c l' nS:Nat):g0 (.slice el) (.slice (some a) l c) (.slice none l' nS) false
 |abj (el:TypeId) (B:Option Addr):g0 (.pointer el) (.pointer none) (.pointer B) B.isNone
 |abk (el:TypeId) (a:Addr):g0 (.pointer el) (.pointer (some a)) (.pointer none) false
 |func0 (p r:Array TypeId) (v:Bool):g0 (.func p r v) .nilFunc .nilFunc true
 |func1 (p r:Array TypeId) (v:Bool) (f:Fn) (x y:Array Value):g0 (.func p r v) .nilFunc (.func f x y) false
 |func2 (p r:Array TypeId) (v:Bool) (f:Fn) (x y:Array Value):g0 (.func p r v) (.func f x y) .nilFunc false
 |abl (k el:TypeId) (B:Option Nat):g0 (.map k el) (.map none) (.map B) B.isNone
 |abm (k el:TypeId) (a:Nat):g0 (.map k el) (.map (some a)) (.map none) false
 |PE (zY:Array (String×TypeId)) (t:TypeId) (v:Value):g0 (.interface zY) .nilIface (.iface t v) false
 |FF (zY:Array (String×TypeId)) (t:TypeId) (v:Value):g0 (.interface zY) (.iface t v) .nilIface false
omit a6 in
theorem g0.run{t:TypeId}{d:TypeDesc}(eh:P.underlying t=some d){X Y:Value}{b:Bool}(h:g0 d X Y b):(Op.equal t X Y).run P w=.ok b w:=by rw[sO];generalize (9999:Nat)=n;cases h<;> simp only[Op.equalIn,Sem.run_bind,run_underlying eh,Result.andThen_ok,Sem.run_pure]
omit a6 in
theorem g0.guard{d:TypeDesc}{X Y:Value}{b:Bool}(h:g0 d X Y b)(op:BinOp)(t:TypeId)(x y:Operand):(eqGuard op t x y X Y).run P w=.ok () w:=by cases h<;> unfold eqGuard<;> cases op<;> rfl
omit a6 in
theorem g0.gives{t yt:TypeId}{d:TypeDesc}(eh:P.underlying t=some d){x y:Operand}{b:Bool}(neg:Bool)(h:g0 d (ρ x) (ρ y) b)(dst:Option Tmp)(pos:String)(after:Array Edge)(guard:Option (Nat×Bool)):
  (execOp ρ ⟨dst,.binOp (if neg then .neq else .eql) t x y yt,ty,pos,after,guard⟩).run P w=.ok (.value (.bool (bif neg then !b else b))) w:=by
 have au:=h.run (w:=w) eh;have az:=h.guard (P:=P) (w:=w) (if neg then .neq else .eql) t x y;have q:∀(op:BinOp),op=.eql∨op=.neq→binOp op t (ρ x) (ρ y)=match op with
   |.eql=>(do pure (.bool (←Op.equal t (ρ x) (ρ y))):Sem Value)
   |_=>(do pure (.bool (!(←Op.equal t (ρ x) (ρ y)))):Sem Value):=by
  intro op r;generalize ρ x=X at h;generalize ρ y=Y at h;rcases r with rfl |rfl <;> cases h<;> rfl
 cases neg
 ·have e:=q .eql (.inl rfl);simp only[bW,↓reduceIte] at az ⊢;simp only[execOp,Sem.run_bind,az,Result.andThen_ok,e,au,Sem.run_pure,cond_false]
 ·have e:=q .neq (.inr rfl);simp only[↓reduceIte] at az ⊢;simp only[execOp,Sem.run_bind,az,Result.andThen_ok,e,au,Sem.run_pure,b2]
omit a6 in
theorem uJ(e:Pz)(v u:af)(d:Nat):lB e (v.ap d) (u.ap d)=lB e v u:=by
 cases e with
 |bool=>cases v<;> cases u<;> rfl
 |agg=>cases v<;> cases u<;> rfl
 |_=>simp only[lB,zX,C7]
omit a6 in
theorem sP{D:Nat}{v:af}{X:Value}(h:dF κ D v X)(dl:gW .slice v=true):∃A l c,X=.slice A l c∧∀b,isNil v=some b→A.isNone=b:=by
 cases v<;> simp [gW] at dl
 case bG sz es g=>
  rcases h.hG with⟨rfl,rfl,rfl⟩|⟨a,cap,dw,rfl,cC,_⟩
  ·exact⟨_,_,_,rfl,fun b e=>by simpa [isNil] using e⟩
  ·refine⟨_,_,_,rfl,fun b e=>?_⟩;cases g<;> simp [isNil,iF] at e cC<;> simp [←e]
 case cZ a off len cap sz=>cases h;exact⟨_,_,_,rfl,fun b e=>by simpa [isNil] using e⟩
omit a6 in
theorem xw{D:Nat}{v:af}{X:Value}(h:dF κ D v X)(dl:gW .ptr v=true):∃A,X=.pointer A∧∀b,isNil v=some b→A.isNone=b:=by cases h<;> simp [gW] at dl<;> exact⟨_,rfl,fun b e=>by simpa [isNil] using e⟩
omit a6 in
theorem uK{D:Nat}{v:af}{X:Value}(h:dF κ D v X)(dl:gW .func v=true):(X=.nilFunc∧∀b,isNil v=some b→b=true)∨((∃f x y,X=.func f x y)∧∀b,isNil v=some b→b=false):=by
 cases h<;> simp [gW] at dl
 ·exact .inr ⟨⟨_,_,_,rfl⟩,fun b e=>by simpa [isNil] using e.symm⟩
 ·exact .inl ⟨rfl,fun b e=>by simpa [isNil] using e.symm⟩
omit a6 in
theorem xx{D:Nat}{v:af}{X:Value}(h:dF κ D v X)(dl:gW .map v=true):∃A,X=.map A∧∀b,isNil v=some b→A.isNone=b:=by cases h<;> simp [gW] at dl<;> exact⟨_,rfl,fun b e=>by simpa [isNil] using e⟩
omit a6 in
theorem sQ{D:Nat}{v:af}{X:Value}(h:dF κ D v X)(dl:gW .iface v=true):(X=.nilIface∧∀b,isNil v=some b→b=true)∨((∃t x,X=.iface t x)∧∀b,isNil v=some b→b=false):=by
 cases h<;> simp [gW] at dl
 ·exact .inr ⟨⟨_,_,rfl⟩,fun b e=>by simpa [isNil] using e.symm⟩
 ·exact .inl ⟨rfl,fun b e=>by simpa [isNil] using e.symm⟩
omit a6 in
theorem Kh{D:Nat}{e:Pz}{v u:af}{X Y:Value}{d:TypeDesc}{b:Bool}(cS:pQ e d=true)(a8:dF κ D v X)(eT:dF κ D u Y)(h:lB e v u=some b):g0 d X Y b:=by
 have main:e≠.bool→(∀iq,e≠.agg iq)→∃p q,gW e v=true∧gW e u=true∧isNil v=some p∧isNil u=some q∧(p=true∧b=q∧¬(q=true∧e=.iface)∨p=false∧q=true∧b=false):=by
  intro au az;have H:(bif gW e v&&gW e u then
    match isNil v,isNil u with
    |some true,some b=>bif b&&decide (e=.iface) then none else some b
    |some false,some true=>some false
    |_,_=>none
   else none)=some b:=by
   cases e<;> first|exact absurd rfl au|exact absurd rfl (az _)|exact h
  cases dl:(gW e v&&gW e u) with
  |false=>rw[dl] at H;simp at H
  |true=>
   rw[dl,b2] at H;rw[bn] at dl;cases bO:isNil v with
   |none=>rw[bO] at H;simp at H
   |some p=>
    cases hu:isNil u with
    |none=>rw[bO,hu] at H;cases p<;> simp at H
    |some q=>
     rw[bO,hu] at H;refine⟨p,q,dl.1,dl.2,rfl,rfl,?_⟩;cases p
     ·cases q
      ·simp at H
      ·right;simp at H;exact⟨rfl,rfl,H⟩
     ·left
      simp only at H;cases gh:(q&&decide (e=.iface)) with
      |true=>rw[gh] at H;simp at H
      |false=>rw[gh] at H;simp at H gh;exact⟨rfl,H.symm,by simpa using gh⟩
 cases e
 case bool=>
  have L:d=.bool:=by cases d<;> simp [pQ] at cS ⊢
  subst L;cases v<;> cases u<;> simp [lB] at h;subst h;rw[a8.gY,eT.gY];exact .bool _ _
 case agg iq=>cases d<;> simp [pQ] at cS
 case slice=>
  obtain⟨el,rfl⟩:∃el,d=.slice el:=by cases d<;> simp [pQ] at cS ⊢
  obtain⟨p,q,k1,oR,jA,J,I⟩:=main (by simp) (by simp);obtain⟨A,l,c,rfl,r⟩:=sP a8 k1;obtain⟨B,l',nS,rfl,F⟩:=sP eT oR;have r:=r p jA;have F:=F q J;rcases I with⟨rfl,rfl,_⟩|⟨rfl,rfl,rfl⟩
  ·cases A<;> simp at r;rw[←F];exact .PC ..
  ·cases A<;> simp at r;cases B<;> simp at F;exact .PD ..
 case ptr=>
  obtain⟨el,rfl⟩:∃el,d=.pointer el:=by cases d<;> simp [pQ] at cS ⊢
  obtain⟨p,q,k1,oR,jA,J,I⟩:=main (by simp) (by simp);obtain⟨A,rfl,r⟩:=xw a8 k1;obtain⟨B,rfl,F⟩:=xw eT oR;have r:=r p jA;have F:=F q J;rcases I with⟨rfl,rfl,_⟩|⟨rfl,rfl,rfl⟩
  ·cases A<;> simp at r;rw[←F];exact .abj ..
  ·cases A<;> simp at r;cases B<;> simp at F;exact .abk ..
 case map=>
  obtain⟨k,el,rfl⟩:∃k el,d=.map k el:=by cases d<;> simp [pQ] at cS ⊢
  obtain⟨p,q,k1,oR,jA,J,I⟩:=main (by simp) (by simp);obtain⟨A,rfl,r⟩:=xx a8 k1;obtain⟨B,rfl,F⟩:=xx eT oR;have r:=r p jA;have F:=F q J;rcases I with⟨rfl,rfl,_⟩|⟨rfl,rfl,rfl⟩
  ·cases A<;> simp at r;rw[←F];exact .abl ..
  ·cases A<;> simp at r;cases B<;> simp at F;exact .abm ..
 case func=>
  obtain⟨ec,K,oS,rfl⟩:∃ec K oS,d=.func ec K oS:=by cases d<;> simp [pQ] at cS ⊢
  obtain⟨p,q,k1,oR,jA,J,I⟩:=main (by simp) (by simp);rcases uK a8 k1 with⟨rfl,r⟩|⟨⟨f,x,y,rfl⟩,r⟩<;> rcases uK eT oR with⟨rfl,F⟩|⟨⟨wF,kH,tM,rfl⟩,F⟩<;> have r:=r p jA<;> have F:=F q J<;> subst r F<;> simp at I<;> try subst I
  ·exact .func0 ..
  ·exact .func1 ..
  ·exact .func2 ..
 case iface=>
  obtain⟨zY,rfl⟩:∃zY,d=.interface zY:=by cases d<;> simp [pQ] at cS ⊢
  obtain⟨p,q,k1,oR,jA,J,I⟩:=main (by simp) (by simp);rcases sQ a8 k1 with⟨rfl,r⟩|⟨⟨f,x,rfl⟩,r⟩<;> rcases sQ eT oR with⟨rfl,F⟩|⟨⟨wF,kH,rfl⟩,F⟩<;> have r:=r p jA<;> have F:=F q J<;> subst r F<;> simp at I<;> try subst I
  ·exact .PE ..
  ·exact .FF ..
theorem zZ{neg:Bool}{v:af}{t yt:TypeId}{x:Operand}{zY:Array (String×TypeId)}{op:BinOp}{z:af}(u:op=if neg then .neq else .eql)(eh:P.underlying t=some (.interface zY))(a8:dF κ (s.aa+1) (v.ap s.aa) (ρ x))(a3:ρ (.const .nilIface)=.nilIface)(h:ya neg v=some z):dQ P (.binOp op t x (.const .nilIface) yt) ty ρ κ s w z s:=by
 cases v<;> simp [ya] at h
 case iface Pv fG=>
  subst h;obtain⟨y,A,eT⟩:=dF.C4 (t:=Pv) (v:=fG) a8;have bB:g0 (.interface zY) (ρ x) (ρ (.const .nilIface)) false:=by rw[A,a3];exact .FF zY Pv y
  have:=bF (P:=P) (ty:=ty) (o:=.binOp op t x (.const .nilIface) yt) (ρ:=ρ) a6 (v:=.bool neg) _ (fun dst pos after guard=>by have:=bB.gives (ty:=ty) (w:=w) (yt:=yt) eh neg dst pos after guard;rw[u];exact this) (by cases neg<;> exact .bool _)
  exact this
 case hQ=>
  subst h;have ex:ρ x=.nilIface:=by simp only[af.ap] at a8;generalize ρ x=q at a8;cases a8;rfl
  refine bF a6 (.bool (!neg)) (fun dst pos after guard=>?_) (.bool _);subst u;have dU:(Op.equal t .nilIface .nilIface).run P w=.ok true w:=by rw[sO];generalize (9999:Nat)=n;simp only[Op.equalIn,Sem.run_bind,run_underlying eh,Result.andThen_ok,Sem.run_pure]
  cases neg
  ·have e:(eqGuard .eql t x (.const .nilIface) .nilIface .nilIface).run P w=.ok () w:=by
    unfold eqGuard;cases x<;> rfl
   have r:binOp .eql t .nilIface .nilIface=(do pure (.bool (←Op.equal t .nilIface .nilIface)):Sem Value):=rfl;simp only[execOp,bW,↓reduceIte,ex,a3,Sem.run_bind,e,Result.andThen_ok,r,dU,Sem.run_pure,hh]
  ·have e:(eqGuard .neq t x (.const .nilIface) .nilIface .nilIface).run P w=.ok () w:=by
    unfold eqGuard;cases x<;> rfl
   have r:binOp .neq t .nilIface .nilIface=(do pure (.bool (!(←Op.equal t .nilIface .nilIface))):Sem Value):=rfl;simp only[execOp,↓reduceIte,ex,a3,Sem.run_bind,e,Result.andThen_ok,r,dU,Sem.run_pure,gK]
theorem IM{e:Pz}{b neg:Bool}{v u:af}{t yt:TypeId}{x y:Operand}{d:TypeDesc}{op:BinOp}(q:op=if neg then .neq else .eql)(eh:P.underlying t=some d)(cS:pQ e d=true)
  (a8:dF κ (s.aa+1) (v.ap s.aa) (ρ x))(eT:dF κ (s.aa+1) (u.ap s.aa) (ρ y))(h:lB e v u=some b):dQ P (.binOp op t x y yt) ty ρ κ s w (.bool (bif neg then !b else b)) s:=by
 subst q;exact bF a6 _ ((Kh cS a8 eT (by rw[uJ];exact h)).gives eh neg) (.bool _)
end
end Go.Ab
end
